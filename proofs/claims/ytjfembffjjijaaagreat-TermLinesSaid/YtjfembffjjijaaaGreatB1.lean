/- Helpers of this claim, part 1: engine, translated functions, contracts, plain laws. -/
import Derived.Test.YtjfembffjjijaaaGreatB0
import Derived.ProofKit
import Derived.Deep.Slices
import Derived.Deep.Fields
import Derived.ChangeSame
import Derived.Laws.OwnMore
import Derived.Laws.AppendOwn
import Derived.Great.BuildSlice
import Derived.Laws.MakeOwn
import Derived.Laws.AppendOwnNone
import Derived.Maps.AppendAt
import Derived.Deep.Matrix
import Derived.OpenShut
import Derived.Test.YtjfembffjjijaaaGreatProg
import Derived.Laws.StructEq
set_option linter.unusedSimpArgs false
set_option linter.unusedVariables false
namespace Lyc
open Go
structure Chg (F : List Nat) (w w' : World) : Prop where
  os : w'.os = w.os
  tape : w'.tape = w.tape
  output : w'.output = w.output
  size : w.heap.size ≤ w'.heap.size
  same : ∀ b, b < w.heap.size → b ∉ F → w'.heap[b]? = w.heap[b]?
theorem Chg.refl (F : List Nat) (w : World) : Chg F w w := ⟨rfl, rfl, rfl, Nat.le_refl _, fun _ _ _ => rfl⟩
theorem Chg.trans {F F' : List Nat} {a b c : World} (h : Chg F a b) (k : Chg F' b c) (hf : ∀ x ∈ F', x ∈ F ∨ a.heap.size ≤ x) : Chg F a c :=
  ⟨k.os.trans h.os, k.tape.trans h.tape, k.output.trans h.output, Nat.le_trans h.size k.size, fun x hx hn => by
    rw [k.same x (Nat.lt_of_lt_of_le hx h.size) fun hm => (hf x hm).elim hn (fun hle => absurd hx (by omega)), h.same x hx hn]⟩
theorem Chg.trans0 {F : List Nat} {a b c : World} (h : Chg F a b) (k : Chg [] b c) : Chg F a c := h.trans k (by simp)
theorem Chg.mono {F F' : List Nat} {a b : World} (h : Chg F a b) (hf : ∀ x ∈ F, x ∈ F' ∨ a.heap.size ≤ x) : Chg F' a b := (Chg.refl F' a).trans h hf
theorem Chg.alloc {F : List Nat} {a b : World} (h : Chg F a b) (o : Obj) : Chg F a (b.alloc o) :=
  h.trans (F' := []) ⟨rfl, rfl, rfl, by simp, fun x hx _ => heap_alloc_old b o x hx⟩ (by simp)
theorem Chg.drew {F : List Nat} {a b : World} (h : Chg F a b) : Chg F a b.drew := ⟨h.os, h.tape, h.output, h.size, h.same⟩
theorem Chg.set {F : List Nat} {a b : World} (h : Chg F a b) (x : Nat) (o : Obj) (hx : x ∈ F ∨ a.heap.size ≤ x) : Chg F a (setBlk b x o) :=
  h.trans (F' := [x]) ⟨rfl, rfl, rfl, by rw [size_setBlk]; exact Nat.le_refl _, fun y _ hn => heap_set_other b x o y (by simpa using hn)⟩ (by simpa using hx)
theorem Chg.below {w w' : World} (h : Chg [] w w') : Go.RowKit.Below w.heap.size w w' := ⟨h.os, h.tape, h.output, h.size, fun k hk => h.same k hk (by simp)⟩
theorem Chg.lt {F : List Nat} {w w' : World} (h : Chg F w w') {b : Nat} (hb : b < w.heap.size) : b < w'.heap.size := Nat.lt_of_lt_of_le hb h.size
theorem Chg.keep {F : List Nat} {w w' : World} (h : Chg F w w') {b : Nat} {o : Obj} (hb : w.heap[b]? = some o) (hn : b ∉ F) : w'.heap[b]? = some o := (h.same b (lt_of_heap hb) hn).trans hb
def SlA (w : World) (v : Value) (len m : Nat) (g : Nat → List Value) : Prop :=
  ∃ a cap, v = .slice a len cap ∧ ∀ i, i < len → ∃ b o, a = some ⟨b, o, none⟩ ∧ b < w.heap.size ∧ aggAt w.heap[b]? (o + i * m) m = some (g i).toArray
theorem aggAt_of {x : Option Obj} {o n : Nat} {l : List Value} (hl : l.length = n) (h0 : 0 < n) (h : ∀ j, j < n → cellAt x (o + j) = l[j]?) : aggAt x o n = some l.toArray := by
  have h1 := h 0 h0
  have hl0 : ∃ v, l[0]? = some v := ⟨l[0]'(by omega), by simp⟩
  obtain ⟨v0, hl0⟩ := hl0
  rw [hl0] at h1
  cases x with
  | none => simp [cellAt] at h1
  | some x =>
    cases x with
    | cells c e fr =>
      rw [aggAt_cells]
      have hle : o + n ≤ c.size := by
        have := h (n - 1) (by omega)
        rw [cellAt_cells] at this
        rcases Nat.lt_or_ge (o + (n - 1)) c.size with h' | h'
        · omega
        · rw [Array.getElem?_eq_none h'] at this
          have : n - 1 < l.length := by omega
          simp [this] at *
      rw [if_pos hle]
      congr 1
      apply Array.ext_getElem?
      intro i
      rcases Nat.lt_or_ge i n with hi | hi
      · have := h i hi
        rw [cellAt_cells] at this
        rw [Array.getElem?_extract_of_lt (by omega), List.getElem?_toArray, ← this]
        simp [show o + i < c.size by omega]
      · rw [Array.getElem?_eq_none (by simp; omega), Array.getElem?_eq_none (by simp; omega)]
    | _ => simp [cellAt] at h1
theorem SlA.at {w w' : World} {v : Value} {len m : Nat} {g : Nat → List Value} (h : SlA w v len m g) {F : List Nat} (hc : Chg F w w') (hF : ∀ x ∈ F, w.heap.size ≤ x) (i : Nat) (hi : i < len) :
    ∃ a cap b o, v = .slice a len cap ∧ a = some ⟨b, o, none⟩ ∧ b < w.heap.size ∧ aggAt w'.heap[b]? (o + i * m) m = some (g i).toArray := by
  obtain ⟨a, cap, hv, h⟩ := h
  obtain ⟨b, o, ha, hb, he⟩ := h i hi
  exact ⟨a, cap, b, o, hv, ha, hb, by rw [hc.same b hb fun hm => absurd (hF b hm) (by omega)]; exact he⟩
noncomputable def least (p : Nat → Prop) : Nat := open Classical in if h : ∃ n, p n ∧ ∀ m, p m → n ≤ m then Classical.choose h else 0
theorem least_spec {p : Nat → Prop} {n : Nat} (h : p n) : p (least p) ∧ ∀ m, p m → least p ≤ m := by
  have : ∃ n, p n ∧ ∀ m, p m → n ≤ m := by
    induction n using Nat.strongRecOn with
    | ind n ih =>
      by_cases hh : ∃ m, m < n ∧ p m
      · obtain ⟨m, hm, hp⟩ := hh; exact ih m hm hp
      · exact ⟨n, h, fun m hm => Nat.not_lt.mp fun hl => hh ⟨m, hl, hm⟩⟩
  unfold least
  rw [dif_pos this]
  exact Classical.choose_spec this
theorem Join0.cutK {M : (World → Prop) → World → Prop} {K : World → Prop} {w : World} (R : World → Prop) (h : ∀ k : World → Prop, (∀ w', R w' → k w') → M k w) (hk : ∀ w', R w' → K w') : Join0 M K w := ⟨R, h R (fun _ h => h), hk⟩
theorem Join1.cutK {M : (Value → World → Prop) → World → Prop} {K : Value → World → Prop} {w : World} (R : Value → World → Prop) (h : ∀ k : Value → World → Prop, (∀ u0 w', R u0 w' → k u0 w') → M k w) (hk : ∀ u0 w', R u0 w' → K u0 w') : Join1 M K w := ⟨R, h R (fun _ _ h => h), hk⟩
theorem Join2.cutK {M : (Value → Value → World → Prop) → World → Prop} {K : Value → Value → World → Prop} {w : World} (R : Value → Value → World → Prop) (h : ∀ k : Value → Value → World → Prop, (∀ u0 u1 w', R u0 u1 w' → k u0 u1 w') → M k w) (hk : ∀ u0 u1 w', R u0 u1 w' → K u0 u1 w') : Join2 M K w := ⟨R, h R (fun _ _ _ h => h), hk⟩
theorem Join3.cutK {M : (Value → Value → Value → World → Prop) → World → Prop} {K : Value → Value → Value → World → Prop} {w : World} (R : Value → Value → Value → World → Prop) (h : ∀ k : Value → Value → Value → World → Prop, (∀ u0 u1 u2 w', R u0 u1 u2 w' → k u0 u1 u2 w') → M k w) (hk : ∀ u0 u1 u2 w', R u0 u1 u2 w' → K u0 u1 u2 w') : Join3 M K w := ⟨R, h R (fun _ _ _ _ h => h), hk⟩
theorem Join4.cutK {M : (Value → Value → Value → Value → World → Prop) → World → Prop} {K : Value → Value → Value → Value → World → Prop} {w : World} (R : Value → Value → Value → Value → World → Prop) (h : ∀ k : Value → Value → Value → Value → World → Prop, (∀ u0 u1 u2 u3 w', R u0 u1 u2 u3 w' → k u0 u1 u2 u3 w') → M k w) (hk : ∀ u0 u1 u2 u3 w', R u0 u1 u2 u3 w' → K u0 u1 u2 u3 w') : Join4 M K w := ⟨R, h R (fun _ _ _ _ _ h => h), hk⟩
theorem Join5.cutK {M : (Value → Value → Value → Value → Value → World → Prop) → World → Prop} {K : Value → Value → Value → Value → Value → World → Prop} {w : World} (R : Value → Value → Value → Value → Value → World → Prop) (h : ∀ k : Value → Value → Value → Value → Value → World → Prop, (∀ u0 u1 u2 u3 u4 w', R u0 u1 u2 u3 u4 w' → k u0 u1 u2 u3 u4 w') → M k w) (hk : ∀ u0 u1 u2 u3 u4 w', R u0 u1 u2 u3 u4 w' → K u0 u1 u2 u3 u4 w') : Join5 M K w := ⟨R, h R (fun _ _ _ _ _ _ h => h), hk⟩
theorem Join6.cutK {M : (Value → Value → Value → Value → Value → Value → World → Prop) → World → Prop} {K : Value → Value → Value → Value → Value → Value → World → Prop} {w : World} (R : Value → Value → Value → Value → Value → Value → World → Prop) (h : ∀ k : Value → Value → Value → Value → Value → Value → World → Prop, (∀ u0 u1 u2 u3 u4 u5 w', R u0 u1 u2 u3 u4 u5 w' → k u0 u1 u2 u3 u4 u5 w') → M k w) (hk : ∀ u0 u1 u2 u3 u4 u5 w', R u0 u1 u2 u3 u4 u5 w' → K u0 u1 u2 u3 u4 u5 w') : Join6 M K w := ⟨R, h R (fun _ _ _ _ _ _ _ h => h), hk⟩
theorem Join7.cutK {M : (Value → Value → Value → Value → Value → Value → Value → World → Prop) → World → Prop} {K : Value → Value → Value → Value → Value → Value → Value → World → Prop} {w : World} (R : Value → Value → Value → Value → Value → Value → Value → World → Prop) (h : ∀ k : Value → Value → Value → Value → Value → Value → Value → World → Prop, (∀ u0 u1 u2 u3 u4 u5 u6 w', R u0 u1 u2 u3 u4 u5 u6 w' → k u0 u1 u2 u3 u4 u5 u6 w') → M k w) (hk : ∀ u0 u1 u2 u3 u4 u5 u6 w', R u0 u1 u2 u3 u4 u5 u6 w' → K u0 u1 u2 u3 u4 u5 u6 w') : Join7 M K w := ⟨R, h R (fun _ _ _ _ _ _ _ _ h => h), hk⟩
theorem Join8.cutK {M : (Value → Value → Value → Value → Value → Value → Value → Value → World → Prop) → World → Prop} {K : Value → Value → Value → Value → Value → Value → Value → Value → World → Prop} {w : World} (R : Value → Value → Value → Value → Value → Value → Value → Value → World → Prop) (h : ∀ k : Value → Value → Value → Value → Value → Value → Value → Value → World → Prop, (∀ u0 u1 u2 u3 u4 u5 u6 u7 w', R u0 u1 u2 u3 u4 u5 u6 u7 w' → k u0 u1 u2 u3 u4 u5 u6 u7 w') → M k w) (hk : ∀ u0 u1 u2 u3 u4 u5 u6 u7 w', R u0 u1 u2 u3 u4 u5 u6 u7 w' → K u0 u1 u2 u3 u4 u5 u6 u7 w') : Join8 M K w := ⟨R, h R (fun _ _ _ _ _ _ _ _ _ h => h), hk⟩
theorem Loop0.st {body : (World → Prop) → World → Prop} {w : World} {St : Type} (I : St → World → Prop) (μ : St → Nat) (s : St) (h0 : I s w)
    (round : ∀ (next : World → Prop) (s : St) (w : World), (∀ s' w', I s' w' → μ s' < μ s → next w') → I s w → body next w) : Loop0 body w := by
  refine ⟨fun w' => ∃ s, (True) ∧ I s w', fun w' => least fun n => ∃ s, (True) ∧ I s w' ∧ μ s = n, ⟨s, trivial, h0⟩, ?_⟩
  rintro w ⟨sa, ha, hIa⟩
  obtain ⟨⟨s, hs, hI, hm⟩, -⟩ := least_spec (p := fun n => ∃ s, (True) ∧ I s w ∧ μ s = n) ⟨sa, ha, hIa, rfl⟩
  obtain - := hs
  refine round _ s w (fun s' w' hI' hlt => ⟨⟨s', trivial, hI'⟩, ?_⟩) hI
  rw [← hm]
  exact Nat.lt_of_le_of_lt ((least_spec (p := fun n => ∃ s, _ ∧ I s w' ∧ μ s = n) ⟨s', trivial, hI', rfl⟩).2 _ ⟨s', trivial, hI', rfl⟩) hlt
theorem Loop1.st {s0 : Value} {body : Value → (Value → World → Prop) → World → Prop} {w : World} {St : Type} (f0 : St → Value) (I : St → World → Prop) (μ : St → Nat) (s : St) (e0 : s0 = f0 s) (h0 : I s w)
    (round : ∀ (next : Value → World → Prop) (s : St) (w : World), (∀ s' w', I s' w' → μ s' < μ s → next (f0 s') w') → I s w → body (f0 s) next w) : Loop1 s0 body w := by
  refine ⟨fun v0 w' => ∃ s, (v0 = f0 s ∧ True) ∧ I s w', fun v0 w' => least fun n => ∃ s, (v0 = f0 s ∧ True) ∧ I s w' ∧ μ s = n, ⟨s, ⟨e0, trivial⟩, h0⟩, ?_⟩
  rintro v0 w ⟨sa, ha, hIa⟩
  obtain ⟨⟨s, hs, hI, hm⟩, -⟩ := least_spec (p := fun n => ∃ s, (v0 = f0 s ∧ True) ∧ I s w ∧ μ s = n) ⟨sa, ha, hIa, rfl⟩
  obtain ⟨rfl, -⟩ := hs
  refine round _ s w (fun s' w' hI' hlt => ⟨⟨s', ⟨rfl, trivial⟩, hI'⟩, ?_⟩) hI
  rw [← hm]
  exact Nat.lt_of_le_of_lt ((least_spec (p := fun n => ∃ s, _ ∧ I s w' ∧ μ s = n) ⟨s', ⟨rfl, trivial⟩, hI', rfl⟩).2 _ ⟨s', ⟨rfl, trivial⟩, hI', rfl⟩) hlt
theorem Loop2.st {s0 s1 : Value} {body : Value → Value → (Value → Value → World → Prop) → World → Prop} {w : World} {St : Type} (f0 f1 : St → Value) (I : St → World → Prop) (μ : St → Nat) (s : St) (e0 : s0 = f0 s) (e1 : s1 = f1 s) (h0 : I s w)
    (round : ∀ (next : Value → Value → World → Prop) (s : St) (w : World), (∀ s' w', I s' w' → μ s' < μ s → next (f0 s') (f1 s') w') → I s w → body (f0 s) (f1 s) next w) : Loop2 s0 s1 body w := by
  refine ⟨fun v0 v1 w' => ∃ s, (v0 = f0 s ∧ v1 = f1 s ∧ True) ∧ I s w', fun v0 v1 w' => least fun n => ∃ s, (v0 = f0 s ∧ v1 = f1 s ∧ True) ∧ I s w' ∧ μ s = n, ⟨s, ⟨e0, e1, trivial⟩, h0⟩, ?_⟩
  rintro v0 v1 w ⟨sa, ha, hIa⟩
  obtain ⟨⟨s, hs, hI, hm⟩, -⟩ := least_spec (p := fun n => ∃ s, (v0 = f0 s ∧ v1 = f1 s ∧ True) ∧ I s w ∧ μ s = n) ⟨sa, ha, hIa, rfl⟩
  obtain ⟨rfl, rfl, -⟩ := hs
  refine round _ s w (fun s' w' hI' hlt => ⟨⟨s', ⟨rfl, rfl, trivial⟩, hI'⟩, ?_⟩) hI
  rw [← hm]
  exact Nat.lt_of_le_of_lt ((least_spec (p := fun n => ∃ s, _ ∧ I s w' ∧ μ s = n) ⟨s', ⟨rfl, rfl, trivial⟩, hI', rfl⟩).2 _ ⟨s', ⟨rfl, rfl, trivial⟩, hI', rfl⟩) hlt
theorem Loop3.st {s0 s1 s2 : Value} {body : Value → Value → Value → (Value → Value → Value → World → Prop) → World → Prop} {w : World} {St : Type} (f0 f1 f2 : St → Value) (I : St → World → Prop) (μ : St → Nat) (s : St) (e0 : s0 = f0 s) (e1 : s1 = f1 s) (e2 : s2 = f2 s) (h0 : I s w)
    (round : ∀ (next : Value → Value → Value → World → Prop) (s : St) (w : World), (∀ s' w', I s' w' → μ s' < μ s → next (f0 s') (f1 s') (f2 s') w') → I s w → body (f0 s) (f1 s) (f2 s) next w) : Loop3 s0 s1 s2 body w := by
  refine ⟨fun v0 v1 v2 w' => ∃ s, (v0 = f0 s ∧ v1 = f1 s ∧ v2 = f2 s ∧ True) ∧ I s w', fun v0 v1 v2 w' => least fun n => ∃ s, (v0 = f0 s ∧ v1 = f1 s ∧ v2 = f2 s ∧ True) ∧ I s w' ∧ μ s = n, ⟨s, ⟨e0, e1, e2, trivial⟩, h0⟩, ?_⟩
  rintro v0 v1 v2 w ⟨sa, ha, hIa⟩
  obtain ⟨⟨s, hs, hI, hm⟩, -⟩ := least_spec (p := fun n => ∃ s, (v0 = f0 s ∧ v1 = f1 s ∧ v2 = f2 s ∧ True) ∧ I s w ∧ μ s = n) ⟨sa, ha, hIa, rfl⟩
  obtain ⟨rfl, rfl, rfl, -⟩ := hs
  refine round _ s w (fun s' w' hI' hlt => ⟨⟨s', ⟨rfl, rfl, rfl, trivial⟩, hI'⟩, ?_⟩) hI
  rw [← hm]
  exact Nat.lt_of_le_of_lt ((least_spec (p := fun n => ∃ s, _ ∧ I s w' ∧ μ s = n) ⟨s', ⟨rfl, rfl, rfl, trivial⟩, hI', rfl⟩).2 _ ⟨s', ⟨rfl, rfl, rfl, trivial⟩, hI', rfl⟩) hlt
theorem Loop4.st {s0 s1 s2 s3 : Value} {body : Value → Value → Value → Value → (Value → Value → Value → Value → World → Prop) → World → Prop} {w : World} {St : Type} (f0 f1 f2 f3 : St → Value) (I : St → World → Prop) (μ : St → Nat) (s : St) (e0 : s0 = f0 s) (e1 : s1 = f1 s) (e2 : s2 = f2 s) (e3 : s3 = f3 s) (h0 : I s w)
    (round : ∀ (next : Value → Value → Value → Value → World → Prop) (s : St) (w : World), (∀ s' w', I s' w' → μ s' < μ s → next (f0 s') (f1 s') (f2 s') (f3 s') w') → I s w → body (f0 s) (f1 s) (f2 s) (f3 s) next w) : Loop4 s0 s1 s2 s3 body w := by
  refine ⟨fun v0 v1 v2 v3 w' => ∃ s, (v0 = f0 s ∧ v1 = f1 s ∧ v2 = f2 s ∧ v3 = f3 s ∧ True) ∧ I s w', fun v0 v1 v2 v3 w' => least fun n => ∃ s, (v0 = f0 s ∧ v1 = f1 s ∧ v2 = f2 s ∧ v3 = f3 s ∧ True) ∧ I s w' ∧ μ s = n, ⟨s, ⟨e0, e1, e2, e3, trivial⟩, h0⟩, ?_⟩
  rintro v0 v1 v2 v3 w ⟨sa, ha, hIa⟩
  obtain ⟨⟨s, hs, hI, hm⟩, -⟩ := least_spec (p := fun n => ∃ s, (v0 = f0 s ∧ v1 = f1 s ∧ v2 = f2 s ∧ v3 = f3 s ∧ True) ∧ I s w ∧ μ s = n) ⟨sa, ha, hIa, rfl⟩
  obtain ⟨rfl, rfl, rfl, rfl, -⟩ := hs
  refine round _ s w (fun s' w' hI' hlt => ⟨⟨s', ⟨rfl, rfl, rfl, rfl, trivial⟩, hI'⟩, ?_⟩) hI
  rw [← hm]
  exact Nat.lt_of_le_of_lt ((least_spec (p := fun n => ∃ s, _ ∧ I s w' ∧ μ s = n) ⟨s', ⟨rfl, rfl, rfl, rfl, trivial⟩, hI', rfl⟩).2 _ ⟨s', ⟨rfl, rfl, rfl, rfl, trivial⟩, hI', rfl⟩) hlt
theorem Loop5.st {s0 s1 s2 s3 s4 : Value} {body : Value → Value → Value → Value → Value → (Value → Value → Value → Value → Value → World → Prop) → World → Prop} {w : World} {St : Type} (f0 f1 f2 f3 f4 : St → Value) (I : St → World → Prop) (μ : St → Nat) (s : St) (e0 : s0 = f0 s) (e1 : s1 = f1 s) (e2 : s2 = f2 s) (e3 : s3 = f3 s) (e4 : s4 = f4 s) (h0 : I s w)
    (round : ∀ (next : Value → Value → Value → Value → Value → World → Prop) (s : St) (w : World), (∀ s' w', I s' w' → μ s' < μ s → next (f0 s') (f1 s') (f2 s') (f3 s') (f4 s') w') → I s w → body (f0 s) (f1 s) (f2 s) (f3 s) (f4 s) next w) : Loop5 s0 s1 s2 s3 s4 body w := by
  refine ⟨fun v0 v1 v2 v3 v4 w' => ∃ s, (v0 = f0 s ∧ v1 = f1 s ∧ v2 = f2 s ∧ v3 = f3 s ∧ v4 = f4 s ∧ True) ∧ I s w', fun v0 v1 v2 v3 v4 w' => least fun n => ∃ s, (v0 = f0 s ∧ v1 = f1 s ∧ v2 = f2 s ∧ v3 = f3 s ∧ v4 = f4 s ∧ True) ∧ I s w' ∧ μ s = n, ⟨s, ⟨e0, e1, e2, e3, e4, trivial⟩, h0⟩, ?_⟩
  rintro v0 v1 v2 v3 v4 w ⟨sa, ha, hIa⟩
  obtain ⟨⟨s, hs, hI, hm⟩, -⟩ := least_spec (p := fun n => ∃ s, (v0 = f0 s ∧ v1 = f1 s ∧ v2 = f2 s ∧ v3 = f3 s ∧ v4 = f4 s ∧ True) ∧ I s w ∧ μ s = n) ⟨sa, ha, hIa, rfl⟩
  obtain ⟨rfl, rfl, rfl, rfl, rfl, -⟩ := hs
  refine round _ s w (fun s' w' hI' hlt => ⟨⟨s', ⟨rfl, rfl, rfl, rfl, rfl, trivial⟩, hI'⟩, ?_⟩) hI
  rw [← hm]
  exact Nat.lt_of_le_of_lt ((least_spec (p := fun n => ∃ s, _ ∧ I s w' ∧ μ s = n) ⟨s', ⟨rfl, rfl, rfl, rfl, rfl, trivial⟩, hI', rfl⟩).2 _ ⟨s', ⟨rfl, rfl, rfl, rfl, rfl, trivial⟩, hI', rfl⟩) hlt
theorem Loop6.st {s0 s1 s2 s3 s4 s5 : Value} {body : Value → Value → Value → Value → Value → Value → (Value → Value → Value → Value → Value → Value → World → Prop) → World → Prop} {w : World} {St : Type} (f0 f1 f2 f3 f4 f5 : St → Value) (I : St → World → Prop) (μ : St → Nat) (s : St) (e0 : s0 = f0 s) (e1 : s1 = f1 s) (e2 : s2 = f2 s) (e3 : s3 = f3 s) (e4 : s4 = f4 s) (e5 : s5 = f5 s) (h0 : I s w)
    (round : ∀ (next : Value → Value → Value → Value → Value → Value → World → Prop) (s : St) (w : World), (∀ s' w', I s' w' → μ s' < μ s → next (f0 s') (f1 s') (f2 s') (f3 s') (f4 s') (f5 s') w') → I s w → body (f0 s) (f1 s) (f2 s) (f3 s) (f4 s) (f5 s) next w) : Loop6 s0 s1 s2 s3 s4 s5 body w := by
  refine ⟨fun v0 v1 v2 v3 v4 v5 w' => ∃ s, (v0 = f0 s ∧ v1 = f1 s ∧ v2 = f2 s ∧ v3 = f3 s ∧ v4 = f4 s ∧ v5 = f5 s ∧ True) ∧ I s w', fun v0 v1 v2 v3 v4 v5 w' => least fun n => ∃ s, (v0 = f0 s ∧ v1 = f1 s ∧ v2 = f2 s ∧ v3 = f3 s ∧ v4 = f4 s ∧ v5 = f5 s ∧ True) ∧ I s w' ∧ μ s = n, ⟨s, ⟨e0, e1, e2, e3, e4, e5, trivial⟩, h0⟩, ?_⟩
  rintro v0 v1 v2 v3 v4 v5 w ⟨sa, ha, hIa⟩
  obtain ⟨⟨s, hs, hI, hm⟩, -⟩ := least_spec (p := fun n => ∃ s, (v0 = f0 s ∧ v1 = f1 s ∧ v2 = f2 s ∧ v3 = f3 s ∧ v4 = f4 s ∧ v5 = f5 s ∧ True) ∧ I s w ∧ μ s = n) ⟨sa, ha, hIa, rfl⟩
  obtain ⟨rfl, rfl, rfl, rfl, rfl, rfl, -⟩ := hs
  refine round _ s w (fun s' w' hI' hlt => ⟨⟨s', ⟨rfl, rfl, rfl, rfl, rfl, rfl, trivial⟩, hI'⟩, ?_⟩) hI
  rw [← hm]
  exact Nat.lt_of_le_of_lt ((least_spec (p := fun n => ∃ s, _ ∧ I s w' ∧ μ s = n) ⟨s', ⟨rfl, rfl, rfl, rfl, rfl, rfl, trivial⟩, hI', rfl⟩).2 _ ⟨s', ⟨rfl, rfl, rfl, rfl, rfl, rfl, trivial⟩, hI', rfl⟩) hlt
theorem Loop7.st {s0 s1 s2 s3 s4 s5 s6 : Value} {body : Value → Value → Value → Value → Value → Value → Value → (Value → Value → Value → Value → Value → Value → Value → World → Prop) → World → Prop} {w : World} {St : Type} (f0 f1 f2 f3 f4 f5 f6 : St → Value) (I : St → World → Prop) (μ : St → Nat) (s : St) (e0 : s0 = f0 s) (e1 : s1 = f1 s) (e2 : s2 = f2 s) (e3 : s3 = f3 s) (e4 : s4 = f4 s) (e5 : s5 = f5 s) (e6 : s6 = f6 s) (h0 : I s w)
    (round : ∀ (next : Value → Value → Value → Value → Value → Value → Value → World → Prop) (s : St) (w : World), (∀ s' w', I s' w' → μ s' < μ s → next (f0 s') (f1 s') (f2 s') (f3 s') (f4 s') (f5 s') (f6 s') w') → I s w → body (f0 s) (f1 s) (f2 s) (f3 s) (f4 s) (f5 s) (f6 s) next w) : Loop7 s0 s1 s2 s3 s4 s5 s6 body w := by
  refine ⟨fun v0 v1 v2 v3 v4 v5 v6 w' => ∃ s, (v0 = f0 s ∧ v1 = f1 s ∧ v2 = f2 s ∧ v3 = f3 s ∧ v4 = f4 s ∧ v5 = f5 s ∧ v6 = f6 s ∧ True) ∧ I s w', fun v0 v1 v2 v3 v4 v5 v6 w' => least fun n => ∃ s, (v0 = f0 s ∧ v1 = f1 s ∧ v2 = f2 s ∧ v3 = f3 s ∧ v4 = f4 s ∧ v5 = f5 s ∧ v6 = f6 s ∧ True) ∧ I s w' ∧ μ s = n, ⟨s, ⟨e0, e1, e2, e3, e4, e5, e6, trivial⟩, h0⟩, ?_⟩
  rintro v0 v1 v2 v3 v4 v5 v6 w ⟨sa, ha, hIa⟩
  obtain ⟨⟨s, hs, hI, hm⟩, -⟩ := least_spec (p := fun n => ∃ s, (v0 = f0 s ∧ v1 = f1 s ∧ v2 = f2 s ∧ v3 = f3 s ∧ v4 = f4 s ∧ v5 = f5 s ∧ v6 = f6 s ∧ True) ∧ I s w ∧ μ s = n) ⟨sa, ha, hIa, rfl⟩
  obtain ⟨rfl, rfl, rfl, rfl, rfl, rfl, rfl, -⟩ := hs
  refine round _ s w (fun s' w' hI' hlt => ⟨⟨s', ⟨rfl, rfl, rfl, rfl, rfl, rfl, rfl, trivial⟩, hI'⟩, ?_⟩) hI
  rw [← hm]
  exact Nat.lt_of_le_of_lt ((least_spec (p := fun n => ∃ s, _ ∧ I s w' ∧ μ s = n) ⟨s', ⟨rfl, rfl, rfl, rfl, rfl, rfl, rfl, trivial⟩, hI', rfl⟩).2 _ ⟨s', ⟨rfl, rfl, rfl, rfl, rfl, rfl, rfl, trivial⟩, hI', rfl⟩) hlt
theorem Loop8.st {s0 s1 s2 s3 s4 s5 s6 s7 : Value} {body : Value → Value → Value → Value → Value → Value → Value → Value → (Value → Value → Value → Value → Value → Value → Value → Value → World → Prop) → World → Prop} {w : World} {St : Type} (f0 f1 f2 f3 f4 f5 f6 f7 : St → Value) (I : St → World → Prop) (μ : St → Nat) (s : St) (e0 : s0 = f0 s) (e1 : s1 = f1 s) (e2 : s2 = f2 s) (e3 : s3 = f3 s) (e4 : s4 = f4 s) (e5 : s5 = f5 s) (e6 : s6 = f6 s) (e7 : s7 = f7 s) (h0 : I s w)
    (round : ∀ (next : Value → Value → Value → Value → Value → Value → Value → Value → World → Prop) (s : St) (w : World), (∀ s' w', I s' w' → μ s' < μ s → next (f0 s') (f1 s') (f2 s') (f3 s') (f4 s') (f5 s') (f6 s') (f7 s') w') → I s w → body (f0 s) (f1 s) (f2 s) (f3 s) (f4 s) (f5 s) (f6 s) (f7 s) next w) : Loop8 s0 s1 s2 s3 s4 s5 s6 s7 body w := by
  refine ⟨fun v0 v1 v2 v3 v4 v5 v6 v7 w' => ∃ s, (v0 = f0 s ∧ v1 = f1 s ∧ v2 = f2 s ∧ v3 = f3 s ∧ v4 = f4 s ∧ v5 = f5 s ∧ v6 = f6 s ∧ v7 = f7 s ∧ True) ∧ I s w', fun v0 v1 v2 v3 v4 v5 v6 v7 w' => least fun n => ∃ s, (v0 = f0 s ∧ v1 = f1 s ∧ v2 = f2 s ∧ v3 = f3 s ∧ v4 = f4 s ∧ v5 = f5 s ∧ v6 = f6 s ∧ v7 = f7 s ∧ True) ∧ I s w' ∧ μ s = n, ⟨s, ⟨e0, e1, e2, e3, e4, e5, e6, e7, trivial⟩, h0⟩, ?_⟩
  rintro v0 v1 v2 v3 v4 v5 v6 v7 w ⟨sa, ha, hIa⟩
  obtain ⟨⟨s, hs, hI, hm⟩, -⟩ := least_spec (p := fun n => ∃ s, (v0 = f0 s ∧ v1 = f1 s ∧ v2 = f2 s ∧ v3 = f3 s ∧ v4 = f4 s ∧ v5 = f5 s ∧ v6 = f6 s ∧ v7 = f7 s ∧ True) ∧ I s w ∧ μ s = n) ⟨sa, ha, hIa, rfl⟩
  obtain ⟨rfl, rfl, rfl, rfl, rfl, rfl, rfl, rfl, -⟩ := hs
  refine round _ s w (fun s' w' hI' hlt => ⟨⟨s', ⟨rfl, rfl, rfl, rfl, rfl, rfl, rfl, rfl, trivial⟩, hI'⟩, ?_⟩) hI
  rw [← hm]
  exact Nat.lt_of_le_of_lt ((least_spec (p := fun n => ∃ s, _ ∧ I s w' ∧ μ s = n) ⟨s', ⟨rfl, rfl, rfl, rfl, rfl, rfl, rfl, rfl, trivial⟩, hI', rfl⟩).2 _ ⟨s', ⟨rfl, rfl, rfl, rfl, rfl, rfl, rfl, rfl, trivial⟩, hI', rfl⟩) hlt
theorem Loop9.st {s0 s1 s2 s3 s4 s5 s6 s7 s8 : Value} {body : Value → Value → Value → Value → Value → Value → Value → Value → Value → (Value → Value → Value → Value → Value → Value → Value → Value → Value → World → Prop) → World → Prop} {w : World} {St : Type} (f0 f1 f2 f3 f4 f5 f6 f7 f8 : St → Value) (I : St → World → Prop) (μ : St → Nat) (s : St) (e0 : s0 = f0 s) (e1 : s1 = f1 s) (e2 : s2 = f2 s) (e3 : s3 = f3 s) (e4 : s4 = f4 s) (e5 : s5 = f5 s) (e6 : s6 = f6 s) (e7 : s7 = f7 s) (e8 : s8 = f8 s) (h0 : I s w)
    (round : ∀ (next : Value → Value → Value → Value → Value → Value → Value → Value → Value → World → Prop) (s : St) (w : World), (∀ s' w', I s' w' → μ s' < μ s → next (f0 s') (f1 s') (f2 s') (f3 s') (f4 s') (f5 s') (f6 s') (f7 s') (f8 s') w') → I s w → body (f0 s) (f1 s) (f2 s) (f3 s) (f4 s) (f5 s) (f6 s) (f7 s) (f8 s) next w) : Loop9 s0 s1 s2 s3 s4 s5 s6 s7 s8 body w := by
  refine ⟨fun v0 v1 v2 v3 v4 v5 v6 v7 v8 w' => ∃ s, (v0 = f0 s ∧ v1 = f1 s ∧ v2 = f2 s ∧ v3 = f3 s ∧ v4 = f4 s ∧ v5 = f5 s ∧ v6 = f6 s ∧ v7 = f7 s ∧ v8 = f8 s ∧ True) ∧ I s w', fun v0 v1 v2 v3 v4 v5 v6 v7 v8 w' => least fun n => ∃ s, (v0 = f0 s ∧ v1 = f1 s ∧ v2 = f2 s ∧ v3 = f3 s ∧ v4 = f4 s ∧ v5 = f5 s ∧ v6 = f6 s ∧ v7 = f7 s ∧ v8 = f8 s ∧ True) ∧ I s w' ∧ μ s = n, ⟨s, ⟨e0, e1, e2, e3, e4, e5, e6, e7, e8, trivial⟩, h0⟩, ?_⟩
  rintro v0 v1 v2 v3 v4 v5 v6 v7 v8 w ⟨sa, ha, hIa⟩
  obtain ⟨⟨s, hs, hI, hm⟩, -⟩ := least_spec (p := fun n => ∃ s, (v0 = f0 s ∧ v1 = f1 s ∧ v2 = f2 s ∧ v3 = f3 s ∧ v4 = f4 s ∧ v5 = f5 s ∧ v6 = f6 s ∧ v7 = f7 s ∧ v8 = f8 s ∧ True) ∧ I s w ∧ μ s = n) ⟨sa, ha, hIa, rfl⟩
  obtain ⟨rfl, rfl, rfl, rfl, rfl, rfl, rfl, rfl, rfl, -⟩ := hs
  refine round _ s w (fun s' w' hI' hlt => ⟨⟨s', ⟨rfl, rfl, rfl, rfl, rfl, rfl, rfl, rfl, rfl, trivial⟩, hI'⟩, ?_⟩) hI
  rw [← hm]
  exact Nat.lt_of_le_of_lt ((least_spec (p := fun n => ∃ s, _ ∧ I s w' ∧ μ s = n) ⟨s', ⟨rfl, rfl, rfl, rfl, rfl, rfl, rfl, rfl, rfl, trivial⟩, hI', rfl⟩).2 _ ⟨s', ⟨rfl, rfl, rfl, rfl, rfl, rfl, rfl, rfl, rfl, trivial⟩, hI', rfl⟩) hlt
theorem Loop10.st {s0 s1 s2 s3 s4 s5 s6 s7 s8 s9 : Value} {body : Value → Value → Value → Value → Value → Value → Value → Value → Value → Value → (Value → Value → Value → Value → Value → Value → Value → Value → Value → Value → World → Prop) → World → Prop} {w : World} {St : Type} (f0 f1 f2 f3 f4 f5 f6 f7 f8 f9 : St → Value) (I : St → World → Prop) (μ : St → Nat) (s : St) (e0 : s0 = f0 s) (e1 : s1 = f1 s) (e2 : s2 = f2 s) (e3 : s3 = f3 s) (e4 : s4 = f4 s) (e5 : s5 = f5 s) (e6 : s6 = f6 s) (e7 : s7 = f7 s) (e8 : s8 = f8 s) (e9 : s9 = f9 s) (h0 : I s w)
    (round : ∀ (next : Value → Value → Value → Value → Value → Value → Value → Value → Value → Value → World → Prop) (s : St) (w : World), (∀ s' w', I s' w' → μ s' < μ s → next (f0 s') (f1 s') (f2 s') (f3 s') (f4 s') (f5 s') (f6 s') (f7 s') (f8 s') (f9 s') w') → I s w → body (f0 s) (f1 s) (f2 s) (f3 s) (f4 s) (f5 s) (f6 s) (f7 s) (f8 s) (f9 s) next w) : Loop10 s0 s1 s2 s3 s4 s5 s6 s7 s8 s9 body w := by
  refine ⟨fun v0 v1 v2 v3 v4 v5 v6 v7 v8 v9 w' => ∃ s, (v0 = f0 s ∧ v1 = f1 s ∧ v2 = f2 s ∧ v3 = f3 s ∧ v4 = f4 s ∧ v5 = f5 s ∧ v6 = f6 s ∧ v7 = f7 s ∧ v8 = f8 s ∧ v9 = f9 s ∧ True) ∧ I s w', fun v0 v1 v2 v3 v4 v5 v6 v7 v8 v9 w' => least fun n => ∃ s, (v0 = f0 s ∧ v1 = f1 s ∧ v2 = f2 s ∧ v3 = f3 s ∧ v4 = f4 s ∧ v5 = f5 s ∧ v6 = f6 s ∧ v7 = f7 s ∧ v8 = f8 s ∧ v9 = f9 s ∧ True) ∧ I s w' ∧ μ s = n, ⟨s, ⟨e0, e1, e2, e3, e4, e5, e6, e7, e8, e9, trivial⟩, h0⟩, ?_⟩
  rintro v0 v1 v2 v3 v4 v5 v6 v7 v8 v9 w ⟨sa, ha, hIa⟩
  obtain ⟨⟨s, hs, hI, hm⟩, -⟩ := least_spec (p := fun n => ∃ s, (v0 = f0 s ∧ v1 = f1 s ∧ v2 = f2 s ∧ v3 = f3 s ∧ v4 = f4 s ∧ v5 = f5 s ∧ v6 = f6 s ∧ v7 = f7 s ∧ v8 = f8 s ∧ v9 = f9 s ∧ True) ∧ I s w ∧ μ s = n) ⟨sa, ha, hIa, rfl⟩
  obtain ⟨rfl, rfl, rfl, rfl, rfl, rfl, rfl, rfl, rfl, rfl, -⟩ := hs
  refine round _ s w (fun s' w' hI' hlt => ⟨⟨s', ⟨rfl, rfl, rfl, rfl, rfl, rfl, rfl, rfl, rfl, rfl, trivial⟩, hI'⟩, ?_⟩) hI
  rw [← hm]
  exact Nat.lt_of_le_of_lt ((least_spec (p := fun n => ∃ s, _ ∧ I s w' ∧ μ s = n) ⟨s', ⟨rfl, rfl, rfl, rfl, rfl, rfl, rfl, rfl, rfl, rfl, trivial⟩, hI', rfl⟩).2 _ ⟨s', ⟨rfl, rfl, rfl, rfl, rfl, rfl, rfl, rfl, rfl, rfl, trivial⟩, hI', rfl⟩) hlt
end Lyc
namespace Lyc
open Go Go.ChangeShapes Go.WideShapes Go.ChangeAt Go.RowKit Go.Deep
section
variable {H : Type} {enc : TypeId × Value → H} {P : Program}
theorem trodAll_below (hl : laidOutB P = true) {W W' : World} (hb : Below W.heap.size W W') {sp : Nat → Bool} : ∀ {ts : List TypeId} {vs : List Value} {ds : List (DataW H)} {p : List MemPlace},
    ts.all (fun t => P.readableRec t && decide (t < P.types.size)) = true → DataW.TrodAll enc P W 0 (fun _ => true) true ts vs ds p → (∀ x ∈ p, x.block < W.heap.size) → (∀ x ∈ p, sp x.block = true) →
    DataW.TrodAll enc P W' 0 sp true ts vs ds p
  | [], [], [], _, _, h, _, _ => h
  | [], _ :: _, _, _, _, h, _, _ => h.elim
  | [], [], _ :: _, _, _, h, _, _ => h.elim
  | _ :: _, [], _, _, _, h, _, _ => h.elim
  | _ :: _, _ :: _, [], _, _, h, _, _ => h.elim
  | t :: ts, v :: vs, d :: ds, _, ht, h, hlt, hs => by
    obtain ⟨p, q, h1, h2, rfl⟩ := h
    simp only [List.all_cons, Bool.and_eq_true, decide_eq_true_eq] at ht
    exact ⟨p, q, WideElems.Trod_stays hl ht.1.1 ht.1.2 h1 (fun x hx => hb.same (hlt x (by simp [hx]))) (fun x hx => hs x (by simp [hx])),
      trodAll_below hl hb ht.2 h2 (fun x hx => hlt x (by simp [hx])) (fun x hx => hs x (by simp [hx])), rfl⟩
theorem post_true {f : Func} {s : ChangeSpec} {apart fresh handsOn again : Bool} {W W' : World} {args : Array Value} {ds gs : List (DataW H)} {before : List MemPlace} {tb : TypeId}
    (hl : laidOutB P = true) (hrt : f.resultTypes = #[tb]) (htb : P.underlying tb = some .bool)
    (hts : f.params.toList.all (fun t => P.readableRec t && decide (t < P.types.size)) = true)
    (hv : s.vars = []) (hW : DataW.Whole enc P f.params.toList s.vars apart W args.toList ds gs before)
    (hspec : s.fn H (ds ++ gs) = { results := [.lit (.bool true)], args := ds }) (hb : Below W.heap.size W W') :
    s.post enc P f apart fresh handsOn again W args (.bool true) W' := by
  have hlt : ∀ x ∈ before, x.block < W.heap.size := fun x hx => by simpa using hW.lt x hx
  have hW' := hW
  obtain ⟨p, q, hA, hV, rfl, hz, hn⟩ := hW
  rw [hv] at hV
  obtain ⟨rfl, rfl⟩ := trodVars_none hV
  simp only [List.append_nil] at hlt hz hn hW'
  have hres : ∀ (b : Nat) (sp : Nat → Bool) (hd : Bool), DataW.TrodAll enc P W' b sp hd f.resultTypes.toList ((Value.bool true).resultList f.resultTypes.size) [.lit (.bool true)] [] := by
    intro b sp hd
    rw [hrt]
    exact trodAll_mk1 ⟨1, by simp [DataW.trod, Value.cells, htb]⟩
  have hargs : ∀ sp : Nat → Bool, (∀ x ∈ p, sp x.block = true) → DataW.TrodAll enc P W' 0 sp true f.params.toList args.toList ds p := fun sp hs => trodAll_below hl hb hts hA hlt hs
  refine ⟨ds, [], p, [], p, [], hW', ?_, ?_, ?_, hb.frame _, fun _ => ?_⟩
  · rw [hspec]; exact hres _ _ _
  · rw [hspec]; exact hargs _ (by simpa using hlt)
  · rw [hspec, hv]; exact rfl
  · refine ⟨ok_one hrt rfl (okWide_bool_mk htb true), [.lit (.bool true)] ++ ds, [], p, ⟨[] ++ p, [], trodAll_append (hargs _ (fun _ _ => rfl)) (hres _ _ _), ?_, by simp, ?_, ?_⟩, ?_⟩
    · rw [hv]; exact rfl
    · intro b off hp
      rw [hb.frozen (hlt _ hp)]
      exact hz b off hp
    · intro ha
      simpa using hn ha
    · intro x hx _
      exact hx
theorem lifted_true {C : Checked} {a : Assume} {os : Os} {f : FuncId} {fn : Func} {s : ChangeSpec} {conds : List PathCond} {apart fresh handsOn again : Bool} {tb : TypeId}
    (own : ownKnob C.prog.godebug = none) (started : os.Started) (noInit : C.prog.inits.idxOf? f = none) (hfn : C.prog.funcs[f]? = some fn)
    (witness : ∃ (w : World) (tape : Tape) (i : Input), w.os = os ∧ (w.forCall tape i).Shaped C.prog ∧ i.vars = [] ∧ Input.okWide C.prog (w.forCall tape i) .any w.heap.size f i ∧
      s.pre6 enc C.prog fn conds apart (w.forCall tape i).memory i.args ∧ a.holds C.prog (lone (Frame.enter C.prog f i.args .normal) [] (w.forCall tape i)))
    (hl : laidOutB C.prog = true) (hrt : fn.resultTypes = #[tb]) (htb : C.prog.underlying tb = some .bool)
    (hts : fn.params.toList.all (fun t => C.prog.readableRec t && decide (t < C.prog.types.size)) = true)
    (hv : s.vars = []) (hspec : ∀ ds : List (DataW H), ds.length = fn.params.toList.length → s.fn H ds = { results := [.lit (.bool true)], args := ds })
    (contract : ∀ (W : World) (base : Nat) (args : Array Value) (ds : List (DataW H)) (p : List MemPlace),
      (∀ (j : Nat) t v, fn.params[j]? = some t → args[j]? = some v → Value.okWide C.prog W .any base t v) →
      DataW.TrodAll enc C.prog W 0 (fun _ => true) true fn.params.toList args.toList ds p →
      Calls C.prog f args W (retK fun v w' => v = .bool true ∧ Chg [] W w')) :
    ReturnsInHanded a C os f .any (s.pre6 enc C.prog fn conds apart) (s.post enc C.prog fn apart fresh handsOn again) := by
  refine returnsInHanded_of_change own started noInit hfn witness ?_
  intro W base args ds gs before hval hW hcnd _
  have hW' := hW
  obtain ⟨p, q, hA, hV, hp, hfz, hnd⟩ := hW
  have hV' := hV
  rw [hv] at hV'
  obtain ⟨rfl, rfl⟩ := trodVars_none hV'
  have hlen : ds.length = fn.params.toList.length := by
    clear hval hW' hV hV' hp hfz hnd hcnd
    generalize fn.params.toList = ts at hA
    generalize args.toList = vs at hA
    induction ts generalizing vs ds p with
    | nil => cases vs <;> cases ds <;> first | rfl | exact hA.elim
    | cons t ts ih =>
      cases vs with
      | nil => exact hA.elim
      | cons v vs =>
        cases ds with
        | nil => exact hA.elim
        | cons d ds =>
          obtain ⟨p, q, _, h2, _⟩ := hA
          simp [ih _ _ _ h2]
  refine (contract W base args ds p hval hA).mono fun e W' he => ?_
  cases e <;> first | exact he.elim | skip
  obtain ⟨rfl, hc⟩ := he
  exact ⟨_, rfl, post_true hl hrt htb hts hv hW' (by rw [List.append_nil]; exact hspec ds hlen) hc.below⟩
theorem open_slice_rows {w : World} {base : Nat} {spare : Nat → Bool} {held : Bool} {t e : TypeId} {fs : Array Field} {fuel : Nat} {cs : List Value} {x : DataW H × List MemPlace} (ht : P.underlying t = some (.slice e)) (he : P.underlying e = some (.struct fs))
    (hone : oneCellFields P fs = true) (hC : P.cellsOf e = fs.size) (h : DataW.trod enc P w base spare held fuel t cs = some x) :
    (cs = [.slice none 0 0]) ∨
    ∃ (a : Addr) (len cap : Nat), cs = [.slice (some a) len cap] ∧ len ≤ cap ∧ cap ≤ maxLen ∧
      ∀ i, i < len → ∀ (j : Nat) (f : Field), fs[j]? = some f → ∃ (v : Value) (n : Nat) (y : DataW H × List MemPlace), w.cell? (a.add (i * fs.size + j)) = some v ∧ DataW.trod enc P w base spare held n f.type [v] = some y := by
  rcases open_slice ht h with h0 | ⟨a, len, cap, m, n, D, Pl, hcs, hb, hl, hm, hmm, hx, hi⟩
  · exact .inl h0.1
  · have hlm : len ≤ m := by rw [hmm]; split <;> omega
    refine .inr ⟨a, len, cap, hcs, hl, hm, fun i hil j f hj => ?_⟩
    obtain ⟨cs', hc, ht'⟩ := hi i (by omega)
    rw [hC] at hc
    obtain ⟨ys, n', hn', hy, hlen, hyl, hf⟩ := DataW.trod_struct he ht'
    obtain ⟨_, hcl, hat⟩ := World.cells?_some hc
    obtain ⟨ho, hk⟩ := hone_of hone j f hj
    have hjl : j < fs.size := (Array.getElem?_eq_some_iff.1 hj).1
    have hcell := hat j hjl
    have hv : cs'[j]? = some (cs'[j]'(by omega)) := List.getElem?_eq_getElem (by omega)
    have h1 := hf j f hj
    rw [ho, hk] at h1
    have hone' : (cs'.drop j).take 1 = [cs'[j]'(by omega)] := by
      rw [List.drop_eq_getElem_cons (by omega)]
      rfl
    rw [hone'] at h1
    have hys : ys[j]? = some (ys[j]'(by omega)) := List.getElem?_eq_getElem (by omega)
    refine ⟨_, n', _, ?_, h1.trans hys⟩
    rw [← Go.Deep.add_add, hcell, hv]
theorem sla_nil (w : World) (len cap m : Nat) (g : Nat → List Value) (h : len = 0) : SlA w (.slice none len cap) len m g := ⟨none, cap, rfl, fun i hi => by omega⟩
theorem sla_of {α : Type} [Inhabited α] (cs : α → List Value) {w : World} {a : Addr} {len cap m : Nat} (hm : 0 < m) (hl : ∀ x, (cs x).length = m)
    (h : ∀ i, i < len → ∃ x, ∀ j, j < m → w.cell? (a.add (i * m + j)) = (cs x)[j]?) : ∃ g : Nat → α, SlA w (.slice (some a) len cap) len m fun i => cs (g i) := by
  have h' : ∀ i, ∃ x, i < len → ∀ j, j < m → w.cell? (a.add (i * m + j)) = (cs x)[j]? := fun i => by
    by_cases hi : i < len
    · obtain ⟨x, hx⟩ := h i hi; exact ⟨x, fun _ => hx⟩
    · exact ⟨default, fun h => absurd h hi⟩
  obtain ⟨g, hg⟩ : ∃ g : Nat → α, ∀ i, i < len → ∀ j, j < m → w.cell? (a.add (i * m + j)) = (cs (g i))[j]? := ⟨fun i => Classical.choose (h' i), fun i => Classical.choose_spec (h' i)⟩
  refine ⟨g, some a, cap, rfl, fun i hi => ?_⟩
  have hx := hg i hi
  show ∃ b o, some a = some ⟨b, o, none⟩ ∧ b < w.heap.size ∧ aggAt w.heap[b]? (o + i * m) m = some (cs (g i)).toArray
  generalize g i = x at hx
  have key : ∀ k v, w.cell? (a.add k) = some v → a.block < w.heap.size ∧ ∀ b o, a = ⟨b, o, none⟩ → cellAt w.heap[b]? (o + k) = some v := by
    intro k v hk
    unfold World.cell? at hk
    have hb : (a.add k).block = a.block := by unfold Addr.add; split <;> rfl
    rw [hb] at hk
    cases hh : w.heap[a.block]? with
    | none => rw [hh] at hk; simp at hk
    | some o =>
      refine ⟨lt_of_heap hh, ?_⟩
      rintro b o' rfl
      rw [hh] at hk
      dsimp only at hk hh ⊢
      rw [hh]
      have ha : (⟨b, o', none⟩ : Addr).add k = ⟨b, o' + k, none⟩ := by unfold Addr.add; split <;> simp_all
      rw [ha] at hk
      cases o <;> first | (simp at hk; done) | skip
      simpa [cellAt] using hk
  have hlen := hl x
  have h0 := hx 0 hm
  have hx0 : (cs x)[0]? = some ((cs x)[0]'(by omega)) := List.getElem?_eq_getElem (by omega)
  rw [hx0] at h0
  obtain ⟨ab, ao, sp⟩ := a
  have hsp : sp = none := by
    cases sp with
    | none => rfl
    | some y =>
      exfalso
      by_cases hi0 : i * m = 0
      · rw [hi0] at h0
        simp [Addr.add, World.cell?] at h0
        split at h0 <;> simp at h0
      · have h00 := h 0 (by omega)
        obtain ⟨x0, h00⟩ := h00
        have h00 := h00 0 hm
        have hl0 := hl x0
        have hx00 : (cs x0)[0]? = some ((cs x0)[0]'(by omega)) := List.getElem?_eq_getElem (by omega)
        rw [hx00] at h00
        simp [Addr.add, World.cell?] at h00
        split at h00 <;> simp at h00
  subst hsp
  refine ⟨ab, ao, rfl, (key _ _ h0).1, aggAt_of hlen hm fun j hj => ?_⟩
  have h1 := hx j hj
  have hxj : (cs x)[j]? = some ((cs x)[j]'(by omega)) := List.getElem?_eq_getElem (by omega)
  rw [hxj] at h1 ⊢
  have := (key _ _ h1).2 _ _ rfl
  rw [Nat.add_assoc]
  exact this
end
end Lyc
namespace Lyc
open Go
section
variable {P : Program}
attribute [go_sem] Int.cast_ofNat_Int beq_self_eq_true Bool.false_and Bool.true_and Bool.and_false Bool.and_true Bool.false_or Bool.true_or Bool.or_false Bool.or_true Bool.not_not
@[go_sem] theorem beq_t (b : Bool) : (b == true) = b := by cases b <;> rfl
@[go_sem] theorem beq_f (b : Bool) : (b == false) = !b := by cases b <;> rfl
@[go_sem] theorem t_beq (b : Bool) : (true == b) = b := by cases b <;> rfl
@[go_sem] theorem f_beq (b : Bool) : (false == b) = !b := by cases b <;> rfl
@[go_sem] theorem cast_lit0 : ((0 : Nat) : Int) = 0 := rfl
@[go_sem] theorem cast_lit1 : ((1 : Nat) : Int) = 1 := rfl
theorem and_bd (a m : Int) (h0 : 0 ≤ m) (h1 : m < 9223372036854775808) : 0 ≤ bitV .and .i64 a m ∧ bitV .and .i64 a m ≤ m := by
  have hm : (BitVec.ofInt 64 m).toNat = m.toNat := by rw [BitVec.toNat_ofInt]; congr 1; omega
  have h := Nat.and_le_right (n := (BitVec.ofInt 64 a).toNat) (m := m.toNat)
  have e : (BitVec.ofInt 64 a &&& BitVec.ofInt 64 m).toNat = (BitVec.ofInt 64 a).toNat &&& m.toNat := by rw [BitVec.toNat_and, hm]
  show 0 ≤ IntKind.i64.wrap ((BitVec.ofInt 64 a &&& BitVec.ofInt 64 m).toNat : Int) ∧ _ ≤ m
  rw [e, wrap_i64 _ (by omega) (by omega)]
  show _ ∧ IntKind.i64.wrap ((BitVec.ofInt 64 a &&& BitVec.ofInt 64 m).toNat : Int) ≤ m
  rw [e, wrap_i64 _ (by omega) (by omega)]
  omega
theorem tmod_bd (a n : Int) (h : 0 < n) : -n < a.tmod n ∧ a.tmod n < n := ⟨Int.lt_tmod_of_pos _ h, Int.tmod_lt_of_pos _ h⟩
theorem tkind_1' {t : TypeId} (h : tkind P t = some 3) : P.underlying t = some .string := by
  unfold tkind at h
  cases hu : P.underlying t with
  | none => rw [hu] at h; simp at h
  | some d => rw [hu] at h; cases d <;> simp at h; rfl
theorem not_array_string {t : TypeId} (h : tkind P t = some 3) : ∀ ρ : Operand → Value, ∀ x lo hi mx, ∀ w, (Instr.sliceAt t (ρ x) lo hi mx).run P w = (Instr.slice t (ρ x) lo hi mx).run P w := by
  intro ρ x lo hi mx w
  simp [Instr.sliceAt, run_underlying (tkind_1' h)]
theorem r_slice_str_hi (t ty : TypeId) (s : ByteArray) (k : IntKind) (i : Int) (h : tkind P t = some 3) (h0 : 0 ≤ i) (h1 : i ≤ s.size) : PureRun P (.slice t (.const (.string s)) none (some (.const (.int k i))) none) ty (.string (s.extract 0 i.toNat)) := by
  refine ⟨fun ρ hg w => ?_⟩
  simp [execOp, mkOper, hg.1, Instr.sliceAt, Instr.slice, Instr.sliceBounds, Instr.sliceBound, asIntOf, run_underlying (tkind_1' h), h0, h1]
theorem r_slice_str_lo (t ty : TypeId) (s : ByteArray) (k : IntKind) (i : Int) (h : tkind P t = some 3) (h0 : 0 ≤ i) (h1 : i ≤ s.size) : PureRun P (.slice t (.const (.string s)) (some (.const (.int k i))) none none) ty (.string (s.extract i.toNat s.size)) := by
  refine ⟨fun ρ hg w => ?_⟩
  simp [execOp, mkOper, hg.1, Instr.sliceAt, Instr.slice, Instr.sliceBounds, Instr.sliceBound, asIntOf, run_underlying (tkind_1' h), h0, h1]
theorem r_slice_str_both (t ty : TypeId) (s : ByteArray) (k k' : IntKind) (i j : Int) (h : tkind P t = some 3) (h0 : 0 ≤ i) (h1 : i ≤ j) (h2 : j ≤ s.size) : PureRun P (.slice t (.const (.string s)) (some (.const (.int k i))) (some (.const (.int k' j))) none) ty (.string (s.extract i.toNat j.toNat)) := by
  refine ⟨fun ρ hg w => ?_⟩
  have h3 : 0 ≤ j := by omega
  have h4 : i ≤ (j.toNat : Int) := by omega
  simp [execOp, mkOper, hg.1, Instr.sliceAt, Instr.slice, Instr.sliceBounds, Instr.sliceBound, asIntOf, run_underlying (tkind_1' h), h0, h2, h3, h4]
  intro hc; exact absurd hc (by omega)
def slo (o cap l n : Nat) : Nat := if cap = l then o else o + l * n
theorem tslice_u {t : TypeId} {n : Nat} (h : tslice P t = some n) : ∃ e, P.underlying t = some (.slice e) ∧ tsize P e = some n := by
  unfold tslice at h
  cases hu : P.underlying t with
  | none => rw [hu] at h; simp at h
  | some d => rw [hu] at h; cases d <;> simp at h; exact ⟨_, rfl, h⟩
theorem slo_add (b o cap l n : Nat) : (if cap = l then some (⟨b, o, none⟩ : Addr) else some ((⟨b, o, none⟩ : Addr).add (l * n))) = some ⟨b, slo o cap l n, none⟩ := by
  unfold slo
  split
  · rfl
  · rw [add_mk]
theorem r_slice_hi (t ty : TypeId) (a : Option Addr) (len cap n : Nat) (k : IntKind) (i : Int) (h : tslice P t = some n) (h0 : 0 ≤ i) (h1 : i ≤ cap) : PureRun P (.slice t (.const (.slice a len cap)) none (some (.const (.int k i))) none) ty (.slice a i.toNat cap) := by
  obtain ⟨e, hu, hs⟩ := tslice_u h
  refine ⟨fun ρ hg w => ?_⟩
  cases a with
  | none => simp [execOp, mkOper, hg.1, Instr.sliceAt, Instr.slice, Instr.sliceBounds, Instr.sliceBound, asIntOf, run_underlying hu, run_size hs, h0, h1]
  | some a =>
    obtain ⟨b, o, sp⟩ := a
    simp [execOp, mkOper, hg.1, Instr.sliceAt, Instr.slice, Instr.sliceBounds, Instr.sliceBound, asIntOf, run_underlying hu, run_size hs, h0, h1, Addr.add]
theorem r_slice_lo (t ty : TypeId) (b o len cap n : Nat) (k : IntKind) (i : Int) (h : tslice P t = some n) (h0 : 0 ≤ i) (h1 : i ≤ len) : PureRun P (.slice t (.const (.slice (some ⟨b, o, none⟩) len cap)) (some (.const (.int k i))) none none) ty (.slice (some ⟨b, slo o cap i.toNat n, none⟩) (len - i.toNat) (cap - i.toNat)) := by
  obtain ⟨e, hu, hs⟩ := tslice_u h
  refine ⟨fun ρ hg w => ?_⟩
  simp [execOp, mkOper, hg.1, Instr.sliceAt, Instr.slice, Instr.sliceBounds, Instr.sliceBound, asIntOf, run_underlying hu, run_size hs, h0, h1, slo_add]
theorem r_slice_both (t ty : TypeId) (b o len cap n : Nat) (k k' : IntKind) (i j : Int) (h : tslice P t = some n) (h0 : 0 ≤ i) (h1 : i ≤ j) (h2 : j ≤ cap) : PureRun P (.slice t (.const (.slice (some ⟨b, o, none⟩) len cap)) (some (.const (.int k i))) (some (.const (.int k' j))) none) ty (.slice (some ⟨b, slo o cap i.toNat n, none⟩) (j.toNat - i.toNat) (cap - i.toNat)) := by
  obtain ⟨e, hu, hs⟩ := tslice_u h
  refine ⟨fun ρ hg w => ?_⟩
  have h3 : 0 ≤ j := by omega
  have h4 : i ≤ (j.toNat : Int) := by omega
  simp [execOp, mkOper, hg.1, Instr.sliceAt, Instr.slice, Instr.sliceBounds, Instr.sliceBound, asIntOf, run_underlying hu, run_size hs, h0, h2, h3, h4, slo_add]
  intro hc; exact absurd hc (by omega)
@[go_sem] theorem x_slice_str_hi (t ty : TypeId) (s : ByteArray) (k : IntKind) (i : Int) (K : Value → World → Prop) (w : World) (h : tkind P t = some 3) (h0 : 0 ≤ i) (h1 : i ≤ s.size) : OpX P (.slice t (.const (.string s)) none (some (.const (.int k i))) none) ty K w = K (.string (s.extract 0 i.toNat)) w := (r_slice_str_hi t ty s k i h h0 h1).op K w
@[go_sem] theorem p_slice_str_hi (t ty : TypeId) (s : ByteArray) (k : IntKind) (i : Int) (K : Value → Prop) (h : tkind P t = some 3) (h0 : 0 ≤ i) (h1 : i ≤ s.size) : PurX P (.slice t (.const (.string s)) none (some (.const (.int k i))) none) ty K () = K (.string (s.extract 0 i.toNat)) := (r_slice_str_hi t ty s k i h h0 h1).pur K
@[go_sem] theorem x_slice_str_lo (t ty : TypeId) (s : ByteArray) (k : IntKind) (i : Int) (K : Value → World → Prop) (w : World) (h : tkind P t = some 3) (h0 : 0 ≤ i) (h1 : i ≤ s.size) : OpX P (.slice t (.const (.string s)) (some (.const (.int k i))) none none) ty K w = K (.string (s.extract i.toNat s.size)) w := (r_slice_str_lo t ty s k i h h0 h1).op K w
@[go_sem] theorem p_slice_str_lo (t ty : TypeId) (s : ByteArray) (k : IntKind) (i : Int) (K : Value → Prop) (h : tkind P t = some 3) (h0 : 0 ≤ i) (h1 : i ≤ s.size) : PurX P (.slice t (.const (.string s)) (some (.const (.int k i))) none none) ty K () = K (.string (s.extract i.toNat s.size)) := (r_slice_str_lo t ty s k i h h0 h1).pur K
@[go_sem] theorem x_slice_str_both (t ty : TypeId) (s : ByteArray) (k k' : IntKind) (i j : Int) (K : Value → World → Prop) (w : World) (h : tkind P t = some 3) (h0 : 0 ≤ i) (h1 : i ≤ j) (h2 : j ≤ s.size) : OpX P (.slice t (.const (.string s)) (some (.const (.int k i))) (some (.const (.int k' j))) none) ty K w = K (.string (s.extract i.toNat j.toNat)) w := (r_slice_str_both t ty s k k' i j h h0 h1 h2).op K w
@[go_sem] theorem p_slice_str_both (t ty : TypeId) (s : ByteArray) (k k' : IntKind) (i j : Int) (K : Value → Prop) (h : tkind P t = some 3) (h0 : 0 ≤ i) (h1 : i ≤ j) (h2 : j ≤ s.size) : PurX P (.slice t (.const (.string s)) (some (.const (.int k i))) (some (.const (.int k' j))) none) ty K () = K (.string (s.extract i.toNat j.toNat)) := (r_slice_str_both t ty s k k' i j h h0 h1 h2).pur K
@[go_sem] theorem x_slice_hi (t ty : TypeId) (a : Option Addr) (len cap : Nat) (k : IntKind) (i : Int) (K : Value → World → Prop) (w : World) (h0 : 0 ≤ i) (h1 : i ≤ cap) : OpX P (.slice t (.const (.slice a len cap)) none (some (.const (.int k i))) none) ty K w = OrK (tslice P t) (fun _ => K (.slice a i.toNat cap) w) (OpX P (.slice t (.const (.slice a len cap)) none (some (.const (.int k i))) none) ty K w) () :=
  OrK_by (fun q h => (r_slice_hi t ty a len cap q k i h h0 h1).op K w) rfl
@[go_sem] theorem p_slice_hi (t ty : TypeId) (a : Option Addr) (len cap : Nat) (k : IntKind) (i : Int) (K : Value → Prop) (h0 : 0 ≤ i) (h1 : i ≤ cap) : PurX P (.slice t (.const (.slice a len cap)) none (some (.const (.int k i))) none) ty K () = OrK (tslice P t) (fun _ => K (.slice a i.toNat cap)) (PurX P (.slice t (.const (.slice a len cap)) none (some (.const (.int k i))) none) ty K ()) () :=
  OrK_by (fun q h => (r_slice_hi t ty a len cap q k i h h0 h1).pur K) rfl
@[go_sem] theorem x_slice_lo (t ty : TypeId) (b o len cap : Nat) (k : IntKind) (i : Int) (K : Value → World → Prop) (w : World) (h0 : 0 ≤ i) (h1 : i ≤ len) : OpX P (.slice t (.const (.slice (some ⟨b, o, none⟩) len cap)) (some (.const (.int k i))) none none) ty K w = OrK (tslice P t) (fun n => K (.slice (some ⟨b, slo o cap i.toNat n, none⟩) (len - i.toNat) (cap - i.toNat)) w) (OpX P (.slice t (.const (.slice (some ⟨b, o, none⟩) len cap)) (some (.const (.int k i))) none none) ty K w) () :=
  OrK_by (fun q h => (r_slice_lo t ty b o len cap q k i h h0 h1).op K w) rfl
@[go_sem] theorem p_slice_lo (t ty : TypeId) (b o len cap : Nat) (k : IntKind) (i : Int) (K : Value → Prop) (h0 : 0 ≤ i) (h1 : i ≤ len) : PurX P (.slice t (.const (.slice (some ⟨b, o, none⟩) len cap)) (some (.const (.int k i))) none none) ty K () = OrK (tslice P t) (fun n => K (.slice (some ⟨b, slo o cap i.toNat n, none⟩) (len - i.toNat) (cap - i.toNat))) (PurX P (.slice t (.const (.slice (some ⟨b, o, none⟩) len cap)) (some (.const (.int k i))) none none) ty K ()) () :=
  OrK_by (fun q h => (r_slice_lo t ty b o len cap q k i h h0 h1).pur K) rfl
@[go_sem] theorem x_slice_both (t ty : TypeId) (b o len cap : Nat) (k k' : IntKind) (i j : Int) (K : Value → World → Prop) (w : World) (h0 : 0 ≤ i) (h1 : i ≤ j) (h2 : j ≤ cap) : OpX P (.slice t (.const (.slice (some ⟨b, o, none⟩) len cap)) (some (.const (.int k i))) (some (.const (.int k' j))) none) ty K w = OrK (tslice P t) (fun n => K (.slice (some ⟨b, slo o cap i.toNat n, none⟩) (j.toNat - i.toNat) (cap - i.toNat)) w) (OpX P (.slice t (.const (.slice (some ⟨b, o, none⟩) len cap)) (some (.const (.int k i))) (some (.const (.int k' j))) none) ty K w) () :=
  OrK_by (fun q h => (r_slice_both t ty b o len cap q k k' i j h h0 h1 h2).op K w) rfl
@[go_sem] theorem p_slice_both (t ty : TypeId) (b o len cap : Nat) (k k' : IntKind) (i j : Int) (K : Value → Prop) (h0 : 0 ≤ i) (h1 : i ≤ j) (h2 : j ≤ cap) : PurX P (.slice t (.const (.slice (some ⟨b, o, none⟩) len cap)) (some (.const (.int k i))) (some (.const (.int k' j))) none) ty K () = OrK (tslice P t) (fun n => K (.slice (some ⟨b, slo o cap i.toNat n, none⟩) (j.toNat - i.toNat) (cap - i.toNat))) (PurX P (.slice t (.const (.slice (some ⟨b, o, none⟩) len cap)) (some (.const (.int k i))) (some (.const (.int k' j))) none) ty K ()) () :=
  OrK_by (fun q h => (r_slice_both t ty b o len cap q k k' i j h h0 h1 h2).pur K) rfl
end
end Lyc
namespace Lyc
open Go
section
variable {P : Program}
abbrev Ents := List (Int × Value × Nat)
def ents (kk : IntKind) (l : Ents) : Array MapEntry := (l.map fun x => (⟨.int kk x.1, x.2.1, x.2.2⟩ : MapEntry)).toArray
def lpos : Ents → Int → Nat → Option (Nat × Value)
  | [], _, _ => none
  | x :: l, k, i => if k = x.1 then some (i, x.2.1) else lpos l k (i + 1)
def lfind : Ents → Int → Option Value
  | [], _ => none
  | x :: l, k => if k = x.1 then some x.2.1 else lfind l k
def lput : Ents → Int → Value → Nat → Ents
  | [], k, v, c => [(k, v, c)]
  | x :: l, k, v, c => if k = x.1 then (k, v, x.2.2) :: l else x :: lput l k v c
def ldel : Ents → Int → Ents
  | [], _ => []
  | x :: l, k => if k = x.1 then l else x :: ldel l k
theorem lpos_find (l : Ents) (k : Int) (i : Nat) : (lpos l k i).map (·.2) = lfind l k := by
  induction l generalizing i with
  | nil => rfl
  | cons x l ih => unfold lpos lfind; split <;> simp [ih]
theorem findNow_ents (kk k2 : IntKind) (l : Ents) (k : Int) (i : Nat) : Instr.findNow (.int k2) (.int kk k) (l.map fun x => (⟨.int kk x.1, x.2.1, x.2.2⟩ : MapEntry)) i = some (lpos l k i) := by
  induction l generalizing i with
  | nil => rfl
  | cons x l ih =>
    simp only [List.map_cons, Instr.findNow, Instr.sameNow, lpos, if_true]
    by_cases h : k = x.1
    · simp [h]
    · have hb : (k == x.1) = false := by simpa using h
      simp [h, hb, ih]
theorem lpos_put {l : Ents} {k : Int} {j n : Nat} {u : Value} (h : lpos l k j = some (n, u)) (v : Value) (c : Nat) : j ≤ n ∧ n - j < l.length ∧ lput l k v c = l.modify (n - j) fun x => (k, v, x.2.2) := by
  induction l generalizing j with
  | nil => simp [lpos] at h
  | cons x l ih =>
    unfold lpos at h
    split at h
    · rename_i hk
      simp at h
      obtain ⟨rfl, -⟩ := h
      simp [lput, hk]
    · rename_i hk
      obtain ⟨h1, h2, h3⟩ := ih h
      refine ⟨by omega, by simp; omega, ?_⟩
      have : n - j = (n - (j + 1)) + 1 := by omega
      rw [this]
      simp [lput, hk, h3]
theorem lpos_del {l : Ents} {k : Int} {j n : Nat} {u : Value} (h : lpos l k j = some (n, u)) : j ≤ n ∧ n - j < l.length ∧ ldel l k = l.eraseIdx (n - j) := by
  induction l generalizing j with
  | nil => simp [lpos] at h
  | cons x l ih =>
    unfold lpos at h
    split at h
    · rename_i hk
      simp at h
      obtain ⟨rfl, -⟩ := h
      simp [ldel, hk]
    · rename_i hk
      obtain ⟨h1, h2, h3⟩ := ih h
      refine ⟨by omega, by simp; omega, ?_⟩
      have : n - j = (n - (j + 1)) + 1 := by omega
      rw [this]
      simp [ldel, hk, h3]
theorem lpos_none {l : Ents} {k : Int} {j : Nat} (h : lpos l k j = none) (v : Value) (c : Nat) : lput l k v c = l ++ [(k, v, c)] ∧ ldel l k = l := by
  induction l generalizing j with
  | nil => simp [lput, ldel]
  | cons x l ih =>
    unfold lpos at h
    split at h
    · simp at h
    · rename_i hk
      simp [lput, ldel, hk, ih h]
theorem lpos_key {l : Ents} {k : Int} {j n : Nat} {u : Value} (h : lpos l k j = some (n, u)) : ∃ c, l[n - j]? = some (k, u, c) := by
  induction l generalizing j with
  | nil => simp [lpos] at h
  | cons x l ih =>
    unfold lpos at h
    split at h
    · rename_i hk
      simp at h
      obtain ⟨rfl, rfl⟩ := h
      exact ⟨x.2.2, by simp [hk]⟩
    · obtain ⟨c, hc⟩ := ih h
      obtain ⟨h1, -, -⟩ := lpos_del h
      have : n - j = (n - (j + 1)) + 1 := by omega
      exact ⟨c, by rw [this]; simpa using hc⟩
theorem map_eraseIdx' {α β : Type} (f : α → β) (l : List α) (n : Nat) : (l.map f).eraseIdx n = (l.eraseIdx n).map f := by
  induction l generalizing n with
  | nil => rfl
  | cons x l ih => cases n <;> simp [ih]
def tmap (P : Program) (t : TypeId) : Option (IntKind × Value) := (P.underlying t).bind fun | .map k e => (tint P k).bind fun kk => (tzero P e).map fun z => (kk, z) | _ => none
theorem tmap_spec {t : TypeId} {kk : IntKind} {z : Value} (h : tmap P t = some (kk, z)) : ∃ k e, P.underlying t = some (.map k e) ∧ P.underlying k = some (.int kk) ∧ tzero P e = some z := by
  unfold tmap at h
  cases hu : P.underlying t with
  | none => rw [hu] at h; simp at h
  | some d =>
    rw [hu] at h
    cases d <;> first | (rename_i k e; dsimp only at h) | skip
    all_goals first | (simp at h; done) | skip
    rename_i k e
    cases hk : tint P k with
    | none => simp [hk] at h
    | some kk' =>
    cases hz : tzero P e with
    | none => simp [hk, hz] at h
    | some z' =>
    simp [hk, hz] at h
    obtain ⟨rfl, rfl⟩ := h
    unfold tint at hk
    cases hku : P.underlying k with
    | none => rw [hku] at hk; simp at hk
    | some d =>
      rw [hku] at hk
      cases d <;> simp at hk
      subst hk
      exact ⟨k, e, rfl, hku, hz⟩
theorem run_checkKey {k : TypeId} {kk : IntKind} (h : P.underlying k = some (.int kk)) (b : Bool) (n : Int) (w : World) : (Instr.checkKey b 10000 k (.int kk n)).run P w = .ok () w := by
  show (Instr.checkKey b (9999 + 1) k (.int kk n)).run P w = .ok () w
  unfold Instr.checkKey
  simp [run_underlying h]
theorem run_findKey {k : TypeId} {kk : IntKind} (h : P.underlying k = some (.int kk)) (l : Ents) (n : Int) (w : World) : (Instr.findKey k (.int kk n) (ents kk l).toList).run P w = .ok (lpos l n 0) w := by
  unfold Instr.findKey ents
  simp [run_underlying h, findNow_ents]
theorem run_getMap {r c : Nat} {es : Array MapEntry} {w : World} (hc : w.heap[r]? = some (.map es c)) : (getObj r).run P w = .ok (.map es c) w := by
  simp [getObj, Sem.run, hc]
theorem run_setMap {r c : Nat} {es : Array MapEntry} {o : Obj} {w : World} (hc : w.heap[r]? = some (.map es c)) : (setObj r o).run P w = .ok () (setBlk w r o) := by
  simp [setObj, Sem.run, setBlk, hc]
theorem r_makeMap {t ty : TypeId} (K : Value → World → Prop) (w : World) : OpX P (.makeMap t none) ty K w = K (.map (some w.heap.size)) (w.alloc (.map #[] 0)) := by
  exact OpX_ok fun ρ hg => by simp [execOp, mkOper, Instr.makeMap, newObj, Sem.run]
attribute [go_sem] r_makeMap
theorem look_ok {t ty : TypeId} {kk : IntKind} {z : Value} {r c : Nat} {l : Ents} {k : Int} {K : Value → World → Prop} {w : World} (ht : tmap P t = some (kk, z)) (hh : w.heap[r]? = some (.map (ents kk l) c)) :
    OpX P (.lookup t (.const (.map (some r))) (.const (.int kk k)) true) ty K w = K (.tuple #[(lfind l k).getD z, .bool (lfind l k).isSome]) w := by
  obtain ⟨kt, e, h1, h2, h3⟩ := tmap_spec ht
  refine OpX_ok fun ρ hg => ?_
  simp only [execOp, mkOper, hg.1, Instr.lookup]
  simp [run_underlying h1, run_getMap hh, run_checkKey h2, run_findKey h2, run_zero h3]
  rw [← lpos_find l k 0]
  cases hp : lpos l k 0 <;> simp [run_zero h3]
theorem look1_ok {t ty : TypeId} {kk : IntKind} {z : Value} {r c : Nat} {l : Ents} {k : Int} {K : Value → World → Prop} {w : World} (ht : tmap P t = some (kk, z)) (hh : w.heap[r]? = some (.map (ents kk l) c)) :
    OpX P (.lookup t (.const (.map (some r))) (.const (.int kk k)) false) ty K w = K ((lfind l k).getD z) w := by
  obtain ⟨kt, e, h1, h2, h3⟩ := tmap_spec ht
  refine OpX_ok fun ρ hg => ?_
  simp only [execOp, mkOper, hg.1, Instr.lookup]
  simp [run_underlying h1, run_getMap hh, run_checkKey h2, run_findKey h2, run_zero h3]
  rw [← lpos_find l k 0]
  cases hp : lpos l k 0 <;> simp [run_zero h3]
def putC (l : Ents) (k : Int) (c : Nat) : Nat := if (lfind l k).isSome then c else c + 1
theorem put_ok {t ty : TypeId} {kk : IntKind} {z : Value} {r c : Nat} {l : Ents} {k : Int} {v : Value} {K : Value → World → Prop} {w : World} (ht : tmap P t = some (kk, z)) (hh : w.heap[r]? = some (.map (ents kk l) c)) :
    OpX P (.mapUpdate t (.const (.map (some r))) (.const (.int kk k)) (.const v)) ty K w = K undef (setBlk w r (.map (ents kk (lput l k v c)) (putC l k c))) := by
  obtain ⟨kt, e, h1, h2, h3⟩ := tmap_spec ht
  refine OpX_skip fun ρ hg => ?_
  simp only [execOp, mkOper, hg.1, Instr.mapUpdate]
  simp [run_underlying h1, run_getMap hh, run_checkKey h2, run_findKey h2]
  have hf := lpos_find l k 0
  cases hp : lpos l k 0 with
  | none =>
    rw [hp] at hf
    obtain ⟨e1, -⟩ := lpos_none hp v c
    simp [run_setMap hh, putC, ← hf, e1, ents]
  | some x =>
    obtain ⟨n, u⟩ := x
    rw [hp] at hf
    obtain ⟨-, hn, e1⟩ := lpos_put hp v c
    obtain ⟨c0, hk⟩ := lpos_key hp
    have hkey : ((Option.map (fun x => x.key) (ents kk l)[n]?).getD (.int kk k)) = .int kk k := by
      simp [ents] at hk ⊢
      simp [hk]
    have hm : (ents kk l).modify n (fun e => { key := .int kk k, val := v, born := e.born }) = ents kk (lput l k v c) := by
      rw [e1]
      unfold ents
      apply Array.ext'
      simp only [Array.toList_modify, Nat.sub_zero]
      apply List.ext_getElem?
      intro i
      simp only [List.getElem?_modify, List.getElem?_map]
      by_cases hi : n = i <;> simp [hi] <;> cases l[i]? <;> rfl
    simp [hkey, Instr.keyThatStays, Instr.sameBits]
    rw [hm, run_setMap hh]
    simp [putC, ← hf]
theorem del_ok {t ty : TypeId} {ts : Array TypeId} {kk : IntKind} {z : Value} {r c : Nat} {l : Ents} {k : Int} {K : Value → World → Prop} {w : World} (ht : tmap P t = some (kk, z)) (hts : ts[0]? = some t) (hh : w.heap[r]? = some (.map (ents kk l) c)) :
    OpX P (.call { callee := .builtin .delete, args := #[.const (.map (some r)), .const (.int kk k)], argTypes := ts }) ty K w = K (.tuple #[]) (setBlk w r (.map (ents kk (ldel l k)) c)) := by
  obtain ⟨kt, e, h1, h2, h3⟩ := tmap_spec ht
  refine OpX_ok fun ρ hg => ?_
  simp only [execOp, mkOper]
  simp [resolve, invoke, builtin, Builtin.delete_, hg.1, hts, run_underlying h1, run_getMap hh, run_checkKey h2, run_findKey h2]
  cases hp : lpos l k 0 with
  | none =>
    obtain ⟨-, e1⟩ := lpos_none hp .nilIface 0
    simp [run_setMap hh, e1]
  | some x =>
    obtain ⟨n, u⟩ := x
    obtain ⟨-, hn, e1⟩ := lpos_del hp
    have hm : (ents kk l).eraseIdxIfInBounds n = ents kk (ldel l k) := by
      rw [e1]
      unfold ents
      simp only [Nat.sub_zero] at hn ⊢
      have hn' : n < ((l.map fun x => (⟨.int kk x.1, x.2.1, x.2.2⟩ : MapEntry)).toArray).size := by simpa using hn
      simp only [Array.eraseIdxIfInBounds, hn', dite_true]
      apply Array.ext'
      simp [map_eraseIdx']
    simp [hm, run_setMap hh]
theorem len_map_ok {t ty : TypeId} {ts : Array TypeId} {kk : IntKind} {z : Value} {r c : Nat} {l : Ents} {K : Value → World → Prop} {w : World} (ht : tmap P t = some (kk, z)) (hts : ts[0]? = some t) (hh : w.heap[r]? = some (.map (ents kk l) c)) :
    OpX P (.call { callee := .builtin .len, args := #[.const (.map (some r))], argTypes := ts }) ty K w = K (.int .i64 l.length) w := by
  obtain ⟨kt, e, h1, h2, h3⟩ := tmap_spec ht
  refine OpX_ok fun ρ hg => ?_
  simp only [execOp, mkOper]
  simp [resolve, invoke, builtin, Builtin.len_, hg.1, hts, run_underlying h1, run_getMap hh, goInt, ents]
theorem clear_ok {t ty : TypeId} {ts : Array TypeId} {kk : IntKind} {z : Value} {r c : Nat} {l : Ents} {K : Value → World → Prop} {w : World} (ht : tmap P t = some (kk, z)) (hts : ts[0]? = some t) (hh : w.heap[r]? = some (.map (ents kk l) c)) :
    OpX P (.call { callee := .builtin .clear, args := #[.const (.map (some r))], argTypes := ts }) ty K w = K (.tuple #[]) (setBlk w r (.map (ents kk []) c)) := by
  obtain ⟨kt, e, h1, h2, h3⟩ := tmap_spec ht
  refine OpX_ok fun ρ hg => ?_
  simp only [execOp, mkOper]
  simp [resolve, invoke, builtin, Builtin.clear_, hg.1, hts, run_underlying h1, run_getMap hh, run_setMap hh, ents]
theorem ents_inj {kk : IntKind} {l l' : Ents} (h : ents kk l = ents kk l') : l = l' := by
  unfold ents at h
  have h := List.toArray_inj h
  induction l generalizing l' with
  | nil => cases l' <;> simp at h ⊢
  | cons x l ih =>
    cases l' with
    | nil => simp at h
    | cons y l' =>
      simp only [List.map_cons, List.cons.injEq] at h
      obtain ⟨h1, h2⟩ := h
      obtain ⟨x1, x2, x3⟩ := x
      obtain ⟨y1, y2, y3⟩ := y
      simp at h1
      obtain ⟨rfl, rfl, rfl⟩ := h1
      rw [ih (by rw [h2]) h2]
noncomputable def unents (kk : IntKind) (x : Option Obj) : Option (Ents × Nat) := open Classical in if h : ∃ p : Ents × Nat, x = some (.map (ents kk p.1) p.2) then some h.choose else none
@[go_sem] theorem unents_some (kk : IntKind) (l : Ents) (c : Nat) : unents kk (some (.map (ents kk l) c)) = some (l, c) := by
  unfold unents
  have h : ∃ p : Ents × Nat, some (Obj.map (ents kk l) c) = some (.map (ents kk p.1) p.2) := ⟨(l, c), rfl⟩
  rw [dif_pos h]
  have := h.choose_spec
  generalize h.choose = p at this
  simp at this
  obtain ⟨h1, h2⟩ := this
  rw [ents_inj h1, h2]
attribute [go_sem] Option.isSome_none Option.getD_some Option.getD_none
@[go_sem] theorem unents_new (kk : IntKind) (c : Nat) : unents kk (some (.map #[] c)) = some ([], c) := unents_some kk [] c
theorem unents_spec {kk : IntKind} {x : Option Obj} {p : Ents × Nat} (h : unents kk x = some p) : x = some (.map (ents kk p.1) p.2) := by
  unfold unents at h
  split at h
  · rename_i hh
    simp at h
    rw [← h]
    exact hh.choose_spec
  · simp at h
def tmapZ (P : Program) (t : TypeId) (kk : IntKind) : Option Value := (tmap P t).bind fun p => if p.1 = kk then some p.2 else none
theorem tmapZ_spec {t : TypeId} {kk : IntKind} {z : Value} (h : tmapZ P t kk = some z) : tmap P t = some (kk, z) := by
  unfold tmapZ at h
  cases ht : tmap P t with
  | none => rw [ht] at h; simp at h
  | some p =>
    obtain ⟨a, b⟩ := p
    rw [ht] at h
    simp at h
    rw [h.1, h.2]
@[go_sem] theorem x_lookup (t ty : TypeId) (kk : IntKind) (r : Nat) (k : Int) (K : Value → World → Prop) (w : World) :
    OpX P (.lookup t (.const (.map (some r))) (.const (.int kk k)) true) ty K w =
      OrK (tmapZ P t kk) (fun z => OrK (unents kk w.heap[r]?) (fun p => K (.tuple #[(lfind p.1 k).getD z, .bool (lfind p.1 k).isSome]) w) (OpX P (.lookup t (.const (.map (some r))) (.const (.int kk k)) true) ty K w) ()) (OpX P (.lookup t (.const (.map (some r))) (.const (.int kk k)) true) ty K w) () :=
  OrK_by (fun z hz => OrK_by (fun p hp => look_ok (tmapZ_spec hz) (unents_spec hp)) rfl) rfl
@[go_sem] theorem x_lookup1 (t ty : TypeId) (kk : IntKind) (r : Nat) (k : Int) (K : Value → World → Prop) (w : World) :
    OpX P (.lookup t (.const (.map (some r))) (.const (.int kk k)) false) ty K w =
      OrK (tmapZ P t kk) (fun z => OrK (unents kk w.heap[r]?) (fun p => K ((lfind p.1 k).getD z) w) (OpX P (.lookup t (.const (.map (some r))) (.const (.int kk k)) false) ty K w) ()) (OpX P (.lookup t (.const (.map (some r))) (.const (.int kk k)) false) ty K w) () :=
  OrK_by (fun z hz => OrK_by (fun p hp => look1_ok (tmapZ_spec hz) (unents_spec hp)) rfl) rfl
@[go_sem] theorem x_mapUpdate (t ty : TypeId) (kk : IntKind) (r : Nat) (k : Int) (v : Value) (K : Value → World → Prop) (w : World) :
    OpX P (.mapUpdate t (.const (.map (some r))) (.const (.int kk k)) (.const v)) ty K w =
      OrK (tmapZ P t kk) (fun _ => OrK (unents kk w.heap[r]?) (fun p => K undef (setBlk w r (.map (ents kk (lput p.1 k v p.2)) (putC p.1 k p.2)))) (OpX P (.mapUpdate t (.const (.map (some r))) (.const (.int kk k)) (.const v)) ty K w) ()) (OpX P (.mapUpdate t (.const (.map (some r))) (.const (.int kk k)) (.const v)) ty K w) () :=
  OrK_by (fun z hz => OrK_by (fun p hp => put_ok (tmapZ_spec hz) (unents_spec hp)) rfl) rfl
@[go_sem] theorem x_delete' (t t' ty : TypeId) (kk : IntKind) (r : Nat) (k : Int) (K : Value → World → Prop) (w : World) :
    OpX P (.call { callee := .builtin .delete, args := #[.const (.map (some r)), .const (.int kk k)], argTypes := #[t, t'] }) ty K w =
      OrK (tmapZ P t kk) (fun _ => OrK (unents kk w.heap[r]?) (fun p => K (.tuple #[]) (setBlk w r (.map (ents kk (ldel p.1 k)) p.2))) (OpX P (.call { callee := .builtin .delete, args := #[.const (.map (some r)), .const (.int kk k)], argTypes := #[t, t'] }) ty K w) ()) (OpX P (.call { callee := .builtin .delete, args := #[.const (.map (some r)), .const (.int kk k)], argTypes := #[t, t'] }) ty K w) () :=
  OrK_by (fun z hz => OrK_by (fun p hp => del_ok (tmapZ_spec hz) rfl (unents_spec hp)) rfl) rfl
def tmapK (P : Program) (t : TypeId) : Option IntKind := (tmap P t).map (·.1)
theorem tmapK_spec {t : TypeId} {kk : IntKind} (h : tmapK P t = some kk) : ∃ z, tmap P t = some (kk, z) := by
  unfold tmapK at h
  simp at h
  exact h
@[go_sem] theorem x_len_map (t ty : TypeId) (r : Nat) (K : Value → World → Prop) (w : World) :
    OpX P (.call { callee := .builtin .len, args := #[.const (.map (some r))], argTypes := #[t] }) ty K w =
      OrK (tmapK P t) (fun kk => OrK (unents kk w.heap[r]?) (fun p => K (.int .i64 p.1.length) w) (OpX P (.call { callee := .builtin .len, args := #[.const (.map (some r))], argTypes := #[t] }) ty K w) ()) (OpX P (.call { callee := .builtin .len, args := #[.const (.map (some r))], argTypes := #[t] }) ty K w) () :=
  OrK_by (fun kk hk => OrK_by (fun p hp => by obtain ⟨z, hz⟩ := tmapK_spec hk; exact len_map_ok hz rfl (unents_spec hp)) rfl) rfl
@[go_sem] theorem rd_len_map (t ty : TypeId) (r : Nat) (K : Value → Prop) (w : World) :
    RdX P (.call { callee := .builtin .len, args := #[.const (.map (some r))], argTypes := #[t] }) ty K w =
      OrK (tmapK P t) (fun kk => OrK (unents kk w.heap[r]?) (fun p => K (.int .i64 p.1.length)) (RdX P (.call { callee := .builtin .len, args := #[.const (.map (some r))], argTypes := #[t] }) ty K w) ()) (RdX P (.call { callee := .builtin .len, args := #[.const (.map (some r))], argTypes := #[t] }) ty K w) () := by
  refine OrK_by (fun kk hk => OrK_by (fun p hp => ?_) rfl) rfl
  obtain ⟨z, hz⟩ := tmapK_spec hk
  have hh := unents_spec hp
  obtain ⟨kt, e, h1, h2, h3⟩ := tmap_spec hz
  refine RdX_ok fun ρ hg => ?_
  simp only [execOp, mkOper]
  simp [resolve, invoke, builtin, Builtin.len_, hg.1, run_underlying h1, run_getMap hh, goInt, ents]
@[go_sem] theorem x_clear_map (t ty : TypeId) (r : Nat) (K : Value → World → Prop) (w : World) :
    OpX P (.call { callee := .builtin .clear, args := #[.const (.map (some r))], argTypes := #[t] }) ty K w =
      OrK (tmapK P t) (fun kk => OrK (unents kk w.heap[r]?) (fun p => K (.tuple #[]) (setBlk w r (.map (ents kk []) p.2))) (OpX P (.call { callee := .builtin .clear, args := #[.const (.map (some r))], argTypes := #[t] }) ty K w) ()) (OpX P (.call { callee := .builtin .clear, args := #[.const (.map (some r))], argTypes := #[t] }) ty K w) () :=
  OrK_by (fun kk hk => OrK_by (fun p hp => by obtain ⟨z, hz⟩ := tmapK_spec hk; exact clear_ok hz rfl (unents_spec hp)) rfl) rfl
end
end Lyc
namespace Lyc
open Go
section
variable {P : Program}
theorem chg_of_grown {w w' : World} {row : Option Nat} (h : w.grownBy w' row) : Chg row.toList w w' :=
  ⟨h.os, h.tape, h.output, h.size, fun b hb hn => h.block b hb (by cases row <;> simp_all)⟩
def tapp (P : Program) (t : TypeId) : Option (TypeId × Nat × Nat) :=
  (P.underlying t).bind fun
    | .slice e => (P.info? e).bind fun i => i.zero.bind fun z => if z.cells.size = i.size ∧ 0 < i.size then some (e, i.size, i.bytes) else none
    | _ => none
theorem tapp_spec {t e : TypeId} {m by_ : Nat} (h : tapp P t = some (e, m, by_)) : P.underlying t = some (.slice e) ∧ ∃ i z, P.info? e = some i ∧ i.zero = some z ∧ i.size = m ∧ i.bytes = by_ ∧ z.cells.size = m ∧ 0 < m := by
  unfold tapp at h
  cases hu : P.underlying t with
  | none => rw [hu] at h; simp at h
  | some d =>
    rw [hu] at h
    cases d <;> first | (rename_i e'; dsimp only at h) | skip
    all_goals first | (simp at h; done) | skip
    rename_i e'
    cases hi : P.info? e' with
    | none => simp [hi] at h
    | some i =>
      cases hz : i.zero with
      | none => simp [hi, hz] at h
      | some z =>
        simp only [hi, hz, Option.bind_some] at h
        split at h
        · rename_i hc
          simp at h
          obtain ⟨rfl, rfl, rfl⟩ := h
          exact ⟨rfl, i, z, hi, hz, rfl, rfl, hc.1, hc.2⟩
        · simp at h
theorem app_own {t ty e : TypeId} {m by_ base : Nat} {v : Value} {n : Nat} {xs : List Value} {b o k c : Nat} {news : List Value} {K : Value → World → Prop} {w : World}
    (ht : tapp P t = some (e, m, by_)) (hown : w.ownsRow base e m v n xs) (hl : news.length = k * m) (hnews : ∀ j u, news[j]? = some u → cellAt w.heap[b]? (o + j) = some u) (h1 : okCells news = true)
    (h63 : n + k ≤ maxLen) (hbytes : (n + k) * by_ ≤ 140737488355328) (hbase : base ≤ w.heap.size)
    (hk : ∀ v' w', w'.ownsRow base e m v' (n + k) (xs ++ news) → Chg v.ownBlock.toList w w' → (v' = .slice none 0 0 ↔ v = .slice none 0 0 ∧ k = 0) → K v' w') :
    OpX P (.call { callee := .builtin .append, args := #[.const v, .const (.slice (some ⟨b, o, none⟩) k c)], argTypes := #[t, t] }) ty K w := by
  obtain ⟨hu, i, z, hi, hz, hs, hby, hzs, hsz⟩ := tapp_spec ht
  obtain ⟨v', w', hr, h2, h3, h4⟩ := run_append_own (P := P) w base t ty e i z m by_ hu hi hz hs hby hzs hsz v n xs hown ⟨b, o, none⟩ k c news hl (fun j u hj => by rw [add_mk, cell?_at]; exact hnews j u hj) (by simpa [okCells] using h1) h63 hbytes hbase
  rw [OpX_ok (v := v') (w' := w') fun ρ hg => by simp [execOp, mkOper, resolve, invoke, builtin, hg.1, hr]]
  exact hk _ _ h2 (chg_of_grown h3) h4
def zrow (z : List Value) : Nat → List Value
  | 0 => []
  | n + 1 => z ++ zrow z n
@[go_sem] theorem zrow_zero (z : List Value) : zrow z 0 = [] := rfl
@[go_sem] theorem zrow_succ (z : List Value) (n : Nat) : zrow z (n + 1) = z ++ zrow z n := rfl
theorem length_zrow (z : List Value) (n : Nat) : (zrow z n).length = n * z.length := by
  induction n with
  | zero => simp [zrow]
  | succ n ih => rw [zrow_succ, List.length_append, ih, Nat.add_mul]; omega
theorem zrow_get (z : List Value) (n i : Nat) (h : i < n * z.length) : (zrow z n)[i]? = z[i % z.length]? := by
  induction n generalizing i with
  | zero => omega
  | succ n ih =>
    rw [zrow_succ]
    by_cases hi : i < z.length
    · rw [List.getElem?_append_left hi, Nat.mod_eq_of_lt hi]
    · rw [List.getElem?_append_right (by omega), ih (i - z.length) (by rw [Nat.add_mul] at h; omega)]
      rw [Nat.mod_eq_sub_mod (show i ≥ z.length by omega)]
theorem zrow_eq (z : Array Value) (n s : Nat) (hs : z.size = s) (h0 : 0 < s) : (Array.range (n * s)).map (fun i => z[i % z.size]!) = (zrow z.toList n).toArray := by
  subst hs
  apply Array.ext_getElem?
  intro i
  have e2 : (zrow z.toList n).toArray[i]? = (zrow z.toList n)[i]? := by simp
  rw [e2]
  by_cases hi : i < n * z.size
  · have hm : i % z.size < z.size := Nat.mod_lt _ h0
    rw [zrow_get _ _ _ (by rw [Array.length_toList]; exact hi)]
    simp [hi, hm]
  · rw [Array.getElem?_eq_none (by simpa using hi), List.getElem?_eq_none (by rw [length_zrow, Array.length_toList]; omega)]
def tbs (P : Program) (t : TypeId) : Option (TypeId × Nat × List Value) :=
  (P.underlying t).bind fun
    | .slice e => (P.info? e).bind fun i => i.zero.bind fun z => if z.cells.size = i.size ∧ 0 < i.size then some (e, i.size, z.cells.toList) else none
    | _ => none
theorem tbs_spec {t e : TypeId} {m : Nat} {zs : List Value} (h : tbs P t = some (e, m, zs)) : P.underlying t = some (.slice e) ∧ ∃ i z, P.info? e = some i ∧ i.zero = some z ∧ i.size = m ∧ z.cells.toList = zs ∧ z.cells.size = m ∧ 0 < m := by
  unfold tbs at h
  cases hu : P.underlying t with
  | none => rw [hu] at h; simp at h
  | some d =>
    rw [hu] at h
    cases d <;> first | (rename_i e'; dsimp only at h) | skip
    all_goals first | (simp at h; done) | skip
    rename_i e'
    cases hi : P.info? e' with
    | none => simp [hi] at h
    | some i =>
      cases hz : i.zero with
      | none => simp [hi, hz] at h
      | some z =>
        simp only [hi, hz, Option.bind_some] at h
        split at h
        · rename_i hc
          simp at h
          obtain ⟨rfl, rfl, rfl⟩ := h
          exact ⟨rfl, i, z, hi, hz, rfl, rfl, hc.1, hc.2⟩
        · simp at h
def bplaces (m : Nat) : Nat → Nat → List (Nat × Nat)
  | 0, _ => []
  | n + 1, o => (o, m) :: bplaces m n (o + m)
@[go_sem] theorem bplaces_zero (m o : Nat) : bplaces m 0 o = [] := rfl
@[go_sem] theorem bplaces_succ (m n o : Nat) : bplaces m (n + 1) o = (o, m) :: bplaces m n (o + m) := rfl
theorem bplaces_get (m : Nat) : ∀ (n o i : Nat) (x : Nat × Nat), (bplaces m n o)[i]? = some x → some (o + i * m, m) = some x
  | 0, o, i, x, h => by simp [bplaces] at h
  | n + 1, o, 0, x, h => by simpa [bplaces] using h
  | n + 1, o, i + 1, x, h => by
    have := bplaces_get m n (o + m) i x (by simpa [bplaces] using h)
    rw [← this, Nat.add_mul]; congr 2; omega
@[go_sem] theorem x_buildSlice (t ty : TypeId) (n : Nat) (parts : List (Nat × Operand)) (K : Value → World → Prop) (w : World) (hn : 0 < n) (hn2 : n ≤ 1000) :
    OpX P (.buildSlice t n parts.toArray) ty K w = OrK ((tbs P t).bind fun q => if q.2.1 ≤ 1000 then (partV parts).bind fun vs => (fillL (bplaces q.2.1 n 0) (zrow q.2.2 n).toArray vs).map fun c => (q.1, c) else none) (fun r => K (.slice (some ⟨w.heap.size, 0, none⟩) n n) (w.alloc (.cells r.2 r.1))) (OpX P (.buildSlice t n parts.toArray) ty K w) () := by
  refine OrK_by (fun r h => ?_) rfl
  obtain ⟨⟨e, m, zs⟩, hq, h⟩ := Option.bind_eq_some_iff.1 h
  dsimp only at h
  split at h
  · rename_i hm
    obtain ⟨vs, hv, h⟩ := Option.bind_eq_some_iff.1 h
    obtain ⟨c, hf, rfl⟩ := Option.map_eq_some_iff.1 h
    obtain ⟨hu, i, z, hi, hz, hs, hzs, hzn, h0⟩ := tbs_spec hq
    subst hs
    have hle : n * i.size ≤ 1000 * 1000 := Nat.mul_le_mul hn2 hm
    have hpos : 0 < n * i.size := Nat.mul_pos hn h0
    refine OpX_ok fun ρ hg => ?_
    have hfill := fill_eq (fun j => some (j * i.size, i.size)) (bplaces i.size n 0) (fun j x hx => by simpa using bplaces_get _ _ _ _ _ hx) vs _ c hf
    rw [← hzs, ← zrow_eq z.cells n i.size hzn h0] at hfill
    have hp := partV_spec hg hv
    have hr := run_buildSlice (P := P) w t e n (vs.toArray) c i z hu hi hz (by omega) (by omega) (by simpa using hfill)
    simp only [execOp, mkOper, List.map_toArray, hp]
    rw [Sem.run_bind, hr]
    rfl
  · simp at h
def tmk (P : Program) (t : TypeId) : Option (TypeId × Nat × List Value × Nat) := (tbs P t).bind fun q => (tbytes P q.1).map fun b => (q.1, q.2.1, q.2.2, b)
theorem make_ok {t ty e : TypeId} {m b : Nat} {zs : List Value} {kl kc : IntKind} {l c : Int} {K : Value → World → Prop} {w : World} (ht : tmk P t = some (e, m, zs, b)) (h0 : 0 ≤ l) (hlc : l ≤ c)
    (hcells : c.toNat * m ≤ 16777216) (hbytes : (b : Int) * c ≤ 281474976710656) (h63 : c ≤ 9223372036854775807) :
    OpX P (.makeSlice t (.const (.int kl l)) (.const (.int kc c))) ty K w = K (.slice (some ⟨w.heap.size, 0, none⟩) l.toNat c.toNat) (w.alloc (.cells (zrow zs c.toNat).toArray e)) := by
  obtain ⟨⟨e', m', zs'⟩, hq, h⟩ := Option.bind_eq_some_iff.1 ht
  obtain ⟨b', hb0, h⟩ := Option.map_eq_some_iff.1 h
  simp only [Prod.mk.injEq] at h
  obtain ⟨rfl, rfl, rfl, rfl⟩ := h
  obtain ⟨hu, i, z, hi, hz, hs, hzs, hzn, hm⟩ := tbs_spec hq
  have hb : i.bytes = b' := by
    unfold tbytes at hb0
    rw [hi] at hb0
    simpa using hb0
  subst hs; subst hb
  have hr := run_makeSlice (P := P) (w := w) t e' i z hu hi hz kl kc l c h0 hlc hcells hbytes h63
  have e1 : madeCells z.cells (c.toNat * i.size) = (zrow zs' c.toNat).toArray := by
    rw [← hzs, ← zrow_eq z.cells c.toNat i.size hzn hm]
    rfl
  rw [e1] at hr
  refine OpX_ok fun ρ hg => ?_
  simp [execOp, mkOper, hg.1, hr]
theorem copy_ok {t t' ty : TypeId} {m : Nat} {b o dl dc b' o' sl sc : Nat} {cs : List Value} {x' : Obj} {K : Value → World → Prop} {w : World} (ht : tslice P t = some m) (hl : cs.length = min sl dl * m)
    (hsrc : ∀ j u, cs[j]? = some u → cellAt w.heap[b']? (o' + j) = some u) (hok : okCells cs = true) (hput : putAt w.heap[b]? o cs = some x') :
    OpX P (.call { callee := .builtin .copy, args := #[.const (.slice (some ⟨b, o, none⟩) dl dc), .const (.slice (some ⟨b', o', none⟩) sl sc)], argTypes := #[t, t'] }) ty K w = K (.int .i64 (min sl dl : Nat)) (setBlk w b x') := by
  obtain ⟨e, hu, hs⟩ := tslice_u ht
  have hf := run_firstCells_some (P := P) w m (min sl dl) ⟨b', o', none⟩ sl sc cs hl (fun j u hj => by rw [add_mk, cell?_at]; exact hsrc j u hj)
  have hst := run_storeV (P := P) hput hok
  refine OpX_ok fun ρ hg => ?_
  have hm : Nat.min sl dl = min sl dl := rfl
  simp [execOp, mkOper, resolve, invoke, builtin, hg.1, Builtin.copy_, run_underlying hu, run_size hs, Builtin.lenOf, goInt, hm, hf, hst]
end
end Lyc
namespace Lyc
open Go
section
variable {P : Program} {α : Type}
attribute [go_sem] Nat.mul_one
def tagOk : Option TypeId → TypeId → Bool
  | none, _ => true
  | some e, e' => Nat.beq e e'
theorem tagOk_some {e e' : TypeId} (h : tagOk (some e) e' = true) : e' = e := (Nat.eq_of_beq_eq_true h).symm
structure Sx (w : World) (e : Option TypeId) (f : α → List Value) (a : Option Addr) (l : List α) : Prop where
  at_ : l ≠ [] → ∃ b o c e' fr pre post, a = some ⟨b, o, none⟩ ∧ w.heap[b]? = some (.cells c e' fr) ∧ tagOk e e' = true ∧ c = (pre ++ l.flatMap f ++ post).toArray ∧ pre.length = o
theorem Sx.nil (w : World) (e : Option TypeId) (f : α → List Value) (a : Option Addr) : Sx w e f a [] := ⟨fun h => absurd rfl h⟩
theorem Sx.untag {w : World} {e : Option TypeId} {f : α → List Value} {a : Option Addr} {l : List α} (h : Sx w e f a l) : Sx w none f a l :=
  ⟨fun hl => let ⟨b, o, c, e', fr, pre, post, h1, h2, _, h4⟩ := h.at_ hl; ⟨b, o, c, e', fr, pre, post, h1, h2, rfl, h4⟩⟩
theorem Sx.chg {w w' : World} {e : Option TypeId} {f : α → List Value} {a : Option Addr} {l : List α} {F : List Nat} (h : Sx w e f a l) (hc : Chg F w w') (hF : ∀ b o, a = some ⟨b, o, none⟩ → l ≠ [] → b ∉ F) : Sx w' e f a l :=
  ⟨fun hl => let ⟨b, o, c, e', fr, pre, post, h1, h2, h3, h4⟩ := h.at_ hl; ⟨b, o, c, e', fr, pre, post, h1, hc.keep h2 (hF b o h1 hl), h3, h4⟩⟩
theorem Sx.chg0 {w w' : World} {e : Option TypeId} {f : α → List Value} {a : Option Addr} {l : List α} (h : Sx w e f a l) (hc : Chg [] w w') : Sx w' e f a l := h.chg hc (by simp)
theorem Sx.lt {w : World} {e : Option TypeId} {f : α → List Value} {a : Option Addr} {l : List α} (h : Sx w e f a l) (hl : l ≠ []) {b o : Nat} (ha : a = some ⟨b, o, none⟩) : b < w.heap.size := by
  obtain ⟨b', o', c, e', fr, pre, post, h1, h2, _⟩ := h.at_ hl
  rw [ha] at h1; cases h1
  exact lt_of_heap h2
theorem Sx.low {w w' : World} {e : Option TypeId} {f : α → List Value} {a : Option Addr} {l : List α} {F : List Nat} (h : Sx w e f a l) (hc : Chg F w w') (hF : ∀ x ∈ F, w.heap.size ≤ x) : Sx w' e f a l :=
  h.chg hc fun b o ha hl hm => absurd (hF b hm) (by have := h.lt hl ha; omega)
theorem Sx.ne {w : World} {e : TypeId} {f : α → List Value} {a : Option Addr} {l : List α} (h : Sx w (some e) f a l) {b o : Nat} (ha : a = some ⟨b, o, none⟩) (hl : l ≠ []) {b' : Nat} {c : Array Value} {e' : TypeId} {fr : Nat × Nat} (hb : w.heap[b']? = some (.cells c e' fr)) (hne : Nat.beq e' e = false) : b ≠ b' := by
  obtain ⟨b2, o2, c2, e2, fr2, pre, post, h1, h2, h3, _⟩ := h.at_ hl
  rw [ha] at h1; cases h1
  rintro rfl
  rw [hb] at h2; cases h2
  rw [tagOk_some h3] at hne
  simp at hne
theorem flat_get {f : α → List Value} {m : Nat} (hf : ∀ x, (f x).length = m) : ∀ (l : List α) (i : Nat) (x : α), l[i]? = some x → ∃ pre post, l.flatMap f = pre ++ f x ++ post ∧ pre.length = i * m
  | [], i, x, h => by simp at h
  | y :: l, 0, x, h => by simp at h; subst h; exact ⟨[], l.flatMap f, by simp, by simp⟩
  | y :: l, i + 1, x, h => by
    obtain ⟨pre, post, h1, h2⟩ := flat_get hf l i x (by simpa using h)
    exact ⟨f y ++ pre, post, by simp [h1], by rw [List.length_append, hf, h2, Nat.add_mul]; omega⟩
theorem flat_len {f : α → List Value} {m : Nat} (hf : ∀ x, (f x).length = m) (l : List α) : (l.flatMap f).length = l.length * m := by
  induction l with
  | nil => simp
  | cons x l ih => simp [hf, ih, Nat.add_mul]; omega
theorem aggAt_mid (pre xs post : List Value) (e : TypeId) (fr : Nat × Nat) (o n : Nat) (ho : pre.length = o) (hn : xs.length = n) : aggAt (some (.cells (pre ++ xs ++ post).toArray e fr)) o n = some xs.toArray := by
  subst ho; subst hn
  rw [aggAt_cells, if_pos (by simp)]
  simp [List.extract_toArray]
theorem aggAt_cell {x : Option Obj} {o n : Nat} {c : Array Value} (h : aggAt x o n = some c) (j : Nat) (hj : j < n) : cellAt x (o + j) = c[j]? := by
  cases x with
  | none => simp [aggAt] at h
  | some x =>
    cases x with
    | cells cs e fr =>
      rw [aggAt_cells] at h
      split at h
      · rename_i hle
        cases h
        rw [cellAt_cells, Array.getElem?_extract_of_lt (by omega)]
        simp [show o + j < cs.size by omega]
      · simp at h
    | _ => simp [aggAt] at h
theorem Sx.get {w : World} {e : Option TypeId} {f : α → List Value} {a : Option Addr} {l : List α} {m : Nat} (h : Sx w e f a l) (hf : ∀ x, (f x).length = m) {i : Nat} {x : α} (hi : l[i]? = some x) :
    ∃ b o, a = some ⟨b, o, none⟩ ∧ b < w.heap.size ∧ aggAt w.heap[b]? (o + i * m) m = some (f x).toArray := by
  have hl : l ≠ [] := by rintro rfl; simp at hi
  obtain ⟨b, o, c, e', fr, pre, post, h1, h2, h3, h4, h5⟩ := h.at_ hl
  refine ⟨b, o, h1, lt_of_heap h2, ?_⟩
  obtain ⟨p, q, h6, h7⟩ := flat_get hf l i x hi
  rw [h2, h4, h6]
  have : pre ++ (p ++ f x ++ q) ++ post = (pre ++ p) ++ f x ++ (q ++ post) := by simp
  rw [this]
  exact aggAt_mid _ _ _ _ _ _ _ (by simp [h5, h7]) (hf x)
theorem Sx.get1 {w : World} {e : Option TypeId} {f : α → List Value} {g : α → Value} {a : Option Addr} {l : List α} (h : Sx w e f a l) (hf : ∀ x, f x = [g x]) {i : Nat} {x : α} (hi : l[i]? = some x) :
    ∃ b o, a = some ⟨b, o, none⟩ ∧ b < w.heap.size ∧ cellAt w.heap[b]? (o + i) = some (g x) := by
  obtain ⟨b, o, h1, h2, h3⟩ := h.get (m := 1) (fun x => by simp [hf]) hi
  refine ⟨b, o, h1, h2, ?_⟩
  have := aggAt_cell h3 0 (by omega)
  simp only [Nat.mul_one, Nat.add_zero] at this
  rw [this, hf]; rfl
theorem Sx.sub {w : World} {e : Option TypeId} {f : α → List Value} {b o : Nat} {l : List α} {m : Nat} (h : Sx w e f (some ⟨b, o, none⟩) l) (hf : ∀ x, (f x).length = m) (i n : Nat) (a : Option Addr) (ha : n = 0 ∨ l.length ≤ i ∨ a = some ⟨b, o + i * m, none⟩) : Sx w e f a ((l.drop i).take n) := by
  refine ⟨fun hl => ?_⟩
  have hi : i < l.length ∧ n ≠ 0 := by
    constructor
    · apply Nat.lt_of_not_le; intro hle; apply hl; rw [List.drop_eq_nil_of_le hle]; simp
    · rintro rfl; simp at hl
  have ha : a = some ⟨b, o + i * m, none⟩ := by rcases ha with h | h | h <;> first | exact h | omega
  subst ha
  have hl' : l ≠ [] := by rintro rfl; simp at hi
  obtain ⟨b', o', c, e', fr, pre, post, h1, h2, h3, h4, h5⟩ := h.at_ hl'
  cases h1
  refine ⟨b, o + i * m, c, e', fr, pre ++ (l.take i).flatMap f, ((l.drop i).drop n).flatMap f ++ post, rfl, h2, h3, ?_, ?_⟩
  · rw [h4]
    congr 1
    have e1 : l.flatMap f = (l.take i).flatMap f ++ ((l.drop i).take n).flatMap f ++ ((l.drop i).drop n).flatMap f := by
      rw [← List.flatMap_append, ← List.flatMap_append, List.append_assoc, List.take_append_drop, List.take_append_drop]
    rw [e1]; simp
  · simp only [List.length_append, h5, flat_len hf, List.length_take]
    rw [Nat.min_eq_left (by omega)]
theorem Sx.cell {w : World} {e : Option TypeId} {f : α → List Value} {b o : Nat} {l : List α} (h : Sx w e f (some ⟨b, o, none⟩) l) : ∀ j u, (l.flatMap f)[j]? = some u → cellAt w.heap[b]? (o + j) = some u := by
  intro j u hj
  have hl : l ≠ [] := by rintro rfl; simp at hj
  obtain ⟨b', o', c, e', fr, pre, post, h1, h2, h3, h4, h5⟩ := h.at_ hl
  cases h1
  rw [h2, h4, cellAt_cells]
  have hj' := (List.getElem?_eq_some_iff.1 hj).1
  rw [List.getElem?_toArray, List.append_assoc, List.getElem?_append_right (by omega), List.getElem?_append_left (by omega)]
  rw [← hj]; congr 1; omega
def Ox (base : Nat) (w : World) (e : TypeId) (m : Nat) (f : α → List Value) (v : Value) (l : List α) : Prop := w.ownsRow base e m v l.length (l.flatMap f)
section
variable {base : Nat} {w w' : World} {e : TypeId} {m : Nat} {f : α → List Value} {v : Value} {l : List α}
theorem Ox.nil (base : Nat) (w : World) (e : TypeId) (m : Nat) (f : α → List Value) : Ox base w e m f (.slice none 0 0) [] := World.ownsRow_nil w base e m
theorem Ox.form (h : Ox base w e m f v l) : ∃ a cap, v = .slice a l.length cap ∧ l.length ≤ cap ∧ Sx w (some e) f a l ∧ (∀ b, some b = v.ownBlock → base ≤ b ∧ b < w.heap.size) ∧ (l ≠ [] → ∃ g, a = some ⟨g, 0, none⟩ ∧ base ≤ g ∧ g < w.heap.size) := by
  have hlt : ∀ b, some b = v.ownBlock → base ≤ b ∧ b < w.heap.size := fun b hb => h.lt b hb.symm
  obtain ⟨hl, h⟩ := h
  rcases h with ⟨rfl, h0⟩ | ⟨g, cap, cur, rfl, hb, hg, hn, hm, hs, ht⟩
  · have : l = [] := List.eq_nil_of_length_eq_zero h0
    subst this
    exact ⟨none, 0, rfl, Nat.le_refl _, Sx.nil .., by simp [Value.ownBlock], by simp⟩
  · refine ⟨some ⟨g, 0, none⟩, cap, rfl, hn, ⟨fun _ => ⟨g, 0, cur, e, (0, 0), [], cur.toList.drop (l.length * m), rfl, hg, by simp [tagOk], ?_, rfl⟩⟩, hlt, fun _ => ⟨g, rfl, hb, lt_of_heap hg⟩⟩
    rw [← ht]; simp
theorem Ox.addr {a : Option Addr} {n c : Nat} (h : Ox base w e m f (.slice a n c) l) : a = none ∨ ∃ b o, a = some ⟨b, o, none⟩ := by
  obtain ⟨hl1, h⟩ := h
  rcases h with ⟨hv, h0⟩ | ⟨g, cap, cur, hv, hb, hg, hn, hm, hs, ht⟩
  · rw [Value.slice.injEq] at hv; exact .inl hv.1
  · rw [Value.slice.injEq] at hv; exact .inr ⟨g, 0, hv.1⟩
theorem Ox.blk (h : Ox base w e m f v l) (hl : l ≠ []) : ∃ nb cap sp, v = .slice (some ⟨nb, 0, none⟩) l.length cap ∧ l.length ≤ cap ∧ base ≤ nb ∧ w.heap[nb]? = some (.cells (l.flatMap f ++ sp).toArray e) := by
  obtain ⟨hl1, h⟩ := h
  rcases h with ⟨rfl, h0⟩ | ⟨g, cap, cur, rfl, hb, hg, hn, hm, hs, ht⟩
  · exact absurd (List.eq_nil_of_length_eq_zero h0) hl
  · refine ⟨g, cap, cur.toList.drop (l.length * m), rfl, hn, hb, ?_⟩
    rw [hg, ← ht]; simp
theorem Ox.chg {F : List Nat} (h : Ox base w e m f v l) (hc : Chg F w w') (hF : ∀ b, some b = v.ownBlock → b ∉ F) : Ox base w' e m f v l := by
  obtain ⟨hl, h⟩ := h
  refine ⟨hl, ?_⟩
  rcases h with h | ⟨g, cap, cur, rfl, hb, hg, hn, hm, hs, ht⟩
  · exact .inl h
  · exact .inr ⟨g, cap, cur, rfl, hb, hc.keep hg (hF g rfl), hn, hm, hs, ht⟩
theorem Ox.off (h : Ox base w e m f v l) {t : Nat} {c : Array Value} {e' : TypeId} {fr : Nat × Nat} (ht : w.heap[t]? = some (.cells c e' fr)) (hne : Nat.beq e' e = false) : v.ownBlock ≠ some t := by
  obtain ⟨hl, ho⟩ := h
  rcases ho with ⟨hv, -⟩ | ⟨g, cap, cur, hv, -, hg, -⟩
  · rw [hv]; simp [Value.ownBlock]
  · rw [hv]
    simp only [Value.ownBlock, ne_eq, Option.some.injEq]
    rintro rfl
    rw [ht] at hg
    simp only [Option.some.injEq, Obj.cells.injEq] at hg
    rw [hg.2.1, Nat.beq_refl] at hne
    simp at hne
theorem Ox.own_ge (h : Ox base w e m f v l) : ∀ x ∈ v.ownBlock.toList, base ≤ x := by
  obtain ⟨a, cap, hv, -, -, hb, -⟩ := h.form
  intro x hx
  exact (hb x (by cases hv' : v.ownBlock with | none => rw [hv'] at hx; simp at hx | some y => rw [hv'] at hx; simp at hx; rw [hx])).1
theorem Ox.chg0 (h : Ox base w e m f v l) (hc : Chg [] w w') : Ox base w' e m f v l := h.chg hc (by simp)
theorem Ox.low {F : List Nat} (h : Ox base w e m f v l) (hc : Chg F w w') (hF : ∀ x ∈ F, x < base) : Ox base w' e m f v l :=
  h.chg hc fun b hb hm => absurd (hF b hm) (by have := h.lt b hb.symm; omega)
theorem Ox.base_le (h : Ox base w e m f v l) {base' : Nat} (hb : base' ≤ base) : Ox base' w e m f v l := by
  obtain ⟨hl, h⟩ := h
  refine ⟨hl, ?_⟩
  rcases h with h | ⟨g, cap, cur, h1, h2, h3⟩
  · exact .inl h
  · exact .inr ⟨g, cap, cur, h1, by omega, h3⟩
theorem own_chg {w0 : World} {F : List Nat} (h : Ox w0.heap.size w e m f v l) (hc : Chg F w0 w) (hc' : Chg v.ownBlock.toList w w') : Chg F w0 w' :=
  hc.trans hc' fun x hx => .inr (h.lt x (by cases hv : v.ownBlock <;> simp_all)).1
theorem own_chg' {w0 : World} {F : List Nat} {b0 : Nat} (h : Ox b0 w e m f v l) (h0 : w0.heap.size ≤ b0) (hc : Chg F w0 w) (hc' : Chg v.ownBlock.toList w w') : Chg F w0 w' :=
  own_chg (h.base_le h0) hc hc'
end
theorem okCells_flat {f : α → List Value} (hok : ∀ x, okCells (f x) = true) (l : List α) : okCells (l.flatMap f) = true := by
  induction l with
  | nil => rfl
  | cons x l ih => rw [List.flatMap_cons]; simp only [okCells, List.all_append, Bool.and_eq_true]; exact ⟨hok x, ih⟩
theorem app_x {t ty e : TypeId} {m by_ base : Nat} {f : α → List Value} {v : Value} {l l2 : List α} {a : Option Addr} {k c : Nat} {e' : Option TypeId} {K : Value → World → Prop} {w : World}
    (ht : tapp P t = some (e, m, by_)) (hf : ∀ x, (f x).length = m) (hok : ∀ x, okCells (f x) = true) (h : Ox base w e m f v l) (hs : Sx w e' f a l2) (hk : k = l2.length)
    (hb : l.length + l2.length ≤ 1000000000) (hby : by_ ≤ 100000) (hbase : base ≤ w.heap.size)
    (hK : ∀ v' w', Ox base w' e m f v' (l ++ l2) → Chg v.ownBlock.toList w w' → (v'.ownBlock = v.ownBlock ∨ v'.ownBlock = some w.heap.size) → K v' w') :
    OpX P (.call { callee := .builtin .append, args := #[.const v, .const (.slice a k c)], argTypes := #[t, t] }) ty K w := by
  subst hk
  have hml : (1000000000 : Nat) ≤ maxLen := by simp [maxLen]
  by_cases hl : l2 = []
  · subst hl
    rw [List.append_nil] at hK
    cases a with
    | some a =>
      obtain ⟨hu, i, z, hi, hz, hs', hby', hzs, hsz⟩ := tapp_spec ht
      have hr := run_append_own_at (P := P) w base t ty e i z m by_ hu hi hz hs' hby' hzs hsz v l.length _ h a 0 c [] (by simp) (by simp) (by simp) (by omega) (by
        have := Nat.mul_le_mul (show l.length + 0 ≤ 1000000000 by simp at hb; omega) hby; omega) hbase
      obtain ⟨v', w', hr, h2, h3, _, h4⟩ := hr
      rw [OpX_ok (v := v') (w' := w') fun ρ hg => by simp [execOp, mkOper, resolve, invoke, builtin, hg.1, hr]]
      exact hK _ _ (by unfold Ox; rw [List.append_nil] at h2; exact h2) (chg_of_grown h3) h4
    | none =>
      obtain ⟨hu, i, z, hi, hz, hs', hby', hzs, hsz⟩ := tapp_spec ht
      have hr : (Builtin.append_ #[t, t] ty #[v, .slice none 0 c]).run P w = .ok v w := by
        rcases h.2 with ⟨rfl, hn⟩ | ⟨g, cap, cur, rfl, hb', hg, hn, hm, hs'', htk⟩
        · have : l = [] := List.eq_nil_of_length_eq_zero hn
          subst this
          simp [Builtin.append_, run_underlying hu, Go.sizeOf, typeInfo, hi, Builtin.lenOf, Builtin.firstCells]
        · have hst : ∀ a : Addr, (storeCells a []).run P w = .ok () w := fun a => by simp [storeCells]
          simp [Builtin.append_, run_underlying hu, Go.sizeOf, typeInfo, hi, Builtin.lenOf, Builtin.firstCells, hn, hst]
      rw [OpX_ok (v := v) (w' := w) fun ρ hg => by simp [execOp, mkOper, resolve, invoke, builtin, hg.1, hr]]
      exact hK _ _ h (Chg.refl _ _) (.inl rfl)
  · obtain ⟨b, o, c', e2, fr, pre, post, h1, h2, h3, h4, h5⟩ := hs.at_ hl
    subst h1
    obtain ⟨hu, i, z, hi, hz, hs', hby', hzs, hsz⟩ := tapp_spec ht
    have hnews : ∀ j u, (l2.flatMap f)[j]? = some u → w.cell? ((⟨b, o, none⟩ : Addr).add j) = some u := by
      intro j u hj
      rw [add_mk, cell?_at, h2, h4, cellAt_cells]
      have hj' := (List.getElem?_eq_some_iff.1 hj).1
      rw [List.getElem?_toArray, List.append_assoc, List.getElem?_append_right (by omega), List.getElem?_append_left (by omega)]
      rw [← hj]; congr 1; omega
    obtain ⟨v', w', hr, h6, h7, _, h8⟩ := run_append_own_at (P := P) w base t ty e i z m by_ hu hi hz hs' hby' hzs hsz v l.length _ h ⟨b, o, none⟩ l2.length c (l2.flatMap f) (flat_len hf l2) hnews (fun u hu => List.all_eq_true.1 (okCells_flat hok l2) u hu) (by omega) (Nat.le_trans (Nat.mul_le_mul hb hby) (by omega)) hbase
    rw [OpX_ok (v := v') (w' := w') fun ρ hg => by simp [execOp, mkOper, resolve, invoke, builtin, hg.1, hr]]
    refine hK v' w' ?_ (chg_of_grown h7) h8
    unfold Ox
    rw [List.flatMap_append, List.length_append]
    exact h6
theorem Sx.built {w : World} {e : TypeId} {f : α → List Value} {l : List α} {c : List Value} {b : Nat} (h : w.heap[b]? = some (.cells c.toArray e)) (hc : c = l.flatMap f) : Sx w (some e) f (some ⟨b, 0, none⟩) l :=
  ⟨fun _ => ⟨b, 0, _, e, (0, 0), [], [], rfl, h, by simp [tagOk], by simp [hc], rfl⟩⟩
theorem Ox.built {w : World} {base : Nat} {e : TypeId} {m : Nat} {f : α → List Value} {l : List α} {c : List Value} {b n cap : Nat} (h : w.heap[b]? = some (.cells c.toArray e (0, 0))) (hf : ∀ x, (f x).length = m) (hb : base ≤ b) (hn : n = l.length) (hcap : cap = n) (hml : n ≤ 1000000000) (hc : c = l.flatMap f) : Ox base w e m f (.slice (some ⟨b, 0, none⟩) n cap) l := by
  subst hn; subst hcap; subst hc
  have h9 : (1000000000 : Nat) ≤ maxLen := by simp [maxLen]
  exact ⟨flat_len hf l, .inr ⟨b, l.length, _, rfl, hb, h, Nat.le_refl _, by omega, by simp [flat_len hf], List.take_of_length_le (by rw [flat_len hf]; exact Nat.le_refl _)⟩⟩
theorem take_next {β : Type} {l : List β} {k : Nat} (h : k < l.length) : l.take (k + 1) = l.take k ++ [l[k]] := by rw [List.take_add_one, List.getElem?_eq_getElem h]; rfl
theorem spl_mid (pre xs ys post : List Value) (o : Nat) (ho : pre.length = o) (hl : ys.length = xs.length) : spl (pre ++ xs ++ post).toArray o ys = (pre ++ ys ++ post).toArray := by
  subst ho
  unfold spl
  simp [hl]
theorem putAt_mid (pre xs ys post : List Value) (e : TypeId) (o : Nat) (ho : pre.length = o) (hl : ys.length = xs.length) : putAt (some (.cells (pre ++ xs ++ post).toArray e (0, 0))) o ys = some (.cells (pre ++ ys ++ post).toArray e) := by
  rw [putAt_cells, if_pos (by simp; omega), spl_mid pre xs ys post o ho hl]
theorem flat_set {f : α → List Value} {m : Nat} (hf : ∀ x, (f x).length = m) : ∀ (l : List α) (i : Nat) (x y : α), l[i]? = some x → ∃ pre post, l.flatMap f = pre ++ f x ++ post ∧ pre.length = i * m ∧ (l.set i y).flatMap f = pre ++ f y ++ post
  | [], i, x, y, h => by simp at h
  | z :: l, 0, x, y, h => by simp at h; subst h; exact ⟨[], l.flatMap f, by simp, by simp, by simp⟩
  | z :: l, i + 1, x, y, h => by
    obtain ⟨pre, post, h1, h2, h3⟩ := flat_set hf l i x y (by simpa using h)
    exact ⟨f z ++ pre, post, by simp [h1], by rw [List.length_append, hf, h2, Nat.add_mul]; omega, by simp [h3]⟩
theorem Ox.put {base : Nat} {w : World} {e : TypeId} {m : Nat} {f : α → List Value} {v : Value} {l : List α} (h : Ox base w e m f v l) (hf : ∀ x, (f x).length = m) {i : Nat} (hi : i < l.length) (y : α) :
    ∃ g cap x', v = .slice (some ⟨g, 0, none⟩) l.length cap ∧ base ≤ g ∧ g < w.heap.size ∧ putAt w.heap[g]? (i * m) (f y) = some x' ∧ Ox base (setBlk w g x') e m f v (l.set i y) := by
  obtain ⟨hl, h⟩ := h
  rcases h with ⟨rfl, h0⟩ | ⟨g, cap, cur, rfl, hb, hg, hn, hm, hs, ht⟩
  · omega
  · obtain ⟨pre, post, h1, h2, h3⟩ := flat_set hf l i l[i] y (by simp [hi])
    have hcur : cur = (pre ++ f l[i] ++ (post ++ cur.toList.drop (l.length * m))).toArray := by
      have e1 : cur.toList = l.flatMap f ++ cur.toList.drop (l.length * m) := by rw [← ht]; simp
      apply Array.ext'
      rw [h1] at e1
      simpa using e1
    have hp := putAt_mid pre (f l[i]) (f y) (post ++ cur.toList.drop (l.length * m)) e (i * m) h2 (by simp [hf])
    rw [← hcur] at hp
    refine ⟨g, cap, _, rfl, hb, lt_of_heap hg, (by rw [hg]; exact hp), ?_⟩
    refine ⟨by simp [flat_len hf], .inr ⟨g, cap, _, by simp, hb, heap_set_same _ _ _ _ rfl (lt_of_heap hg), by simpa using hn, hm, ?_, ?_⟩⟩
    · have := congrArg Array.size hcur
      simp [hf] at this
      simp [hf]
      omega
    · have hlen : (pre ++ f y ++ post).length = (l.set i y).length * m := by rw [← h3, flat_len hf]
      show (pre ++ f y ++ (post ++ cur.toList.drop (l.length * m))).take _ = _
      rw [h3, ← List.append_assoc, List.take_append_of_le_length (by omega), List.take_of_length_le (by omega)]
theorem zrow_flat {f : α → List Value} {z : α} {zs : List Value} (hz : f z = zs) (n : Nat) : zrow zs n = (List.replicate n z).flatMap f := by
  induction n with
  | zero => rfl
  | succ n ih => rw [zrow_succ, List.replicate_succ, List.flatMap_cons, hz, ih]
theorem make_x {t ty e : TypeId} {m by_ base : Nat} {zs : List Value} {f : α → List Value} (z : α) {n : Nat} {K : Value → World → Prop} {w : World} (ht : tmk P t = some (e, m, zs, by_)) (hf : ∀ x, (f x).length = m) (hz : f z = zs)
    (hn : n ≤ 100000) (hm : m ≤ 100) (hby : by_ ≤ 100000) (hbase : base ≤ w.heap.size)
    (hK : ∀ w', w' = w.alloc (.cells (zrow zs n).toArray e) → Ox base w' e m f (.slice (some ⟨w.heap.size, 0, none⟩) n n) (List.replicate n z) → K (.slice (some ⟨w.heap.size, 0, none⟩) n n) w') :
    OpX P (.makeSlice t (.const (.int .i64 n)) (.const (.int .i64 n))) ty K w := by
  have h1 : n * m ≤ 100000 * 100 := Nat.mul_le_mul hn hm
  have h2 : (by_ : Int) * (n : Int) ≤ 100000 * 100000 := by
    have := Nat.mul_le_mul hby hn
    rw [← Int.natCast_mul]; omega
  rw [make_ok ht (by omega) (Int.le_refl _) (by simpa using Nat.le_trans h1 (by omega)) (by omega) (by omega)]
  simp only [Int.toNat_natCast]
  refine hK _ rfl (Ox.built (c := zrow zs n) (heap_alloc_new _ _ _ rfl) hf hbase (by simp) rfl (by omega) (zrow_flat hz n))
theorem make_0 {t ty e : TypeId} {m by_ base : Nat} {zs : List Value} {f : α → List Value} {n : Int} {K : Value → World → Prop} {w : World} (ht : tmk P t = some (e, m, zs, by_)) (hzs : zs.length = m)
    (h0 : 0 ≤ n) (hn : n ≤ 100000) (hm : m ≤ 100) (hby : by_ ≤ 100000) (hbase : base ≤ w.heap.size)
    (hK : ∀ w', w' = w.alloc (.cells (zrow zs n.toNat).toArray e) → Ox base w' e m f (.slice (some ⟨w.heap.size, 0, none⟩) 0 n.toNat) [] → K (.slice (some ⟨w.heap.size, 0, none⟩) 0 n.toNat) w') :
    OpX P (.makeSlice t (.const (.int .i64 0)) (.const (.int .i64 n))) ty K w := by
  obtain ⟨k, rfl⟩ := Int.eq_ofNat_of_zero_le h0
  have h1 : k * m ≤ 100000 * 100 := Nat.mul_le_mul (by omega) hm
  have h2 : (by_ : Int) * (k : Int) ≤ 100000 * 100000 := by
    have := Nat.mul_le_mul hby (show k ≤ 100000 by omega)
    rw [← Int.natCast_mul]; omega
  have hml : (1000000000 : Nat) ≤ maxLen := by simp [maxLen]
  rw [make_ok ht (Int.le_refl _) (by omega) (by simpa using Nat.le_trans h1 (by omega)) (by omega) (by omega)]
  exact hK _ rfl (World.ownsRow_made w _ _ hbase (by simp; omega) (by simp [length_zrow, hzs]))
theorem copy_x {t t' ty e : TypeId} {m base : Nat} {f : α → List Value} {v : Value} {l l2 : List α} {a : Option Addr} {k c : Nat} {e' : Option TypeId} {K : Value → World → Prop} {w : World}
    (ht : tslice P t = some m) (hf : ∀ x, (f x).length = m) (hok : ∀ x, okCells (f x) = true) (h : Ox base w e m f v l) (hs : Sx w e' f a l2) (hk : k = l2.length) (hlen : l2.length = l.length)
    (hK : ∀ w', Ox base w' e m f v l2 → Chg v.ownBlock.toList w w' → K (.int .i64 l2.length) w') :
    OpX P (.call { callee := .builtin .copy, args := #[.const v, .const (.slice a k c)], argTypes := #[t, t'] }) ty K w := by
  subst hk
  obtain ⟨e0, hu, hsz⟩ := tslice_u ht
  by_cases hl : l2 = []
  · subst hl
    have hl0 : l = [] := List.eq_nil_of_length_eq_zero hlen.symm
    subst hl0
    obtain ⟨a', cap, rfl, _⟩ := h.form
    have hst : ∀ a : Addr, (storeCells a []).run P w = .ok () w := fun a => by simp [storeCells]
    have hr : ((execOp (fun | .const v => v | .global g => .pointer (some ⟨g, 0, none⟩) | .func f => .func (.func f) #[] #[] | .tmp _ => undef) (mkOper (.call { callee := .builtin .copy, args := #[.const (.slice a' 0 cap), .const (.slice a 0 c)], argTypes := #[t, t'] }) ty)).run P w) = .ok (.value (.int .i64 0)) w := by
      have hlc : ∀ a : Addr, (loadCells a 0).run P w = .ok #[] w := fun a => by simp [loadCells, loadCellsFrom]
      cases a <;> cases a' <;> simp [execOp, mkOper, resolve, invoke, builtin, Builtin.copy_, run_underlying hu, run_size hsz, Builtin.lenOf, goInt, Builtin.firstCells, hst, hlc]
    rw [OpX_ok (v := .int .i64 0) (w' := w) fun ρ hg => by
      have hlc : ∀ a : Addr, (loadCells a 0).run P w = .ok #[] w := fun a => by simp [loadCells, loadCellsFrom]
      cases a <;> cases a' <;> simp [execOp, mkOper, resolve, invoke, builtin, hg.1, Builtin.copy_, run_underlying hu, run_size hsz, Builtin.lenOf, goInt, Builtin.firstCells, hst, hlc]]
    exact hK w h (Chg.refl _ _)
  · obtain ⟨b, o, c', e2, fr, pre, post, h1, h2, h3, h4, h5⟩ := hs.at_ hl
    subst h1
    have h0 := h
    obtain ⟨hl1, h⟩ := h
    rcases h with ⟨rfl, h9⟩ | ⟨g, cap, cur, rfl, hb, hg, hn, hm, hsz', htk⟩
    · exact absurd (List.eq_nil_of_length_eq_zero (by omega)) hl
    · have hcur : cur.toList = l.flatMap f ++ cur.toList.drop (l.length * m) := by rw [← htk]; simp
      have hp := putAt_mid [] (l.flatMap f) (l2.flatMap f) (cur.toList.drop (l.length * m)) e 0 rfl (by rw [flat_len hf, flat_len hf, hlen])
      rw [List.nil_append, ← hcur] at hp
      have hmin : min l2.length l.length = l2.length := by omega
      rw [copy_ok (cs := l2.flatMap f) (x' := _) ht (by rw [flat_len hf, hmin]) ?_ (okCells_flat hok l2) (by rw [hg]; exact hp)]
      · rw [hmin]
        refine hK _ ⟨flat_len hf l2, .inr ⟨g, cap, _, by rw [hlen], hb, heap_set_same _ _ _ _ rfl (lt_of_heap hg), by omega, hm, ?_, ?_⟩⟩ ((Chg.refl _ _).set _ _ (by simp [Value.ownBlock]))
        · have := congrArg List.length hcur
          simp [flat_len hf] at this
          simp [flat_len hf, hlen]
          omega
        · simp [flat_len hf]
      · intro j u hj
        rw [h2, h4, cellAt_cells]
        have hj' := (List.getElem?_eq_some_iff.1 hj).1
        rw [List.getElem?_toArray, List.append_assoc, List.getElem?_append_right (by omega), List.getElem?_append_left (by omega)]
        rw [← hj]; congr 1; omega
end
end Lyc
namespace Lyc
open Go Go.ChangeShapes Go.WideShapes Go.ChangeAt Go.RowKit Go.Deep
def intF (n : Int) : List Value := [.int .i64 n]
theorem intF_len (n : Int) : (intF n).length = 1 := rfl
theorem intF_ok (n : Int) : okCells (intF n) = true := rfl
section
variable {α : Type}
theorem Sx.of_sla {w : World} {a : Option Addr} {len cap m : Nat} {f : α → List Value} {g : Nat → α} (hf : ∀ x, (f x).length = m) (hm : 0 < m) (h : SlA w (.slice a len cap) len m fun i => f (g i)) : Sx w none f a ((List.range len).map g) := by
  obtain ⟨a', cap', hv, h⟩ := h
  rw [Value.slice.injEq] at hv
  obtain ⟨rfl, -, -⟩ := hv
  refine ⟨fun hl => ?_⟩
  have hlen : 0 < len := by
    cases len with
    | zero => simp at hl
    | succ n => omega
  obtain ⟨b, o, ha, hb, h0⟩ := h 0 hlen
  subst ha
  cases hc : w.heap[b]? with
  | none => rw [hc] at h0; simp [aggAt] at h0
  | some x =>
    cases x with
    | cells c e fr =>
      have key : ∀ n, n ≤ len → (c.toList.drop o).take (n * m) = ((List.range n).map g).flatMap f ∧ (n = 0 ∨ o + n * m ≤ c.size) := by
        intro n
        induction n with
        | zero => intro _; simp
        | succ n ih =>
          intro hn
          obtain ⟨ih, -⟩ := ih (by omega)
          obtain ⟨b', o', ha', -, h1⟩ := h n (by omega)
          cases ha'
          rw [hc, aggAt_cells] at h1
          split at h1
          · rename_i hle
            have e1 : (c.toList.drop (o + n * m)).take m = f (g n) := by
              have h2 := Option.some.inj h1
              have h3 := congrArg Array.toList h2
              simp at h3
              exact h3
            refine ⟨?_, .inr (by rw [Nat.add_mul]; omega)⟩
            rw [Nat.add_mul, Nat.one_mul, List.take_add, ih, List.drop_drop, e1, List.range_succ]
            simp
          · simp at h1
      obtain ⟨k1, k2⟩ := key len (Nat.le_refl _)
      have k2 : o + len * m ≤ c.size := by rcases k2 with h | h <;> omega
      refine ⟨b, o, c, e, fr, c.toList.take o, c.toList.drop (o + len * m), rfl, hc, rfl, ?_, by simp; omega⟩
      apply Array.ext'
      rw [← k1]
      simp only [List.append_assoc]
      rw [← List.drop_drop, List.take_append_drop, List.take_append_drop]
    | _ => rw [hc] at h0; simp [aggAt] at h0
end
section
variable {H : Type} {enc : TypeId × Value → H} {P : Program} {w : World} {base : Nat} {held : Bool}
theorem sx_ints_at {a : Addr} {len : Nat} {zs : List Int} (cap : Nat) (hz : len ≤ zs.length) (h : ∀ i, i < zs.length → w.cell? (a.add i) = some (.int .i64 (zs.getD i 0))) : Sx w none intF (some a) (zs.take len) := by
  obtain ⟨g, hg⟩ := sla_of (w := w) (a := a) (len := len) (cap := cap) (m := 1) intF (by omega) (fun _ => rfl) (fun i hi => ⟨zs.getD i 0, fun j hj => by
    have : j = 0 := by omega
    subst this
    have := h i (by omega)
    simpa [intF] using this⟩)
  have h1 := Sx.of_sla (f := intF) intF_len (by omega) hg
  have e : (List.range len).map g = zs.take len := by
    apply List.ext_getElem?
    intro i
    rw [List.getElem?_map, List.getElem?_take]
    by_cases hi : i < len
    · rw [List.getElem?_range hi, if_pos hi, List.getElem?_eq_getElem (by omega)]
      obtain ⟨a', cap', hv, hg⟩ := hg
      rw [Value.slice.injEq] at hv
      obtain ⟨rfl, -, -⟩ := hv
      obtain ⟨b, o, ha, -, hag⟩ := hg i hi
      cases ha
      have h2 := h i (by omega)
      rw [add_mk, cell?_at] at h2
      have h3 := aggAt_cell hag 0 (by omega)
      simp only [Nat.mul_one, Nat.add_zero] at h3
      rw [h2] at h3
      simp [intF] at h3
      simp only [Option.map_some, Option.some.injEq]
      rw [← h3]
      simp [show i < zs.length by omega]
    · rw [List.getElem?_eq_none (by simp; omega), if_neg hi]
      rfl
  rw [e] at h1
  exact h1
theorem open_intl {spare : Nat → Bool} {b0 : Nat} {t e : TypeId} {v : Value} {d : DataW H} {p : List MemPlace} (ht : P.underlying t = some (.slice e)) (he : P.underlying e = some (.int .i64)) (hc : P.cellsOf e = 1) (hv : Value.okWide P w .any b0 t v) (h : DataW.Trod enc P w base spare held t v d p) :
    ∃ (a : Option Addr) (l : List Int) (cap : Nat), v = .slice a l.length cap ∧ Sx w none intF a l ∧ l.length ≤ maxLen := by
  obtain ⟨fuel, h⟩ := h
  obtain ⟨a, len, cap, rfl⟩ := okWide_slice ht hv
  rcases open_ints ht he hc h with ⟨h0, -⟩ | ⟨a', len', cap', zs, hcs, -, hl, hm, hz, -, hcell, -⟩
  · simp [Value.cells] at h0
    obtain ⟨rfl, rfl, rfl⟩ := h0
    exact ⟨none, [], 0, rfl, Sx.nil _ _ _ _, by simp⟩
  · simp [Value.cells] at hcs
    obtain ⟨rfl, rfl, rfl⟩ := hcs
    have hzl : len ≤ zs.length := by rw [hz]; split <;> omega
    refine ⟨some a', zs.take len, cap, by simp [Nat.min_eq_left hzl], sx_ints_at cap hzl hcell, by simp; omega⟩
theorem open_intcell {spare : Nat → Bool} {fuel : Nat} {t e : TypeId} {v : Value} {y : DataW H × List MemPlace} (ht : P.underlying t = some (.slice e)) (he : P.underlying e = some (.int .i64)) (hc : P.cellsOf e = 1) (h : DataW.trod enc P w base spare held fuel t [v] = some y) :
    ∃ (a : Option Addr) (l : List Int) (cap : Nat), v = .slice a l.length cap ∧ Sx w none intF a l ∧ l.length ≤ maxLen := by
  rcases open_ints ht he hc h with ⟨h0, -⟩ | ⟨a', len', cap', zs, hcs, -, hl, hm, hz, -, hcell, -⟩
  · simp at h0
    subst h0
    exact ⟨none, [], 0, rfl, Sx.nil _ _ _ _, by simp⟩
  · simp at hcs
    subst hcs
    have hzl : len' ≤ zs.length := by rw [hz]; split <;> omega
    refine ⟨some a', zs.take len', cap', by simp [Nat.min_eq_left hzl], sx_ints_at cap' hzl hcell, by simp; omega⟩
theorem open_intarr {spare : Nat → Bool} {b0 n : Nat} {t e : TypeId} {v : Value} {d : DataW H} {p : List MemPlace} (ht : P.underlying t = some (.array n e)) (he : P.underlying e = some (.int .i64)) (hc : P.cellsOf e = 1) (hn : P.cellsOf t = n) (hv : Value.okWide P w .any b0 t v) (h : DataW.Trod enc P w base spare held t v d p) :
    ∃ l : List Int, v = .agg (l.map (Value.int .i64)).toArray ∧ l.length = n := by
  obtain ⟨fuel, h⟩ := h
  simp only [Value.okWide, ht] at hv
  obtain ⟨cs, rfl, hsz, -⟩ := hv
  obtain ⟨l0⟩ := cs
  rw [hn] at hsz
  have hsz' : l0.length = n := hsz
  obtain ⟨xs, m, -, -, -, hxl, hf⟩ := DataW.trod_array ht h
  have hall : ∀ i, i < n → ∃ k : Int, l0[i]? = some (.int .i64 k) := by
    intro i hi
    have h1 := hf i hi
    rw [hc, List.getElem?_eq_getElem (by omega)] at h1
    obtain ⟨k, hk, -⟩ := DataW.trod_int he h1
    have hk' : (l0.drop (i * 1)).take 1 = [Value.int .i64 k] := hk
    refine ⟨k, ?_⟩
    rw [Nat.mul_one, List.drop_eq_getElem_cons (show i < l0.length by omega), List.take_succ_cons, List.take_zero, List.cons.injEq] at hk'
    rw [List.getElem?_eq_getElem (by omega), hk'.1]
  have : ∀ (l : List Value), (∀ i, i < l.length → ∃ k : Int, l[i]? = some (.int .i64 k)) → ∃ z : List Int, l = z.map (Value.int .i64) := by
    intro l
    induction l with
    | nil => intro _; exact ⟨[], rfl⟩
    | cons v l ih =>
      intro h
      obtain ⟨k, hk⟩ := h 0 (by simp)
      obtain ⟨z, hz⟩ := ih (fun i hi => by have := h (i + 1) (by simp; omega); simpa using this)
      simp at hk
      exact ⟨k :: z, by simp [hk, hz]⟩
  obtain ⟨z, hz⟩ := this l0 (by rw [hsz']; exact hall)
  exact ⟨z, by rw [hz], by rw [← hsz', hz]; simp⟩
structure IRow where
  a : Option Addr
  cap : Nat
  zs : List Int
def IRow.f (r : IRow) : List Value := [.slice r.a r.zs.length r.cap]
theorem open_introws {b0 : Nat} {t e q : TypeId} {v : Value} {d : DataW H} {p : List MemPlace} (ht : P.underlying t = some (.slice e)) (he : P.underlying e = some (.slice q)) (hq : P.underlying q = some (.int .i64)) (ce : P.cellsOf e = 1) (cq : P.cellsOf q = 1) (hv : Value.okWide P w .any b0 t v) (h : DataW.Trod enc P w base (fun _ => true) held t v d p) :
    ∃ (a : Option Addr) (l : List IRow) (cap : Nat), v = .slice a l.length cap ∧ Sx w none IRow.f a l ∧ l.length ≤ maxLen ∧ ∀ r ∈ l, Sx w none intF r.a r.zs ∧ r.zs.length ≤ maxLen := by
  obtain ⟨fuel, h⟩ := h
  obtain ⟨a, len, cap, rfl⟩ := okWide_slice ht hv
  rcases open_int_rows ht he hq ce cq h with ⟨h0, -⟩ | ⟨a', len', cap', A, L, C, Z, hcs, -, hl, hm, -, hr⟩
  · simp [Value.cells] at h0
    obtain ⟨rfl, rfl, rfl⟩ := h0
    exact ⟨none, [], 0, rfl, Sx.nil _ _ _ _, by simp, by simp⟩
  · simp [Value.cells] at hcs
    obtain ⟨rfl, rfl, rfl⟩ := hcs
    let mk : Nat → IRow := fun r => ⟨A r, C r, (Z r).take (L r)⟩
    have hmk : ∀ r, r < cap → (mk r).f = [.slice (A r) (L r) (C r)] := by
      intro r hrc
      obtain ⟨-, h2, -, h4, -⟩ := hr r hrc
      simp only [mk, IRow.f, List.length_take]
      rw [Nat.min_eq_left (by omega)]
    obtain ⟨g, hg⟩ := sla_of (w := w) (a := a') (len := len) (cap := cap) (m := 1) (fun v : Value => [v]) (by omega) (fun _ => rfl) (fun i hi => ⟨.slice (A i) (L i) (C i), fun j hj => by
      have : j = 0 := by omega
      subst this
      simpa using (hr i (by omega)).1⟩)
    have hg' : SlA w (.slice (some a') len cap) len 1 fun i => (mk i).f := by
      obtain ⟨a2, cap2, hv2, hg⟩ := hg
      refine ⟨a2, cap2, hv2, fun i hi => ?_⟩
      obtain ⟨b, o, ha, hb, hag⟩ := hg i hi
      refine ⟨b, o, ha, hb, ?_⟩
      rw [hag]
      show some [g i].toArray = some (mk i).f.toArray
      rw [hmk i (by omega)]
      rw [Value.slice.injEq] at hv2
      obtain ⟨rfl, -, -⟩ := hv2
      cases ha
      have h2 := (hr i (by omega)).1
      rw [add_mk, cell?_at] at h2
      have h3 := aggAt_cell hag 0 (by omega)
      simp only [Nat.mul_one, Nat.add_zero] at h3
      rw [h2] at h3
      simp at h3
      rw [← h3]
    refine ⟨some a', (List.range len).map mk, cap, by simp, Sx.of_sla (m := 1) (fun _ => rfl) (by omega) hg', by rw [List.length_map, List.length_range]; exact Nat.le_trans hl hm, ?_⟩
    intro r hrm
    obtain ⟨i, hi, rfl⟩ := List.mem_map.1 hrm
    have hi := List.mem_range.1 hi
    obtain ⟨-, h2, h3, h4, -, h6, h7⟩ := hr i (by omega)
    refine ⟨?_, by simp only [mk, List.length_take]; omega⟩
    show Sx w none intF (A i) ((Z i).take (L i))
    cases hA : A i with
    | none =>
      have := h6 hA
      have hL : L i = 0 := by omega
      rw [hL, List.take_zero]
      exact Sx.nil _ _ _ _
    | some ad =>
      exact sx_ints_at (C i) (by omega) fun j hj => (h7 ad hA).2 j (by omega)
end
end Lyc
namespace Lyc
open Go Go.ChangeShapes Go.WideShapes Go.ChangeAt Go.RowKit Go.Deep
section
variable {H : Type} {enc : TypeId × Value → H} {P : Program} {w : World} {base : Nat} {spare : Nat → Bool} {held : Bool}
theorem open_things_at {α : Type} {t e : TypeId} {m fuel : Nat} {cs : List Value} {x : DataW H × List MemPlace} (f : α → List Value) (ok : α → Prop) (ht : P.underlying t = some (.slice e)) (hC : P.cellsOf e = m) (hm : 0 < m) (hf : ∀ x, (f x).length = m)
    (each : ∀ (n : Nat) (cs : List Value) (y : DataW H × List MemPlace), DataW.trod enc P w base spare held n e cs = some y → ∃ x, cs = f x ∧ ok x)
    (h : DataW.trod enc P w base spare held fuel t cs = some x) :
    ∃ (a : Option Addr) (l : List α) (cap : Nat), cs = [.slice a l.length cap] ∧ Sx w none f a l ∧ l.length ≤ cap ∧ l.length ≤ maxLen ∧ ∀ x ∈ l, ok x := by
  rcases open_slice ht h with h0 | ⟨a, len, cap, k, n, D, Pl, hcs, hb, hl, hcap, hk, hx, hi⟩
  · exact ⟨none, [], 0, h0.1, Sx.nil _ _ _ _, by simp, by simp, by simp⟩
  · have hlk : len ≤ k := by rw [hk]; split <;> omega
    have each' : ∀ i, i < len → ∃ x, ok x ∧ ∀ j, j < m → w.cell? (a.add (i * m + j)) = (f x)[j]? := by
      intro i hil
      obtain ⟨cs', hc, ht'⟩ := hi i (by omega)
      obtain ⟨x, rfl, hx⟩ := each _ _ _ ht'
      obtain ⟨_, hcl, hat⟩ := World.cells?_some hc
      rw [hC] at hat
      refine ⟨x, hx, fun j hj => ?_⟩
      rw [← Go.Deep.add_add]
      exact hat j hj
    cases len with
    | zero => exact ⟨some a, [], cap, hcs, Sx.nil _ _ _ _, by simp, by simp, by simp⟩
    | succ len =>
      obtain ⟨x0, hx0, -⟩ := each' 0 (by omega)
      let β := { x : α // ok x }
      letI : Inhabited β := ⟨⟨x0, hx0⟩⟩
      obtain ⟨g, hg⟩ := sla_of (w := w) (a := a) (len := len + 1) (cap := cap) (fun x : β => f x.1) hm (fun x => hf x.1) (fun i hi => let ⟨x, hx, hc⟩ := each' i hi; ⟨⟨x, hx⟩, hc⟩)
      have hs := Sx.of_sla (f := fun x : β => f x.1) (fun x => hf x.1) hm hg
      refine ⟨some a, ((List.range (len + 1)).map g).map Subtype.val, cap, by simpa using hcs, ⟨fun hl => ?_⟩, by simp; omega, by simp; omega, ?_⟩
      · obtain ⟨b, o, c, e', fr, pre, post, h1, h2, h3, h4, h5⟩ := hs.at_ (by simp [List.range_succ])
        exact ⟨b, o, c, e', fr, pre, post, h1, h2, h3, by rw [h4]; simp only [List.flatMap_map], h5⟩
      · intro x hx
        obtain ⟨y, -, rfl⟩ := List.mem_map.1 hx
        exact y.2
theorem open_things {α : Type} {b0 : Nat} {t e : TypeId} {v : Value} {d : DataW H} {p : List MemPlace} {m : Nat} (f : α → List Value) (ok : α → Prop) (ht : P.underlying t = some (.slice e)) (hC : P.cellsOf e = m) (hm : 0 < m) (hf : ∀ x, (f x).length = m)
    (each : ∀ (n : Nat) (cs : List Value) (y : DataW H × List MemPlace), DataW.trod enc P w base spare held n e cs = some y → ∃ x, cs = f x ∧ ok x)
    (hv : Value.okWide P w .any b0 t v) (h : DataW.Trod enc P w base spare held t v d p) :
    ∃ (a : Option Addr) (l : List α) (cap : Nat), v = .slice a l.length cap ∧ Sx w none f a l ∧ l.length ≤ cap ∧ l.length ≤ maxLen ∧ ∀ x ∈ l, ok x := by
  obtain ⟨fuel, h⟩ := h
  obtain ⟨a0, len0, cap0, rfl⟩ := okWide_slice ht hv
  obtain ⟨a, l, cap, h1, h2⟩ := open_things_at f ok ht hC hm hf each h
  simp only [Value.cells, List.cons.injEq, Value.slice.injEq, and_true] at h1
  obtain ⟨rfl, rfl, rfl⟩ := h1
  exact ⟨_, l, _, rfl, h2⟩
theorem trod_int_in {k : IntKind} {t : TypeId} {fuel : Nat} {cs : List Value} {x : DataW H × List MemPlace} (ht : P.underlying t = some (.int k)) (h : DataW.trod enc P w base spare held fuel t cs = some x) : ∃ n, cs = [.int k n] ∧ k.min ≤ n ∧ n ≤ k.max := by
  obtain ⟨n, h1, -, h3⟩ := DataW.trod_int ht h
  simp only [Lit.wf, Bool.and_eq_true, decide_eq_true_eq] at h3
  exact ⟨n, h1, h3⟩
theorem field_of {t : TypeId} {fuel : Nat} {cs : List Value} {x : DataW H × List MemPlace} {fs : Array Field} (ht : P.underlying t = some (.struct fs)) (h : DataW.trod enc P w base spare held fuel t cs = some x) (i : Nat) (f : Field) (hi : fs[i]? = some f) {ft off sz : Nat} (e1 : f.type = ft) (e2 : f.offset = off) (e3 : P.cellsOf ft = sz) :
    ∃ n y, DataW.trod enc P w base spare held n ft ((cs.drop off).take sz) = some y := by
  obtain ⟨ys, n, -, -, -, hl, hf⟩ := DataW.trod_struct ht h
  have := hf i f hi
  have hlt := (Array.getElem?_eq_some_iff.1 hi).1
  rw [List.getElem?_eq_getElem (by omega)] at this
  subst e1; subst e2; subst e3
  exact ⟨n, _, this⟩
theorem drop_step {l p : List Value} {o k : Nat} (h : (l.drop o).take k = p) : l.drop o = p ++ l.drop (o + k) := by
  rw [← h, ← List.drop_drop, List.take_append_drop]
theorem trod_arr {α : Type} {t e : TypeId} {n fuel : Nat} {cs : List Value} {x : DataW H × List MemPlace} (f : α → Value) (ok : α → Prop) (ht : P.underlying t = some (.array n e)) (hC : P.cellsOf e = 1) (hn : P.cellsOf t = n)
    (each : ∀ (n : Nat) (cs : List Value) (y : DataW H × List MemPlace), DataW.trod enc P w base spare held n e cs = some y → ∃ x, cs = [f x] ∧ ok x)
    (h : DataW.trod enc P w base spare held fuel t cs = some x) : ∃ l : List α, cs = l.map f ∧ l.length = n ∧ ∀ x ∈ l, ok x := by
  obtain ⟨xs, m, -, -, hl, hxl, hf⟩ := DataW.trod_array ht h
  rw [hn] at hl
  have hall : ∀ i, i < cs.length → ∃ x, cs[i]? = some (f x) ∧ ok x := by
    intro i hi
    have h1 := hf i (by omega)
    rw [hC, List.getElem?_eq_getElem (by omega)] at h1
    obtain ⟨x, hx, ho⟩ := each _ _ _ h1
    rw [Nat.mul_one, List.drop_eq_getElem_cons hi, List.take_succ_cons, List.take_zero, List.cons.injEq] at hx
    exact ⟨x, by rw [List.getElem?_eq_getElem hi, hx.1], ho⟩
  have key : ∀ cs : List Value, (∀ i, i < cs.length → ∃ x, cs[i]? = some (f x) ∧ ok x) → ∃ l : List α, cs = l.map f ∧ ∀ x ∈ l, ok x := by
    intro cs
    induction cs with
    | nil => intro _; exact ⟨[], rfl, by simp⟩
    | cons v cs ih =>
      intro h
      obtain ⟨x, hx, ho⟩ := h 0 (by simp)
      obtain ⟨l, hl, hlo⟩ := ih (fun i hi => by simpa using h (i + 1) (by simp; omega))
      simp at hx
      refine ⟨x :: l, by simp [hx, hl], ?_⟩
      intro y hy
      rcases List.mem_cons.1 hy with rfl | hy
      · exact ho
      · exact hlo y hy
  obtain ⟨l, h1, h2⟩ := key cs hall
  exact ⟨l, h1, by rw [← hl, h1, List.length_map], h2⟩
end
end Lyc
namespace Lyc
open Go
def DrewW (M : World → Prop) (w : WK M) : Prop := M w.drew
@[go_sem] theorem DrewW_go (M : World → Prop) (w : World) : DrewW M w = M w.drew := rfl
theorem calls_of_def {P : Program} {f : FuncId} {fn : Func} {K : Value → World → Prop} {w : World} (args : List Value) (hs : Hints) (hm : P.follows .mixedOrders = true) (hf : P.funcs[f]? = some fn)
    (hb : fn.body.isSome = true) (hN : (wfc fn.ntmps (fn.body.getD .skip) && Nat.ble fn.ntmps DK) = true) (ha : Nat.ble args.length fn.ntmps = true) {X : Prop} (hX : X = tr P true hs (fn.body.getD .skip) 0 (retQ P fn.results.toList K) (enterD args) w) (h : X) :
    Calls P f args.toArray w (retK K) := by
  cases hc : fn.body with
  | none => rw [hc] at hb; simp at hb
  | some c =>
    have e : fn.body.getD .skip = c := by rw [hc]; rfl
    rw [e] at hN hX
    simp only [Bool.and_eq_true] at hN
    exact calls_of_tr hm hf hc hN.1 (Nat.le_of_ble_eq_true hN.2) (Nat.le_of_ble_eq_true ha) (hX ▸ h)
end Lyc
namespace Go.Proofs.YtjfembffjjijaaaGreat
open Lyc Go
theorem mixed : Tryz.prog.follows .mixedOrders = true := by kernel_rfl
@[go_sem] def xL (t : TypeId) (a : Value) (k : Value → World → Prop) (w : WK k) : Prop := OpX Tryz.prog (.load t (.const a)) t k w
@[go_sem] def xS (t : TypeId) (a b : Value) (r : World → Prop) (w : WK r) : Prop := OpX Tryz.prog (.store t (.const a) (.const b)) 0 (fun _ => r) w
@[go_sem] def xF (t : TypeId) (a : Value) (i : Nat) (k : Value → World → Prop) (w : WK k) : Prop := OpX Tryz.prog (.fieldAddr t (.const a) i) 0 k w
@[go_sem] def xI (t : TypeId) (a b : Value) (k : Value → World → Prop) (w : WK k) : Prop := OpX Tryz.prog (.indexAddr t (.const a) (.const b)) 0 k w
@[go_sem] def xB (t : TypeId) (a : Value) (k : Value → World → Prop) (w : WK k) : Prop := OpX Tryz.prog (.box t (.const a)) 0 k w
@[go_sem] def xA (t : TypeId) (k : Value → World → Prop) (w : WK k) : Prop := OpX Tryz.prog (.alloc t) 0 k w
@[go_sem] def xE (a : Value) (i : Nat) (t : TypeId) (k : Value → World → Prop) (w : WK k) : Prop := OpX Tryz.prog (.extract (.const a) i) t k w
@[go_sem] def xN (t : TypeId) (a : Value) (k : Value → World → Prop) (w : WK k) : Prop := OpX Tryz.prog (.unOp .not t (.const a)) t k w
@[go_sem] def xC (f : FuncId) (l : List Operand) (ts : List TypeId) (t : TypeId) (k : Value → World → Prop) (w : WK k) : Prop := OpX Tryz.prog (.call { callee := .value (.func f), args := l.toArray, argTypes := ts.toArray }) t k w
@[go_sem] def xU (a : Value) (t : TypeId) (k : Value → World → Prop) (w : WK k) : Prop := OpX Tryz.prog (.call { callee := .builtin .len, args := #[.const a], argTypes := #[t] }) 3 k w
@[go_sem] def xO (op : BinOp) (t : TypeId) (a b : Value) (k : Value → World → Prop) (w : WK k) : Prop := BinX Tryz.prog op t a b k w
@[go_sem] def xW (v : Value) (A B : World → Prop) (w : WK2 A B) : Prop := BrW v (A w) (B w) ()
@[go_sem] def xX (_ : World) : Prop := False
@[go_sem] def qP (op : BinOp) (t : TypeId) (a b : Value) (k : Value → World → Prop) (w : WK k) : Prop := PurB Tryz.prog op t a b (fun v => k v w) ()
@[go_sem] def qR (op : BinOp) (t : TypeId) (a b : Value) (k : Value → World → Prop) (w : WK k) : Prop := RdB Tryz.prog op t a b (fun v => k v w) w
@[go_sem] def qY (op : BinOp) (t : TypeId) (a b v : Value) (w : World) : Prop := YldB Tryz.prog op t a b v w
@[go_sem] def qL (t : TypeId) (a : Value) (k : Value → World → Prop) (w : WK k) : Prop := RdX Tryz.prog (.load t (.const a)) t (fun v => k v w) w
@[go_sem] def qZ (t : TypeId) (a v : Value) (w : World) : Prop := Yld Tryz.prog (.load t (.const a)) t v w
@[go_sem] def qF (t : TypeId) (a : Value) (i : Nat) (k : Value → World → Prop) (w : WK k) : Prop := PurX Tryz.prog (.fieldAddr t (.const a) i) 0 (fun v => k v w) ()
@[go_sem] def xP (op : Op) (t : TypeId) (k : Value → World → Prop) (w : WK k) : Prop := PurX Tryz.prog op t (fun v => k v w) ()
@[go_sem] def xR (op : Op) (t : TypeId) (k : Value → World → Prop) (w : WK k) : Prop := RdX Tryz.prog op t (fun v => k v w) w
@[go_sem] def xY (op : Op) (t : TypeId) (v : Value) (w : World) : Prop := Yld Tryz.prog op t v w
@[go_sem] def xT (A B : World → Prop) (w : WK2 A B) : Prop := A w ∧ B w
@[go_sem] def xD (t : TypeId) (a : Value) (k : Value → World → Prop) (w : WK k) : Prop := LdR Tryz.prog t a k w
abbrev Lk (n : FuncId) (args : Array Value) (f : (Value → World → Prop) → World → Prop) : Prop :=
  ∀ {R : Value → World → Prop} {w : World}, (∀ K : Value → World → Prop, (∀ v w', R v w' → K v w') → f K w) → Calls Tryz.prog n args w (retK R)
theorem lk {n : FuncId} {fn : Func} {f : (Value → World → Prop) → World → Prop} (args : List Value) (hs : Hints) (hf : Tryz.prog.funcs[n]? = some fn)
    (hb : (fn.body.isSome && (wfc fn.ntmps (fn.body.getD .skip) && Nat.ble fn.ntmps DK) && Nat.ble args.length fn.ntmps) = true)
    (hX : ∀ (K : Value → World → Prop) (w : World), f K w = tr Tryz.prog true hs (fn.body.getD .skip) 0 (retQ Tryz.prog fn.results.toList K) (enterD args) w) : Lk n args.toArray f := by
  intro R w h
  rw [Bool.and_eq_true, Bool.and_eq_true] at hb
  exact calls_of_def args hs mixed hf hb.1.1 hb.1.2 hb.2 (hX R w) (h R fun _ _ h => h)
theorem bd {n : FuncId} {fn : Func} (hf : Tryz.prog.funcs[n]? = some fn) (hb : (fn.body.isNone || fn.name == "runtime.NumGoroutine") = false) : Bodied Tryz.prog n := by
  rw [Bool.or_eq_false_iff] at hb
  exact ⟨fn, hf, hb.1, hb.2⟩
end Go.Proofs.YtjfembffjjijaaaGreat
namespace Lyc
open Go
section
variable {P : Program}
def tflatF (P : Program) : List Field → Option (List (Nat × Nat))
  | [] => some []
  | f :: fs => if f.name = "_" then none else (tkind P f.type).bind fun k => (tagg P f.type).bind fun b => bif b then none else if k = 8 ∨ k = 9 ∨ k = 3 then (tflatF P fs).map ((f.offset, k) :: ·) else none
def tflat (P : Program) (t : TypeId) : Option (List (Nat × Nat)) :=
  (P.underlying t).bind fun | .struct fs => if P.stoodInHeld t || P.eqGuardType P.depth t then none else tflatF P fs.toList | _ => none
end
end Lyc
namespace Go.Proofs.YtjfembffjjijaaaGreat
open Lyc Go
set_option maxRecDepth 100000
@[go_sem] theorem ty0z : tzero Tryz.prog 0 = some (.tuple #[]) := by kernel_rfl
@[go_sem] theorem ty0 : tkind Tryz.prog 0 = some 0 ∧ tsize Tryz.prog 0 = some 1 ∧ tbytes Tryz.prog 0 = some 0 ∧ tagg Tryz.prog 0 = some false := by and_intros <;> kernel_rfl
@[go_sem] theorem ty1z : tzero Tryz.prog 1 = some (.nilFunc) := by kernel_rfl
@[go_sem] theorem ty1 : tkind Tryz.prog 1 = some 11 ∧ tsize Tryz.prog 1 = some 1 ∧ tbytes Tryz.prog 1 = some 8 ∧ tagg Tryz.prog 1 = some false := by and_intros <;> kernel_rfl
@[go_sem] theorem ty2z : tzero Tryz.prog 2 = some (.int .i64 0) := by kernel_rfl
@[go_sem] theorem ty2 : tkind Tryz.prog 2 = some 8 ∧ tsize Tryz.prog 2 = some 1 ∧ tbytes Tryz.prog 2 = some 8 ∧ tagg Tryz.prog 2 = some false ∧ tint Tryz.prog 2 = some .i64 := by and_intros <;> kernel_rfl
@[go_sem] theorem ty3z : tzero Tryz.prog 3 = some (.int .i64 0) := by kernel_rfl
@[go_sem] theorem ty3 : tkind Tryz.prog 3 = some 8 ∧ tsize Tryz.prog 3 = some 1 ∧ tbytes Tryz.prog 3 = some 8 ∧ tagg Tryz.prog 3 = some false ∧ tint Tryz.prog 3 = some .i64 := by and_intros <;> kernel_rfl
@[go_sem] theorem ty4z : tzero Tryz.prog 4 = some (.bool false) := by kernel_rfl
@[go_sem] theorem ty4 : tkind Tryz.prog 4 = some 9 ∧ tsize Tryz.prog 4 = some 1 ∧ tbytes Tryz.prog 4 = some 1 ∧ tagg Tryz.prog 4 = some false := by and_intros <;> kernel_rfl
@[go_sem] theorem ty5z : tzero Tryz.prog 5 = some (.int .u8 0) := by kernel_rfl
@[go_sem] theorem ty5 : tkind Tryz.prog 5 = some 8 ∧ tsize Tryz.prog 5 = some 1 ∧ tbytes Tryz.prog 5 = some 1 ∧ tagg Tryz.prog 5 = some false ∧ tint Tryz.prog 5 = some .u8 := by and_intros <;> kernel_rfl
@[go_sem] theorem ty6z : tzero Tryz.prog 6 = some (.int .u8 0) := by kernel_rfl
@[go_sem] theorem ty6 : tkind Tryz.prog 6 = some 8 ∧ tsize Tryz.prog 6 = some 1 ∧ tbytes Tryz.prog 6 = some 1 ∧ tagg Tryz.prog 6 = some false ∧ tint Tryz.prog 6 = some .u8 := by and_intros <;> kernel_rfl
@[go_sem] theorem ty7z : tzero Tryz.prog 7 = some (.agg #[.int .i64 0, .int .i64 0, .bool false, .int .u8 0]) := by kernel_rfl
@[go_sem] theorem ty7 : tkind Tryz.prog 7 = some 7 ∧ tsize Tryz.prog 7 = some 4 ∧ tbytes Tryz.prog 7 = some 24 ∧ tagg Tryz.prog 7 = some true ∧ tsizeA Tryz.prog 7 = some 4 ∧ tfield Tryz.prog 7 0 = some (0, 1) ∧ tfo Tryz.prog 7 0 = some 0 ∧ tfield Tryz.prog 7 1 = some (1, 1) ∧ tfo Tryz.prog 7 1 = some 1 ∧ tfield Tryz.prog 7 2 = some (2, 1) ∧ tfo Tryz.prog 7 2 = some 2 ∧ tfield Tryz.prog 7 3 = some (3, 1) ∧ tfo Tryz.prog 7 3 = some 3 ∧ tfields Tryz.prog 7 = some [(0, 1), (1, 1), (2, 1), (3, 1)] := by and_intros <;> kernel_rfl
@[go_sem] theorem ty8z : tzero Tryz.prog 8 = some (.agg #[.int .i64 0, .int .i64 0, .bool false, .int .u8 0]) := by kernel_rfl
@[go_sem] theorem ty8 : tkind Tryz.prog 8 = some 7 ∧ tsize Tryz.prog 8 = some 4 ∧ tbytes Tryz.prog 8 = some 24 ∧ tagg Tryz.prog 8 = some true ∧ tsizeA Tryz.prog 8 = some 4 ∧ tfield Tryz.prog 8 0 = some (0, 1) ∧ tfo Tryz.prog 8 0 = some 0 ∧ tfield Tryz.prog 8 1 = some (1, 1) ∧ tfo Tryz.prog 8 1 = some 1 ∧ tfield Tryz.prog 8 2 = some (2, 1) ∧ tfo Tryz.prog 8 2 = some 2 ∧ tfield Tryz.prog 8 3 = some (3, 1) ∧ tfo Tryz.prog 8 3 = some 3 ∧ tfields Tryz.prog 8 = some [(0, 1), (1, 1), (2, 1), (3, 1)] := by and_intros <;> kernel_rfl
@[go_sem] theorem ty9z : tzero Tryz.prog 9 = some (.string ⟨#[]⟩) := by kernel_rfl
@[go_sem] theorem ty9 : tkind Tryz.prog 9 = some 3 ∧ tsize Tryz.prog 9 = some 1 ∧ tbytes Tryz.prog 9 = some 16 ∧ tagg Tryz.prog 9 = some false := by and_intros <;> kernel_rfl
@[go_sem] theorem ty10z : tzero Tryz.prog 10 = some (.string ⟨#[]⟩) := by kernel_rfl
@[go_sem] theorem ty10 : tkind Tryz.prog 10 = some 3 ∧ tsize Tryz.prog 10 = some 1 ∧ tbytes Tryz.prog 10 = some 16 ∧ tagg Tryz.prog 10 = some false := by and_intros <;> kernel_rfl
@[go_sem] theorem ty11z : tzero Tryz.prog 11 = some (.string ⟨#[]⟩) := by kernel_rfl
@[go_sem] theorem ty11 : tkind Tryz.prog 11 = some 3 ∧ tsize Tryz.prog 11 = some 1 ∧ tbytes Tryz.prog 11 = some 16 ∧ tagg Tryz.prog 11 = some false := by and_intros <;> kernel_rfl
@[go_sem] theorem ty12z : tzero Tryz.prog 12 = some (.int .u64 0) := by kernel_rfl
@[go_sem] theorem ty12 : tkind Tryz.prog 12 = some 8 ∧ tsize Tryz.prog 12 = some 1 ∧ tbytes Tryz.prog 12 = some 8 ∧ tagg Tryz.prog 12 = some false ∧ tint Tryz.prog 12 = some .u64 := by and_intros <;> kernel_rfl
@[go_sem] theorem ty13z : tzero Tryz.prog 13 = some (.agg #[.string ⟨#[]⟩, .int .u64 0]) := by kernel_rfl
@[go_sem] theorem ty13 : tkind Tryz.prog 13 = some 7 ∧ tsize Tryz.prog 13 = some 2 ∧ tbytes Tryz.prog 13 = some 24 ∧ tagg Tryz.prog 13 = some true ∧ tsizeA Tryz.prog 13 = some 2 ∧ tfield Tryz.prog 13 0 = some (0, 1) ∧ tfo Tryz.prog 13 0 = some 0 ∧ tfield Tryz.prog 13 1 = some (1, 1) ∧ tfo Tryz.prog 13 1 = some 1 ∧ tfields Tryz.prog 13 = some [(0, 1), (1, 1)] := by and_intros <;> kernel_rfl
@[go_sem] theorem ty14z : tzero Tryz.prog 14 = some (.agg #[.string ⟨#[]⟩, .int .u64 0]) := by kernel_rfl
@[go_sem] theorem ty14 : tkind Tryz.prog 14 = some 7 ∧ tsize Tryz.prog 14 = some 2 ∧ tbytes Tryz.prog 14 = some 24 ∧ tagg Tryz.prog 14 = some true ∧ tsizeA Tryz.prog 14 = some 2 ∧ tfield Tryz.prog 14 0 = some (0, 1) ∧ tfo Tryz.prog 14 0 = some 0 ∧ tfield Tryz.prog 14 1 = some (1, 1) ∧ tfo Tryz.prog 14 1 = some 1 ∧ tfields Tryz.prog 14 = some [(0, 1), (1, 1)] := by and_intros <;> kernel_rfl
@[go_sem] theorem ty15z : tzero Tryz.prog 15 = some (.pointer none) := by kernel_rfl
@[go_sem] theorem ty15 : tkind Tryz.prog 15 = some 4 ∧ tsize Tryz.prog 15 = some 1 ∧ tbytes Tryz.prog 15 = some 8 ∧ tagg Tryz.prog 15 = some false ∧ telem Tryz.prog 15 = some 182 := by and_intros <;> kernel_rfl
@[go_sem] theorem ty16z : tzero Tryz.prog 16 = some (.pointer none) := by kernel_rfl
@[go_sem] theorem ty16 : tkind Tryz.prog 16 = some 4 ∧ tsize Tryz.prog 16 = some 1 ∧ tbytes Tryz.prog 16 = some 8 ∧ tagg Tryz.prog 16 = some false ∧ telem Tryz.prog 16 = some 185 := by and_intros <;> kernel_rfl
@[go_sem] theorem ty17z : tzero Tryz.prog 17 = some (.pointer none) := by kernel_rfl
@[go_sem] theorem ty17 : tkind Tryz.prog 17 = some 4 ∧ tsize Tryz.prog 17 = some 1 ∧ tbytes Tryz.prog 17 = some 8 ∧ tagg Tryz.prog 17 = some false ∧ telem Tryz.prog 17 = some 192 := by and_intros <;> kernel_rfl
@[go_sem] theorem ty18z : tzero Tryz.prog 18 = some (.agg #[.pointer none]) := by kernel_rfl
@[go_sem] theorem ty18 : tkind Tryz.prog 18 = some 7 ∧ tsize Tryz.prog 18 = some 1 ∧ tbytes Tryz.prog 18 = some 8 ∧ tagg Tryz.prog 18 = some true ∧ tsizeA Tryz.prog 18 = some 1 ∧ tfield Tryz.prog 18 0 = some (0, 1) ∧ tfo Tryz.prog 18 0 = some 0 ∧ tfields Tryz.prog 18 = some [(0, 1)] := by and_intros <;> kernel_rfl
@[go_sem] theorem ty19z : tzero Tryz.prog 19 = some (.agg #[.pointer none]) := by kernel_rfl
@[go_sem] theorem ty19 : tkind Tryz.prog 19 = some 7 ∧ tsize Tryz.prog 19 = some 1 ∧ tbytes Tryz.prog 19 = some 8 ∧ tagg Tryz.prog 19 = some true ∧ tsizeA Tryz.prog 19 = some 1 ∧ tfield Tryz.prog 19 0 = some (0, 1) ∧ tfo Tryz.prog 19 0 = some 0 ∧ tfields Tryz.prog 19 = some [(0, 1)] := by and_intros <;> kernel_rfl
@[go_sem] theorem ty20z : tzero Tryz.prog 20 = some (.nilIface) := by kernel_rfl
@[go_sem] theorem ty20 : tkind Tryz.prog 20 = some 10 ∧ tsize Tryz.prog 20 = some 1 ∧ tbytes Tryz.prog 20 = some 16 ∧ tagg Tryz.prog 20 = some false := by and_intros <;> kernel_rfl
@[go_sem] theorem ty21z : tzero Tryz.prog 21 = some (.int .i32 0) := by kernel_rfl
@[go_sem] theorem ty21 : tkind Tryz.prog 21 = some 8 ∧ tsize Tryz.prog 21 = some 1 ∧ tbytes Tryz.prog 21 = some 4 ∧ tagg Tryz.prog 21 = some false ∧ tint Tryz.prog 21 = some .i32 := by and_intros <;> kernel_rfl
@[go_sem] theorem ty22z : tzero Tryz.prog 22 = some (.agg #[.int .i64 0, .int .i64 0]) := by kernel_rfl
@[go_sem] theorem ty22 : tkind Tryz.prog 22 = some 7 ∧ tsize Tryz.prog 22 = some 2 ∧ tbytes Tryz.prog 22 = some 16 ∧ tagg Tryz.prog 22 = some true ∧ tsizeA Tryz.prog 22 = some 2 ∧ tfield Tryz.prog 22 0 = some (0, 1) ∧ tfo Tryz.prog 22 0 = some 0 ∧ tfield Tryz.prog 22 1 = some (1, 1) ∧ tfo Tryz.prog 22 1 = some 1 ∧ tfields Tryz.prog 22 = some [(0, 1), (1, 1)] := by and_intros <;> kernel_rfl
@[go_sem] theorem ty23z : tzero Tryz.prog 23 = some (.agg #[.int .i64 0, .int .i64 0]) := by kernel_rfl
@[go_sem] theorem ty23 : tkind Tryz.prog 23 = some 7 ∧ tsize Tryz.prog 23 = some 2 ∧ tbytes Tryz.prog 23 = some 16 ∧ tagg Tryz.prog 23 = some true ∧ tflat Tryz.prog 23 = some [(0, 8), (1, 8)] ∧ tsizeA Tryz.prog 23 = some 2 ∧ tfield Tryz.prog 23 0 = some (0, 1) ∧ tfo Tryz.prog 23 0 = some 0 ∧ tfield Tryz.prog 23 1 = some (1, 1) ∧ tfo Tryz.prog 23 1 = some 1 ∧ tfields Tryz.prog 23 = some [(0, 1), (1, 1)] := by and_intros <;> kernel_rfl
@[go_sem] theorem ty24z : tzero Tryz.prog 24 = some (.slice none 0 0) := by kernel_rfl
@[go_sem] theorem ty24sl : tslice Tryz.prog 24 = some 1 := by kernel_rfl
@[go_sem] theorem ty24ap : tapp Tryz.prog 24 = some (21, 1, 4) := by kernel_rfl
@[go_sem] theorem ty24mk : tmk Tryz.prog 24 = some (21, 1, [.int .i32 0], 4) := by kernel_rfl
@[go_sem] theorem ty24 : tkind Tryz.prog 24 = some 1 ∧ tsize Tryz.prog 24 = some 1 ∧ tbytes Tryz.prog 24 = some 24 ∧ tagg Tryz.prog 24 = some false ∧ tbs Tryz.prog 24 = some (21, 1, [.int .i32 0]) ∧ telem Tryz.prog 24 = some 21 := by and_intros <;> kernel_rfl
@[go_sem] theorem ty25z : tzero Tryz.prog 25 = some (.slice none 0 0) := by kernel_rfl
@[go_sem] theorem ty25sl : tslice Tryz.prog 25 = some 13 := by kernel_rfl
@[go_sem] theorem ty25ap : tapp Tryz.prog 25 = some (34, 13, 88) := by kernel_rfl
@[go_sem] theorem ty25mk : tmk Tryz.prog 25 = some (34, 13, [.int .i64 0, .int .i32 0, .int .u8 0, .int .u8 0, .int .i64 0, .int .i64 0, .int .i64 0, .int .i64 0, .int .i64 0, .int .i64 0, .int .i64 0, .int .i64 0, .int .i64 0], 88) := by kernel_rfl
@[go_sem] theorem ty25 : tkind Tryz.prog 25 = some 1 ∧ tsize Tryz.prog 25 = some 1 ∧ tbytes Tryz.prog 25 = some 24 ∧ tagg Tryz.prog 25 = some false ∧ tbs Tryz.prog 25 = some (34, 13, [.int .i64 0, .int .i32 0, .int .u8 0, .int .u8 0, .int .i64 0, .int .i64 0, .int .i64 0, .int .i64 0, .int .i64 0, .int .i64 0, .int .i64 0, .int .i64 0, .int .i64 0]) ∧ telem Tryz.prog 25 = some 34 := by and_intros <;> kernel_rfl
@[go_sem] theorem ty26z : tzero Tryz.prog 26 = some (.nilFunc) := by kernel_rfl
@[go_sem] theorem ty26 : tkind Tryz.prog 26 = some 11 ∧ tsize Tryz.prog 26 = some 1 ∧ tbytes Tryz.prog 26 = some 8 ∧ tagg Tryz.prog 26 = some false := by and_intros <;> kernel_rfl
@[go_sem] theorem ty27z : tzero Tryz.prog 27 = some (.tuple #[.int .i64 0, .int .i64 0]) := by kernel_rfl
@[go_sem] theorem ty27 : tkind Tryz.prog 27 = some 0 ∧ tsize Tryz.prog 27 = some 1 ∧ tbytes Tryz.prog 27 = some 0 ∧ tagg Tryz.prog 27 = some false := by and_intros <;> kernel_rfl
@[go_sem] theorem ty28z : tzero Tryz.prog 28 = some (.nilFunc) := by kernel_rfl
@[go_sem] theorem ty28 : tkind Tryz.prog 28 = some 11 ∧ tsize Tryz.prog 28 = some 1 ∧ tbytes Tryz.prog 28 = some 8 ∧ tagg Tryz.prog 28 = some false := by and_intros <;> kernel_rfl
@[go_sem] theorem ty29z : tzero Tryz.prog 29 = some (.pointer none) := by kernel_rfl
@[go_sem] theorem ty29 : tkind Tryz.prog 29 = some 4 ∧ tsize Tryz.prog 29 = some 1 ∧ tbytes Tryz.prog 29 = some 8 ∧ tagg Tryz.prog 29 = some false ∧ telem Tryz.prog 29 = some 76 := by and_intros <;> kernel_rfl
@[go_sem] theorem ty30z : tzero Tryz.prog 30 = some (.nilFunc) := by kernel_rfl
@[go_sem] theorem ty30 : tkind Tryz.prog 30 = some 11 ∧ tsize Tryz.prog 30 = some 1 ∧ tbytes Tryz.prog 30 = some 8 ∧ tagg Tryz.prog 30 = some false := by and_intros <;> kernel_rfl
@[go_sem] theorem ty31z : tzero Tryz.prog 31 = some (.nilFunc) := by kernel_rfl
@[go_sem] theorem ty31 : tkind Tryz.prog 31 = some 11 ∧ tsize Tryz.prog 31 = some 1 ∧ tbytes Tryz.prog 31 = some 8 ∧ tagg Tryz.prog 31 = some false := by and_intros <;> kernel_rfl
@[go_sem] theorem ty32z : tzero Tryz.prog 32 = some (.agg #[.int .i64 0, .int .i64 0, .int .i64 0, .int .i64 0, .int .i64 0, .int .i64 0, .int .i64 0, .int .i64 0]) := by kernel_rfl
@[go_sem] theorem ty32 : tkind Tryz.prog 32 = some 2 ∧ tsize Tryz.prog 32 = some 8 ∧ tbytes Tryz.prog 32 = some 64 ∧ tagg Tryz.prog 32 = some true ∧ tarr Tryz.prog 32 = some (8, 1) ∧ tsizeA Tryz.prog 32 = some 8 ∧ telem Tryz.prog 32 = some 3 ∧ tlen Tryz.prog 32 = some 8 := by and_intros <;> kernel_rfl
@[go_sem] theorem ty33z : tzero Tryz.prog 33 = some (.agg #[.int .i64 0, .int .i32 0, .int .u8 0, .int .u8 0, .int .i64 0, .int .i64 0, .int .i64 0, .int .i64 0, .int .i64 0, .int .i64 0, .int .i64 0, .int .i64 0, .int .i64 0]) := by kernel_rfl
@[go_sem] theorem ty33 : tkind Tryz.prog 33 = some 7 ∧ tsize Tryz.prog 33 = some 13 ∧ tbytes Tryz.prog 33 = some 88 ∧ tagg Tryz.prog 33 = some true ∧ tsizeA Tryz.prog 33 = some 13 ∧ tfield Tryz.prog 33 0 = some (0, 1) ∧ tfo Tryz.prog 33 0 = some 0 ∧ tfield Tryz.prog 33 1 = some (1, 1) ∧ tfo Tryz.prog 33 1 = some 1 ∧ tfield Tryz.prog 33 2 = some (2, 1) ∧ tfo Tryz.prog 33 2 = some 2 ∧ tfield Tryz.prog 33 3 = some (3, 1) ∧ tfo Tryz.prog 33 3 = some 3 ∧ tfield Tryz.prog 33 4 = some (4, 1) ∧ tfo Tryz.prog 33 4 = some 4 ∧ tfield Tryz.prog 33 5 = some (5, 8) ∧ tfo Tryz.prog 33 5 = some 5 ∧ tfields Tryz.prog 33 = some [(0, 1), (1, 1), (2, 1), (3, 1), (4, 1), (5, 8)] := by and_intros <;> kernel_rfl
@[go_sem] theorem ty34z : tzero Tryz.prog 34 = some (.agg #[.int .i64 0, .int .i32 0, .int .u8 0, .int .u8 0, .int .i64 0, .int .i64 0, .int .i64 0, .int .i64 0, .int .i64 0, .int .i64 0, .int .i64 0, .int .i64 0, .int .i64 0]) := by kernel_rfl
@[go_sem] theorem ty34 : tkind Tryz.prog 34 = some 7 ∧ tsize Tryz.prog 34 = some 13 ∧ tbytes Tryz.prog 34 = some 88 ∧ tagg Tryz.prog 34 = some true ∧ tsizeA Tryz.prog 34 = some 13 ∧ tfield Tryz.prog 34 0 = some (0, 1) ∧ tfo Tryz.prog 34 0 = some 0 ∧ tfield Tryz.prog 34 1 = some (1, 1) ∧ tfo Tryz.prog 34 1 = some 1 ∧ tfield Tryz.prog 34 2 = some (2, 1) ∧ tfo Tryz.prog 34 2 = some 2 ∧ tfield Tryz.prog 34 3 = some (3, 1) ∧ tfo Tryz.prog 34 3 = some 3 ∧ tfield Tryz.prog 34 4 = some (4, 1) ∧ tfo Tryz.prog 34 4 = some 4 ∧ tfield Tryz.prog 34 5 = some (5, 8) ∧ tfo Tryz.prog 34 5 = some 5 ∧ tfields Tryz.prog 34 = some [(0, 1), (1, 1), (2, 1), (3, 1), (4, 1), (5, 8)] := by and_intros <;> kernel_rfl
@[go_sem] theorem ty35z : tzero Tryz.prog 35 = some (.nilFunc) := by kernel_rfl
@[go_sem] theorem ty35 : tkind Tryz.prog 35 = some 11 ∧ tsize Tryz.prog 35 = some 1 ∧ tbytes Tryz.prog 35 = some 8 ∧ tagg Tryz.prog 35 = some false := by and_intros <;> kernel_rfl
@[go_sem] theorem ty36z : tzero Tryz.prog 36 = some (.slice none 0 0) := by kernel_rfl
@[go_sem] theorem ty36sl : tslice Tryz.prog 36 = some 4 := by kernel_rfl
@[go_sem] theorem ty36ap : tapp Tryz.prog 36 = some (70, 4, 8) := by kernel_rfl
@[go_sem] theorem ty36mk : tmk Tryz.prog 36 = some (70, 4, [.int .i32 0, .int .u8 0, .int .u8 0, .int .u8 0], 8) := by kernel_rfl
@[go_sem] theorem ty36 : tkind Tryz.prog 36 = some 1 ∧ tsize Tryz.prog 36 = some 1 ∧ tbytes Tryz.prog 36 = some 24 ∧ tagg Tryz.prog 36 = some false ∧ tbs Tryz.prog 36 = some (70, 4, [.int .i32 0, .int .u8 0, .int .u8 0, .int .u8 0]) ∧ telem Tryz.prog 36 = some 70 := by and_intros <;> kernel_rfl
@[go_sem] theorem ty37z : tzero Tryz.prog 37 = some (.agg #[.int .i64 0, .int .i64 0, .slice none 0 0]) := by kernel_rfl
@[go_sem] theorem ty37 : tkind Tryz.prog 37 = some 7 ∧ tsize Tryz.prog 37 = some 3 ∧ tbytes Tryz.prog 37 = some 40 ∧ tagg Tryz.prog 37 = some true ∧ tsizeA Tryz.prog 37 = some 3 ∧ tfield Tryz.prog 37 0 = some (0, 1) ∧ tfo Tryz.prog 37 0 = some 0 ∧ tfield Tryz.prog 37 1 = some (1, 1) ∧ tfo Tryz.prog 37 1 = some 1 ∧ tfield Tryz.prog 37 2 = some (2, 1) ∧ tfo Tryz.prog 37 2 = some 2 ∧ tfields Tryz.prog 37 = some [(0, 1), (1, 1), (2, 1)] := by and_intros <;> kernel_rfl
@[go_sem] theorem ty38z : tzero Tryz.prog 38 = some (.agg #[.int .i64 0, .int .i64 0, .slice none 0 0]) := by kernel_rfl
@[go_sem] theorem ty38 : tkind Tryz.prog 38 = some 7 ∧ tsize Tryz.prog 38 = some 3 ∧ tbytes Tryz.prog 38 = some 40 ∧ tagg Tryz.prog 38 = some true ∧ tsizeA Tryz.prog 38 = some 3 ∧ tfield Tryz.prog 38 0 = some (0, 1) ∧ tfo Tryz.prog 38 0 = some 0 ∧ tfield Tryz.prog 38 1 = some (1, 1) ∧ tfo Tryz.prog 38 1 = some 1 ∧ tfield Tryz.prog 38 2 = some (2, 1) ∧ tfo Tryz.prog 38 2 = some 2 ∧ tfields Tryz.prog 38 = some [(0, 1), (1, 1), (2, 1)] := by and_intros <;> kernel_rfl
@[go_sem] theorem ty39z : tzero Tryz.prog 39 = some (.nilFunc) := by kernel_rfl
@[go_sem] theorem ty39 : tkind Tryz.prog 39 = some 11 ∧ tsize Tryz.prog 39 = some 1 ∧ tbytes Tryz.prog 39 = some 8 ∧ tagg Tryz.prog 39 = some false := by and_intros <;> kernel_rfl
@[go_sem] theorem ty40z : tzero Tryz.prog 40 = some (.tuple #[.int .i64 0, .int .i64 0, .bool false]) := by kernel_rfl
@[go_sem] theorem ty40 : tkind Tryz.prog 40 = some 0 ∧ tsize Tryz.prog 40 = some 1 ∧ tbytes Tryz.prog 40 = some 0 ∧ tagg Tryz.prog 40 = some false := by and_intros <;> kernel_rfl
@[go_sem] theorem ty41z : tzero Tryz.prog 41 = some (.nilFunc) := by kernel_rfl
@[go_sem] theorem ty41 : tkind Tryz.prog 41 = some 11 ∧ tsize Tryz.prog 41 = some 1 ∧ tbytes Tryz.prog 41 = some 8 ∧ tagg Tryz.prog 41 = some false := by and_intros <;> kernel_rfl
@[go_sem] theorem ty42z : tzero Tryz.prog 42 = some (.nilFunc) := by kernel_rfl
@[go_sem] theorem ty42 : tkind Tryz.prog 42 = some 11 ∧ tsize Tryz.prog 42 = some 1 ∧ tbytes Tryz.prog 42 = some 8 ∧ tagg Tryz.prog 42 = some false := by and_intros <;> kernel_rfl
@[go_sem] theorem ty43z : tzero Tryz.prog 43 = some (.slice none 0 0) := by kernel_rfl
@[go_sem] theorem ty43sl : tslice Tryz.prog 43 = some 1 := by kernel_rfl
@[go_sem] theorem ty43ap : tapp Tryz.prog 43 = some (36, 1, 24) := by kernel_rfl
@[go_sem] theorem ty43mk : tmk Tryz.prog 43 = some (36, 1, [.slice none 0 0], 24) := by kernel_rfl
@[go_sem] theorem ty43 : tkind Tryz.prog 43 = some 1 ∧ tsize Tryz.prog 43 = some 1 ∧ tbytes Tryz.prog 43 = some 24 ∧ tagg Tryz.prog 43 = some false ∧ tbs Tryz.prog 43 = some (36, 1, [.slice none 0 0]) ∧ telem Tryz.prog 43 = some 36 := by and_intros <;> kernel_rfl
@[go_sem] theorem ty44z : tzero Tryz.prog 44 = some (.nilFunc) := by kernel_rfl
@[go_sem] theorem ty44 : tkind Tryz.prog 44 = some 11 ∧ tsize Tryz.prog 44 = some 1 ∧ tbytes Tryz.prog 44 = some 8 ∧ tagg Tryz.prog 44 = some false := by and_intros <;> kernel_rfl
@[go_sem] theorem ty45z : tzero Tryz.prog 45 = some (.nilFunc) := by kernel_rfl
@[go_sem] theorem ty45 : tkind Tryz.prog 45 = some 11 ∧ tsize Tryz.prog 45 = some 1 ∧ tbytes Tryz.prog 45 = some 8 ∧ tagg Tryz.prog 45 = some false := by and_intros <;> kernel_rfl
@[go_sem] theorem ty46z : tzero Tryz.prog 46 = some (.nilFunc) := by kernel_rfl
@[go_sem] theorem ty46 : tkind Tryz.prog 46 = some 11 ∧ tsize Tryz.prog 46 = some 1 ∧ tbytes Tryz.prog 46 = some 8 ∧ tagg Tryz.prog 46 = some false := by and_intros <;> kernel_rfl
@[go_sem] theorem ty47z : tzero Tryz.prog 47 = some (.agg #[.int .i64 0, .int .i64 0]) := by kernel_rfl
@[go_sem] theorem ty47 : tkind Tryz.prog 47 = some 7 ∧ tsize Tryz.prog 47 = some 2 ∧ tbytes Tryz.prog 47 = some 16 ∧ tagg Tryz.prog 47 = some true ∧ tflat Tryz.prog 47 = some [(0, 8), (1, 8)] ∧ tsizeA Tryz.prog 47 = some 2 ∧ tfield Tryz.prog 47 0 = some (0, 1) ∧ tfo Tryz.prog 47 0 = some 0 ∧ tfield Tryz.prog 47 1 = some (1, 1) ∧ tfo Tryz.prog 47 1 = some 1 ∧ tfields Tryz.prog 47 = some [(0, 1), (1, 1)] := by and_intros <;> kernel_rfl
@[go_sem] theorem ty48z : tzero Tryz.prog 48 = some (.slice none 0 0) := by kernel_rfl
@[go_sem] theorem ty48sl : tslice Tryz.prog 48 = some 1 := by kernel_rfl
@[go_sem] theorem ty48ap : tapp Tryz.prog 48 = some (52, 1, 24) := by kernel_rfl
@[go_sem] theorem ty48mk : tmk Tryz.prog 48 = some (52, 1, [.slice none 0 0], 24) := by kernel_rfl
@[go_sem] theorem ty48 : tkind Tryz.prog 48 = some 1 ∧ tsize Tryz.prog 48 = some 1 ∧ tbytes Tryz.prog 48 = some 24 ∧ tagg Tryz.prog 48 = some false ∧ tbs Tryz.prog 48 = some (52, 1, [.slice none 0 0]) ∧ telem Tryz.prog 48 = some 52 := by and_intros <;> kernel_rfl
@[go_sem] theorem ty49z : tzero Tryz.prog 49 = some (.pointer none) := by kernel_rfl
@[go_sem] theorem ty49 : tkind Tryz.prog 49 = some 4 ∧ tsize Tryz.prog 49 = some 1 ∧ tbytes Tryz.prog 49 = some 8 ∧ tagg Tryz.prog 49 = some false ∧ telem Tryz.prog 49 = some 94 := by and_intros <;> kernel_rfl
@[go_sem] theorem ty50z : tzero Tryz.prog 50 = some (.nilFunc) := by kernel_rfl
@[go_sem] theorem ty50 : tkind Tryz.prog 50 = some 11 ∧ tsize Tryz.prog 50 = some 1 ∧ tbytes Tryz.prog 50 = some 8 ∧ tagg Tryz.prog 50 = some false := by and_intros <;> kernel_rfl
@[go_sem] theorem ty51z : tzero Tryz.prog 51 = some (.slice none 0 0) := by kernel_rfl
@[go_sem] theorem ty51sl : tslice Tryz.prog 51 = some 1 := by kernel_rfl
@[go_sem] theorem ty51ap : tapp Tryz.prog 51 = some (9, 1, 16) := by kernel_rfl
@[go_sem] theorem ty51mk : tmk Tryz.prog 51 = some (9, 1, [.string ⟨#[]⟩], 16) := by kernel_rfl
@[go_sem] theorem ty51 : tkind Tryz.prog 51 = some 1 ∧ tsize Tryz.prog 51 = some 1 ∧ tbytes Tryz.prog 51 = some 24 ∧ tagg Tryz.prog 51 = some false ∧ tbs Tryz.prog 51 = some (9, 1, [.string ⟨#[]⟩]) ∧ telem Tryz.prog 51 = some 9 := by and_intros <;> kernel_rfl
@[go_sem] theorem ty52z : tzero Tryz.prog 52 = some (.slice none 0 0) := by kernel_rfl
@[go_sem] theorem ty52sl : tslice Tryz.prog 52 = some 1 := by kernel_rfl
@[go_sem] theorem ty52ap : tapp Tryz.prog 52 = some (3, 1, 8) := by kernel_rfl
@[go_sem] theorem ty52mk : tmk Tryz.prog 52 = some (3, 1, [.int .i64 0], 8) := by kernel_rfl
@[go_sem] theorem ty52 : tkind Tryz.prog 52 = some 1 ∧ tsize Tryz.prog 52 = some 1 ∧ tbytes Tryz.prog 52 = some 24 ∧ tagg Tryz.prog 52 = some false ∧ tbs Tryz.prog 52 = some (3, 1, [.int .i64 0]) ∧ telem Tryz.prog 52 = some 3 := by and_intros <;> kernel_rfl
@[go_sem] theorem ty53z : tzero Tryz.prog 53 = some (.slice none 0 0) := by kernel_rfl
@[go_sem] theorem ty53sl : tslice Tryz.prog 53 = some 1 := by kernel_rfl
@[go_sem] theorem ty53ap : tapp Tryz.prog 53 = some (5, 1, 1) := by kernel_rfl
@[go_sem] theorem ty53mk : tmk Tryz.prog 53 = some (5, 1, [.int .u8 0], 1) := by kernel_rfl
@[go_sem] theorem ty53 : tkind Tryz.prog 53 = some 1 ∧ tsize Tryz.prog 53 = some 1 ∧ tbytes Tryz.prog 53 = some 24 ∧ tagg Tryz.prog 53 = some false ∧ tbs Tryz.prog 53 = some (5, 1, [.int .u8 0]) ∧ telem Tryz.prog 53 = some 5 := by and_intros <;> kernel_rfl
@[go_sem] theorem ty54z : tzero Tryz.prog 54 = some (.nilFunc) := by kernel_rfl
@[go_sem] theorem ty54 : tkind Tryz.prog 54 = some 11 ∧ tsize Tryz.prog 54 = some 1 ∧ tbytes Tryz.prog 54 = some 8 ∧ tagg Tryz.prog 54 = some false := by and_intros <;> kernel_rfl
@[go_sem] theorem ty55z : tzero Tryz.prog 55 = some (.nilFunc) := by kernel_rfl
@[go_sem] theorem ty55 : tkind Tryz.prog 55 = some 11 ∧ tsize Tryz.prog 55 = some 1 ∧ tbytes Tryz.prog 55 = some 8 ∧ tagg Tryz.prog 55 = some false := by and_intros <;> kernel_rfl
@[go_sem] theorem ty56z : tzero Tryz.prog 56 = some (.nilFunc) := by kernel_rfl
@[go_sem] theorem ty56 : tkind Tryz.prog 56 = some 11 ∧ tsize Tryz.prog 56 = some 1 ∧ tbytes Tryz.prog 56 = some 8 ∧ tagg Tryz.prog 56 = some false := by and_intros <;> kernel_rfl
@[go_sem] theorem ty57z : tzero Tryz.prog 57 = some (.nilFunc) := by kernel_rfl
@[go_sem] theorem ty57 : tkind Tryz.prog 57 = some 11 ∧ tsize Tryz.prog 57 = some 1 ∧ tbytes Tryz.prog 57 = some 8 ∧ tagg Tryz.prog 57 = some false := by and_intros <;> kernel_rfl
@[go_sem] theorem ty58z : tzero Tryz.prog 58 = some (.nilFunc) := by kernel_rfl
@[go_sem] theorem ty58 : tkind Tryz.prog 58 = some 11 ∧ tsize Tryz.prog 58 = some 1 ∧ tbytes Tryz.prog 58 = some 8 ∧ tagg Tryz.prog 58 = some false := by and_intros <;> kernel_rfl
@[go_sem] theorem ty59z : tzero Tryz.prog 59 = some (.nilFunc) := by kernel_rfl
@[go_sem] theorem ty59 : tkind Tryz.prog 59 = some 11 ∧ tsize Tryz.prog 59 = some 1 ∧ tbytes Tryz.prog 59 = some 8 ∧ tagg Tryz.prog 59 = some false := by and_intros <;> kernel_rfl
@[go_sem] theorem ty60z : tzero Tryz.prog 60 = some (.nilFunc) := by kernel_rfl
@[go_sem] theorem ty60 : tkind Tryz.prog 60 = some 11 ∧ tsize Tryz.prog 60 = some 1 ∧ tbytes Tryz.prog 60 = some 8 ∧ tagg Tryz.prog 60 = some false := by and_intros <;> kernel_rfl
@[go_sem] theorem ty61z : tzero Tryz.prog 61 = some (.nilFunc) := by kernel_rfl
@[go_sem] theorem ty61 : tkind Tryz.prog 61 = some 11 ∧ tsize Tryz.prog 61 = some 1 ∧ tbytes Tryz.prog 61 = some 8 ∧ tagg Tryz.prog 61 = some false := by and_intros <;> kernel_rfl
@[go_sem] theorem ty62z : tzero Tryz.prog 62 = some (.nilFunc) := by kernel_rfl
@[go_sem] theorem ty62 : tkind Tryz.prog 62 = some 11 ∧ tsize Tryz.prog 62 = some 1 ∧ tbytes Tryz.prog 62 = some 8 ∧ tagg Tryz.prog 62 = some false := by and_intros <;> kernel_rfl
@[go_sem] theorem ty63z : tzero Tryz.prog 63 = some (.tuple #[.int .i64 0, .bool false]) := by kernel_rfl
@[go_sem] theorem ty63 : tkind Tryz.prog 63 = some 0 ∧ tsize Tryz.prog 63 = some 1 ∧ tbytes Tryz.prog 63 = some 0 ∧ tagg Tryz.prog 63 = some false := by and_intros <;> kernel_rfl
@[go_sem] theorem ty64z : tzero Tryz.prog 64 = some (.nilFunc) := by kernel_rfl
@[go_sem] theorem ty64 : tkind Tryz.prog 64 = some 11 ∧ tsize Tryz.prog 64 = some 1 ∧ tbytes Tryz.prog 64 = some 8 ∧ tagg Tryz.prog 64 = some false := by and_intros <;> kernel_rfl
@[go_sem] theorem ty65z : tzero Tryz.prog 65 = some (.nilFunc) := by kernel_rfl
@[go_sem] theorem ty65 : tkind Tryz.prog 65 = some 11 ∧ tsize Tryz.prog 65 = some 1 ∧ tbytes Tryz.prog 65 = some 8 ∧ tagg Tryz.prog 65 = some false := by and_intros <;> kernel_rfl
@[go_sem] theorem ty66z : tzero Tryz.prog 66 = some (.nilFunc) := by kernel_rfl
@[go_sem] theorem ty66 : tkind Tryz.prog 66 = some 11 ∧ tsize Tryz.prog 66 = some 1 ∧ tbytes Tryz.prog 66 = some 8 ∧ tagg Tryz.prog 66 = some false := by and_intros <;> kernel_rfl
@[go_sem] theorem ty67z : tzero Tryz.prog 67 = some (.nilFunc) := by kernel_rfl
@[go_sem] theorem ty67 : tkind Tryz.prog 67 = some 11 ∧ tsize Tryz.prog 67 = some 1 ∧ tbytes Tryz.prog 67 = some 8 ∧ tagg Tryz.prog 67 = some false := by and_intros <;> kernel_rfl
@[go_sem] theorem ty68z : tzero Tryz.prog 68 = some (.agg #[.int .i64 0, .int .i64 0, .slice none 0 0, .int .i64 0, .int .i64 0, .slice none 0 0]) := by kernel_rfl
@[go_sem] theorem ty68 : tkind Tryz.prog 68 = some 2 ∧ tsize Tryz.prog 68 = some 6 ∧ tbytes Tryz.prog 68 = some 80 ∧ tagg Tryz.prog 68 = some true ∧ tarr Tryz.prog 68 = some (2, 3) ∧ tsizeA Tryz.prog 68 = some 6 ∧ telem Tryz.prog 68 = some 38 ∧ tlen Tryz.prog 68 = some 2 := by and_intros <;> kernel_rfl
@[go_sem] theorem ty69z : tzero Tryz.prog 69 = some (.agg #[.int .i32 0, .int .u8 0, .int .u8 0, .int .u8 0]) := by kernel_rfl
@[go_sem] theorem ty69 : tkind Tryz.prog 69 = some 7 ∧ tsize Tryz.prog 69 = some 4 ∧ tbytes Tryz.prog 69 = some 8 ∧ tagg Tryz.prog 69 = some true ∧ tsizeA Tryz.prog 69 = some 4 ∧ tfield Tryz.prog 69 0 = some (0, 1) ∧ tfo Tryz.prog 69 0 = some 0 ∧ tfield Tryz.prog 69 1 = some (1, 1) ∧ tfo Tryz.prog 69 1 = some 1 ∧ tfield Tryz.prog 69 2 = some (2, 1) ∧ tfo Tryz.prog 69 2 = some 2 ∧ tfield Tryz.prog 69 3 = some (3, 1) ∧ tfo Tryz.prog 69 3 = some 3 ∧ tfields Tryz.prog 69 = some [(0, 1), (1, 1), (2, 1), (3, 1)] := by and_intros <;> kernel_rfl
@[go_sem] theorem ty70z : tzero Tryz.prog 70 = some (.agg #[.int .i32 0, .int .u8 0, .int .u8 0, .int .u8 0]) := by kernel_rfl
@[go_sem] theorem ty70 : tkind Tryz.prog 70 = some 7 ∧ tsize Tryz.prog 70 = some 4 ∧ tbytes Tryz.prog 70 = some 8 ∧ tagg Tryz.prog 70 = some true ∧ tflat Tryz.prog 70 = some [(0, 8), (1, 8), (2, 8), (3, 8)] ∧ tsizeA Tryz.prog 70 = some 4 ∧ tfield Tryz.prog 70 0 = some (0, 1) ∧ tfo Tryz.prog 70 0 = some 0 ∧ tfield Tryz.prog 70 1 = some (1, 1) ∧ tfo Tryz.prog 70 1 = some 1 ∧ tfield Tryz.prog 70 2 = some (2, 1) ∧ tfo Tryz.prog 70 2 = some 2 ∧ tfield Tryz.prog 70 3 = some (3, 1) ∧ tfo Tryz.prog 70 3 = some 3 ∧ tfields Tryz.prog 70 = some [(0, 1), (1, 1), (2, 1), (3, 1)] := by and_intros <;> kernel_rfl
@[go_sem] theorem ty71z : tzero Tryz.prog 71 = some (.agg #[.int .i64 0, .int .i64 0, .int .i32 0, .int .u8 0, .int .u8 0, .int .u8 0]) := by kernel_rfl
@[go_sem] theorem ty71 : tkind Tryz.prog 71 = some 7 ∧ tsize Tryz.prog 71 = some 6 ∧ tbytes Tryz.prog 71 = some 24 ∧ tagg Tryz.prog 71 = some true ∧ tsizeA Tryz.prog 71 = some 6 ∧ tfield Tryz.prog 71 0 = some (0, 1) ∧ tfo Tryz.prog 71 0 = some 0 ∧ tfield Tryz.prog 71 1 = some (1, 1) ∧ tfo Tryz.prog 71 1 = some 1 ∧ tfield Tryz.prog 71 2 = some (2, 4) ∧ tfo Tryz.prog 71 2 = some 2 ∧ tfields Tryz.prog 71 = some [(0, 1), (1, 1), (2, 4)] := by and_intros <;> kernel_rfl
@[go_sem] theorem ty72z : tzero Tryz.prog 72 = some (.agg #[.int .i64 0, .int .i64 0, .int .i32 0, .int .u8 0, .int .u8 0, .int .u8 0]) := by kernel_rfl
@[go_sem] theorem ty72 : tkind Tryz.prog 72 = some 7 ∧ tsize Tryz.prog 72 = some 6 ∧ tbytes Tryz.prog 72 = some 24 ∧ tagg Tryz.prog 72 = some true ∧ tsizeA Tryz.prog 72 = some 6 ∧ tfield Tryz.prog 72 0 = some (0, 1) ∧ tfo Tryz.prog 72 0 = some 0 ∧ tfield Tryz.prog 72 1 = some (1, 1) ∧ tfo Tryz.prog 72 1 = some 1 ∧ tfield Tryz.prog 72 2 = some (2, 4) ∧ tfo Tryz.prog 72 2 = some 2 ∧ tfields Tryz.prog 72 = some [(0, 1), (1, 1), (2, 4)] := by and_intros <;> kernel_rfl
@[go_sem] theorem ty73z : tzero Tryz.prog 73 = some (.agg #[.int .i64 0, .int .i64 0, .int .i32 0, .int .u8 0, .int .u8 0, .int .u8 0, .int .i64 0, .int .i64 0, .int .i32 0, .int .u8 0, .int .u8 0, .int .u8 0]) := by kernel_rfl
@[go_sem] theorem ty73 : tkind Tryz.prog 73 = some 2 ∧ tsize Tryz.prog 73 = some 12 ∧ tbytes Tryz.prog 73 = some 48 ∧ tagg Tryz.prog 73 = some true ∧ tarr Tryz.prog 73 = some (2, 6) ∧ tsizeA Tryz.prog 73 = some 12 ∧ telem Tryz.prog 73 = some 72 ∧ tlen Tryz.prog 73 = some 2 := by and_intros <;> kernel_rfl
@[go_sem] theorem ty74z : tzero Tryz.prog 74 = some (.agg #[.bool false, .bool false, .bool false, .bool false, .bool false, .bool false, .bool false, .bool false, .bool false, .bool false, .bool false, .bool false, .bool false, .bool false, .bool false, .bool false, .bool false, .bool false, .bool false, .bool false, .bool false, .bool false, .bool false, .bool false, .bool false, .bool false, .bool false, .bool false, .bool false, .bool false, .bool false, .bool false, .bool false, .bool false, .bool false, .bool false, .bool false, .bool false, .bool false, .bool false, .bool false, .bool false, .bool false, .bool false, .bool false, .bool false, .bool false, .bool false, .bool false, .bool false, .bool false, .bool false, .bool false, .bool false, .bool false, .bool false, .bool false, .bool false, .bool false, .bool false, .bool false, .bool false, .bool false, .bool false, .bool false, .bool false, .bool false, .bool false, .bool false, .bool false, .bool false, .bool false, .bool false, .bool false, .bool false, .bool false, .bool false, .bool false, .bool false, .bool false, .bool false, .bool false, .bool false, .bool false, .bool false, .bool false, .bool false, .bool false, .bool false, .bool false, .bool false, .bool false, .bool false, .bool false, .bool false, .bool false, .bool false, .bool false, .bool false, .bool false, .bool false, .bool false, .bool false, .bool false, .bool false, .bool false, .bool false, .bool false, .bool false, .bool false, .bool false, .bool false, .bool false, .bool false, .bool false, .bool false, .bool false, .bool false, .bool false, .bool false, .bool false, .bool false, .bool false, .bool false, .bool false, .bool false, .bool false, .bool false, .bool false, .bool false, .bool false, .bool false, .bool false, .bool false, .bool false, .bool false, .bool false, .bool false, .bool false, .bool false, .bool false, .bool false, .bool false, .bool false, .bool false, .bool false, .bool false, .bool false, .bool false, .bool false, .bool false, .bool false, .bool false, .bool false, .bool false, .bool false, .bool false, .bool false, .bool false, .bool false, .bool false, .bool false, .bool false, .bool false, .bool false, .bool false, .bool false, .bool false, .bool false, .bool false, .bool false, .bool false, .bool false, .bool false, .bool false, .bool false, .bool false, .bool false, .bool false, .bool false, .bool false, .bool false, .bool false, .bool false, .bool false, .bool false, .bool false, .bool false, .bool false, .bool false, .bool false, .bool false, .bool false, .bool false, .bool false, .bool false, .bool false, .bool false, .bool false, .bool false]) := by kernel_rfl
@[go_sem] theorem ty74 : tkind Tryz.prog 74 = some 2 ∧ tsize Tryz.prog 74 = some 200 ∧ tbytes Tryz.prog 74 = some 200 ∧ tagg Tryz.prog 74 = some true ∧ tarr Tryz.prog 74 = some (200, 1) ∧ tsizeA Tryz.prog 74 = some 200 ∧ telem Tryz.prog 74 = some 4 ∧ tlen Tryz.prog 74 = some 200 := by and_intros <;> kernel_rfl
@[go_sem] theorem ty75z : tzero Tryz.prog 75 = some (.agg #[.int .i64 0, .int .i64 0, .int .i64 0, .int .i64 0, .slice none 0 0, .int .i64 0, .int .i64 0, .slice none 0 0, .int .i64 0, .int .i64 0, .int .i32 0, .int .u8 0, .int .u8 0, .int .u8 0, .int .i64 0, .int .i64 0, .int .i32 0, .int .u8 0, .int .u8 0, .int .u8 0, .int .i64 0, .int .i64 0, .int .i64 0, .int .i32 0, .int .u8 0, .int .u8 0, .int .u8 0, .int .i64 0, .int .i64 0, .bool false, .bool false, .bool false, .bool false, .bool false, .bool false, .bool false, .bool false, .bool false, .bool false, .bool false, .bool false, .bool false, .bool false, .bool false, .bool false, .bool false, .bool false, .bool false, .bool false, .bool false, .bool false, .bool false, .bool false, .bool false, .bool false, .bool false, .bool false, .bool false, .bool false, .bool false, .bool false, .bool false, .bool false, .bool false, .bool false, .bool false, .bool false, .bool false, .bool false, .bool false, .bool false, .bool false, .bool false, .bool false, .bool false, .bool false, .bool false, .bool false, .bool false, .bool false, .bool false, .bool false, .bool false, .bool false, .bool false, .bool false, .bool false, .bool false, .bool false, .bool false, .bool false, .bool false, .bool false, .bool false, .bool false, .bool false, .bool false, .bool false, .bool false, .bool false, .bool false, .bool false, .bool false, .bool false, .bool false, .bool false, .bool false, .bool false, .bool false, .bool false, .bool false, .bool false, .bool false, .bool false, .bool false, .bool false, .bool false, .bool false, .bool false, .bool false, .bool false, .bool false, .bool false, .bool false, .bool false, .bool false, .bool false, .bool false, .bool false, .bool false, .bool false, .bool false, .bool false, .bool false, .bool false, .bool false, .bool false, .bool false, .bool false, .bool false, .bool false, .bool false, .bool false, .bool false, .bool false, .bool false, .bool false, .bool false, .bool false, .bool false, .bool false, .bool false, .bool false, .bool false, .bool false, .bool false, .bool false, .bool false, .bool false, .bool false, .bool false, .bool false, .bool false, .bool false, .bool false, .bool false, .bool false, .bool false, .bool false, .bool false, .bool false, .bool false, .bool false, .bool false, .bool false, .bool false, .bool false, .bool false, .bool false, .bool false, .bool false, .bool false, .bool false, .bool false, .bool false, .bool false, .bool false, .bool false, .bool false, .bool false, .bool false, .bool false, .bool false, .bool false, .bool false, .bool false, .bool false, .bool false, .bool false, .bool false, .bool false, .bool false, .bool false, .bool false, .bool false, .bool false, .bool false, .bool false, .bool false, .bool false, .bool false, .bool false, .bool false, .bool false, .bool false, .bool false, .bool false, .bool false, .bool false, .bool false, .bool false, .bool false, .bool false, .bool false, .bool false, .bool false, .bool false, .bool false, .bool false, .bool false, .bool false, .bool false, .slice none 0 0]) := by kernel_rfl
@[go_sem] theorem ty75 : tkind Tryz.prog 75 = some 7 ∧ tsize Tryz.prog 75 = some 233 ∧ tbytes Tryz.prog 75 = some 424 ∧ tagg Tryz.prog 75 = some true ∧ tsizeA Tryz.prog 75 = some 233 ∧ tfield Tryz.prog 75 0 = some (0, 1) ∧ tfo Tryz.prog 75 0 = some 0 ∧ tfield Tryz.prog 75 1 = some (1, 1) ∧ tfo Tryz.prog 75 1 = some 1 ∧ tfield Tryz.prog 75 2 = some (2, 6) ∧ tfo Tryz.prog 75 2 = some 2 ∧ tfield Tryz.prog 75 3 = some (8, 12) ∧ tfo Tryz.prog 75 3 = some 8 ∧ tfield Tryz.prog 75 4 = some (20, 1) ∧ tfo Tryz.prog 75 4 = some 20 ∧ tfield Tryz.prog 75 5 = some (21, 6) ∧ tfo Tryz.prog 75 5 = some 21 ∧ tfield Tryz.prog 75 6 = some (27, 1) ∧ tfo Tryz.prog 75 6 = some 27 ∧ tfield Tryz.prog 75 7 = some (28, 1) ∧ tfo Tryz.prog 75 7 = some 28 ∧ tfield Tryz.prog 75 8 = some (29, 200) ∧ tfo Tryz.prog 75 8 = some 29 ∧ tfield Tryz.prog 75 9 = some (229, 1) ∧ tfo Tryz.prog 75 9 = some 229 ∧ tfield Tryz.prog 75 10 = some (230, 1) ∧ tfo Tryz.prog 75 10 = some 230 ∧ tfield Tryz.prog 75 11 = some (231, 1) ∧ tfo Tryz.prog 75 11 = some 231 ∧ tfield Tryz.prog 75 12 = some (232, 1) ∧ tfo Tryz.prog 75 12 = some 232 ∧ tfields Tryz.prog 75 = some [(0, 1), (1, 1), (2, 6), (8, 12), (20, 1), (21, 6), (27, 1), (28, 1), (29, 200), (229, 1), (230, 1), (231, 1), (232, 1)] := by and_intros <;> kernel_rfl
@[go_sem] theorem ty76z : tzero Tryz.prog 76 = some (.agg #[.int .i64 0, .int .i64 0, .int .i64 0, .int .i64 0, .slice none 0 0, .int .i64 0, .int .i64 0, .slice none 0 0, .int .i64 0, .int .i64 0, .int .i32 0, .int .u8 0, .int .u8 0, .int .u8 0, .int .i64 0, .int .i64 0, .int .i32 0, .int .u8 0, .int .u8 0, .int .u8 0, .int .i64 0, .int .i64 0, .int .i64 0, .int .i32 0, .int .u8 0, .int .u8 0, .int .u8 0, .int .i64 0, .int .i64 0, .bool false, .bool false, .bool false, .bool false, .bool false, .bool false, .bool false, .bool false, .bool false, .bool false, .bool false, .bool false, .bool false, .bool false, .bool false, .bool false, .bool false, .bool false, .bool false, .bool false, .bool false, .bool false, .bool false, .bool false, .bool false, .bool false, .bool false, .bool false, .bool false, .bool false, .bool false, .bool false, .bool false, .bool false, .bool false, .bool false, .bool false, .bool false, .bool false, .bool false, .bool false, .bool false, .bool false, .bool false, .bool false, .bool false, .bool false, .bool false, .bool false, .bool false, .bool false, .bool false, .bool false, .bool false, .bool false, .bool false, .bool false, .bool false, .bool false, .bool false, .bool false, .bool false, .bool false, .bool false, .bool false, .bool false, .bool false, .bool false, .bool false, .bool false, .bool false, .bool false, .bool false, .bool false, .bool false, .bool false, .bool false, .bool false, .bool false, .bool false, .bool false, .bool false, .bool false, .bool false, .bool false, .bool false, .bool false, .bool false, .bool false, .bool false, .bool false, .bool false, .bool false, .bool false, .bool false, .bool false, .bool false, .bool false, .bool false, .bool false, .bool false, .bool false, .bool false, .bool false, .bool false, .bool false, .bool false, .bool false, .bool false, .bool false, .bool false, .bool false, .bool false, .bool false, .bool false, .bool false, .bool false, .bool false, .bool false, .bool false, .bool false, .bool false, .bool false, .bool false, .bool false, .bool false, .bool false, .bool false, .bool false, .bool false, .bool false, .bool false, .bool false, .bool false, .bool false, .bool false, .bool false, .bool false, .bool false, .bool false, .bool false, .bool false, .bool false, .bool false, .bool false, .bool false, .bool false, .bool false, .bool false, .bool false, .bool false, .bool false, .bool false, .bool false, .bool false, .bool false, .bool false, .bool false, .bool false, .bool false, .bool false, .bool false, .bool false, .bool false, .bool false, .bool false, .bool false, .bool false, .bool false, .bool false, .bool false, .bool false, .bool false, .bool false, .bool false, .bool false, .bool false, .bool false, .bool false, .bool false, .bool false, .bool false, .bool false, .bool false, .bool false, .bool false, .bool false, .bool false, .bool false, .bool false, .bool false, .bool false, .bool false, .bool false, .bool false, .bool false, .bool false, .bool false, .bool false, .bool false, .bool false, .bool false, .bool false, .slice none 0 0]) := by kernel_rfl
@[go_sem] theorem ty76 : tkind Tryz.prog 76 = some 7 ∧ tsize Tryz.prog 76 = some 233 ∧ tbytes Tryz.prog 76 = some 424 ∧ tagg Tryz.prog 76 = some true ∧ tsizeA Tryz.prog 76 = some 233 ∧ tfield Tryz.prog 76 0 = some (0, 1) ∧ tfo Tryz.prog 76 0 = some 0 ∧ tfield Tryz.prog 76 1 = some (1, 1) ∧ tfo Tryz.prog 76 1 = some 1 ∧ tfield Tryz.prog 76 2 = some (2, 6) ∧ tfo Tryz.prog 76 2 = some 2 ∧ tfield Tryz.prog 76 3 = some (8, 12) ∧ tfo Tryz.prog 76 3 = some 8 ∧ tfield Tryz.prog 76 4 = some (20, 1) ∧ tfo Tryz.prog 76 4 = some 20 ∧ tfield Tryz.prog 76 5 = some (21, 6) ∧ tfo Tryz.prog 76 5 = some 21 ∧ tfield Tryz.prog 76 6 = some (27, 1) ∧ tfo Tryz.prog 76 6 = some 27 ∧ tfield Tryz.prog 76 7 = some (28, 1) ∧ tfo Tryz.prog 76 7 = some 28 ∧ tfield Tryz.prog 76 8 = some (29, 200) ∧ tfo Tryz.prog 76 8 = some 29 ∧ tfield Tryz.prog 76 9 = some (229, 1) ∧ tfo Tryz.prog 76 9 = some 229 ∧ tfield Tryz.prog 76 10 = some (230, 1) ∧ tfo Tryz.prog 76 10 = some 230 ∧ tfield Tryz.prog 76 11 = some (231, 1) ∧ tfo Tryz.prog 76 11 = some 231 ∧ tfield Tryz.prog 76 12 = some (232, 1) ∧ tfo Tryz.prog 76 12 = some 232 ∧ tfields Tryz.prog 76 = some [(0, 1), (1, 1), (2, 6), (8, 12), (20, 1), (21, 6), (27, 1), (28, 1), (29, 200), (229, 1), (230, 1), (231, 1), (232, 1)] := by and_intros <;> kernel_rfl
@[go_sem] theorem ty77z : tzero Tryz.prog 77 = some (.pointer none) := by kernel_rfl
@[go_sem] theorem ty77 : tkind Tryz.prog 77 = some 4 ∧ tsize Tryz.prog 77 = some 1 ∧ tbytes Tryz.prog 77 = some 8 ∧ tagg Tryz.prog 77 = some false ∧ telem Tryz.prog 77 = some 79 := by and_intros <;> kernel_rfl
@[go_sem] theorem ty78z : tzero Tryz.prog 78 = some (.agg #[.int .i64 0, .int .i64 0, .int .i32 0, .int .u8 0, .int .u8 0, .int .i64 0, .int .i64 0, .int .i64 0, .int .i64 0, .int .i64 0, .int .i64 0, .int .i64 0, .int .i64 0, .int .i64 0, .bool false]) := by kernel_rfl
@[go_sem] theorem ty78 : tkind Tryz.prog 78 = some 7 ∧ tsize Tryz.prog 78 = some 15 ∧ tbytes Tryz.prog 78 = some 104 ∧ tagg Tryz.prog 78 = some true ∧ tsizeA Tryz.prog 78 = some 15 ∧ tfield Tryz.prog 78 0 = some (0, 1) ∧ tfo Tryz.prog 78 0 = some 0 ∧ tfield Tryz.prog 78 1 = some (1, 13) ∧ tfo Tryz.prog 78 1 = some 1 ∧ tfield Tryz.prog 78 2 = some (14, 1) ∧ tfo Tryz.prog 78 2 = some 14 ∧ tfields Tryz.prog 78 = some [(0, 1), (1, 13), (14, 1)] := by and_intros <;> kernel_rfl
@[go_sem] theorem ty79z : tzero Tryz.prog 79 = some (.agg #[.int .i64 0, .int .i64 0, .int .i32 0, .int .u8 0, .int .u8 0, .int .i64 0, .int .i64 0, .int .i64 0, .int .i64 0, .int .i64 0, .int .i64 0, .int .i64 0, .int .i64 0, .int .i64 0, .bool false]) := by kernel_rfl
@[go_sem] theorem ty79 : tkind Tryz.prog 79 = some 7 ∧ tsize Tryz.prog 79 = some 15 ∧ tbytes Tryz.prog 79 = some 104 ∧ tagg Tryz.prog 79 = some true ∧ tsizeA Tryz.prog 79 = some 15 ∧ tfield Tryz.prog 79 0 = some (0, 1) ∧ tfo Tryz.prog 79 0 = some 0 ∧ tfield Tryz.prog 79 1 = some (1, 13) ∧ tfo Tryz.prog 79 1 = some 1 ∧ tfield Tryz.prog 79 2 = some (14, 1) ∧ tfo Tryz.prog 79 2 = some 14 ∧ tfields Tryz.prog 79 = some [(0, 1), (1, 13), (14, 1)] := by and_intros <;> kernel_rfl
@[go_sem] theorem ty80z : tzero Tryz.prog 80 = some (.nilFunc) := by kernel_rfl
@[go_sem] theorem ty80 : tkind Tryz.prog 80 = some 11 ∧ tsize Tryz.prog 80 = some 1 ∧ tbytes Tryz.prog 80 = some 8 ∧ tagg Tryz.prog 80 = some false := by and_intros <;> kernel_rfl
@[go_sem] theorem ty81z : tzero Tryz.prog 81 = some (.nilFunc) := by kernel_rfl
@[go_sem] theorem ty81 : tkind Tryz.prog 81 = some 11 ∧ tsize Tryz.prog 81 = some 1 ∧ tbytes Tryz.prog 81 = some 8 ∧ tagg Tryz.prog 81 = some false := by and_intros <;> kernel_rfl
@[go_sem] theorem ty82z : tzero Tryz.prog 82 = some (.nilFunc) := by kernel_rfl
@[go_sem] theorem ty82 : tkind Tryz.prog 82 = some 11 ∧ tsize Tryz.prog 82 = some 1 ∧ tbytes Tryz.prog 82 = some 8 ∧ tagg Tryz.prog 82 = some false := by and_intros <;> kernel_rfl
@[go_sem] theorem ty83z : tzero Tryz.prog 83 = some (.nilFunc) := by kernel_rfl
@[go_sem] theorem ty83 : tkind Tryz.prog 83 = some 11 ∧ tsize Tryz.prog 83 = some 1 ∧ tbytes Tryz.prog 83 = some 8 ∧ tagg Tryz.prog 83 = some false := by and_intros <;> kernel_rfl
@[go_sem] theorem ty84z : tzero Tryz.prog 84 = some (.nilFunc) := by kernel_rfl
@[go_sem] theorem ty84 : tkind Tryz.prog 84 = some 11 ∧ tsize Tryz.prog 84 = some 1 ∧ tbytes Tryz.prog 84 = some 8 ∧ tagg Tryz.prog 84 = some false := by and_intros <;> kernel_rfl
@[go_sem] theorem ty85z : tzero Tryz.prog 85 = some (.nilFunc) := by kernel_rfl
@[go_sem] theorem ty85 : tkind Tryz.prog 85 = some 11 ∧ tsize Tryz.prog 85 = some 1 ∧ tbytes Tryz.prog 85 = some 8 ∧ tagg Tryz.prog 85 = some false := by and_intros <;> kernel_rfl
@[go_sem] theorem ty86z : tzero Tryz.prog 86 = some (.nilFunc) := by kernel_rfl
@[go_sem] theorem ty86 : tkind Tryz.prog 86 = some 11 ∧ tsize Tryz.prog 86 = some 1 ∧ tbytes Tryz.prog 86 = some 8 ∧ tagg Tryz.prog 86 = some false := by and_intros <;> kernel_rfl
@[go_sem] theorem ty87z : tzero Tryz.prog 87 = some (.pointer none) := by kernel_rfl
@[go_sem] theorem ty87 : tkind Tryz.prog 87 = some 4 ∧ tsize Tryz.prog 87 = some 1 ∧ tbytes Tryz.prog 87 = some 8 ∧ tagg Tryz.prog 87 = some false ∧ telem Tryz.prog 87 = some 118 := by and_intros <;> kernel_rfl
@[go_sem] theorem ty88z : tzero Tryz.prog 88 = some (.nilFunc) := by kernel_rfl
@[go_sem] theorem ty88 : tkind Tryz.prog 88 = some 11 ∧ tsize Tryz.prog 88 = some 1 ∧ tbytes Tryz.prog 88 = some 8 ∧ tagg Tryz.prog 88 = some false := by and_intros <;> kernel_rfl
@[go_sem] theorem ty89z : tzero Tryz.prog 89 = some (.agg #[.string ⟨#[]⟩]) := by kernel_rfl
@[go_sem] theorem ty89 : tkind Tryz.prog 89 = some 7 ∧ tsize Tryz.prog 89 = some 1 ∧ tbytes Tryz.prog 89 = some 16 ∧ tagg Tryz.prog 89 = some true ∧ tsizeA Tryz.prog 89 = some 1 ∧ tfield Tryz.prog 89 0 = some (0, 1) ∧ tfo Tryz.prog 89 0 = some 0 ∧ tfields Tryz.prog 89 = some [(0, 1)] := by and_intros <;> kernel_rfl
@[go_sem] theorem ty90z : tzero Tryz.prog 90 = some (.agg #[.string ⟨#[]⟩]) := by kernel_rfl
@[go_sem] theorem ty90 : tkind Tryz.prog 90 = some 7 ∧ tsize Tryz.prog 90 = some 1 ∧ tbytes Tryz.prog 90 = some 16 ∧ tagg Tryz.prog 90 = some true ∧ tflat Tryz.prog 90 = some [(0, 3)] ∧ tsizeA Tryz.prog 90 = some 1 ∧ tfield Tryz.prog 90 0 = some (0, 1) ∧ tfo Tryz.prog 90 0 = some 0 ∧ tfields Tryz.prog 90 = some [(0, 1)] := by and_intros <;> kernel_rfl
@[go_sem] theorem ty91z : tzero Tryz.prog 91 = some (.agg #[.int .i64 0, .int .u8 0, .int .u8 0, .int .i64 0, .int .i64 0, .int .i64 0, .int .i64 0, .int .i64 0, .int .i64 0, .int .i64 0, .int .i64 0, .int .i64 0]) := by kernel_rfl
@[go_sem] theorem ty91 : tkind Tryz.prog 91 = some 7 ∧ tsize Tryz.prog 91 = some 12 ∧ tbytes Tryz.prog 91 = some 88 ∧ tagg Tryz.prog 91 = some true ∧ tsizeA Tryz.prog 91 = some 12 ∧ tfield Tryz.prog 91 0 = some (0, 1) ∧ tfo Tryz.prog 91 0 = some 0 ∧ tfield Tryz.prog 91 1 = some (1, 1) ∧ tfo Tryz.prog 91 1 = some 1 ∧ tfield Tryz.prog 91 2 = some (2, 1) ∧ tfo Tryz.prog 91 2 = some 2 ∧ tfield Tryz.prog 91 3 = some (3, 1) ∧ tfo Tryz.prog 91 3 = some 3 ∧ tfield Tryz.prog 91 4 = some (4, 8) ∧ tfo Tryz.prog 91 4 = some 4 ∧ tfields Tryz.prog 91 = some [(0, 1), (1, 1), (2, 1), (3, 1), (4, 8)] := by and_intros <;> kernel_rfl
@[go_sem] theorem ty92z : tzero Tryz.prog 92 = some (.agg #[.int .i64 0, .int .u8 0, .int .u8 0, .int .i64 0, .int .i64 0, .int .i64 0, .int .i64 0, .int .i64 0, .int .i64 0, .int .i64 0, .int .i64 0, .int .i64 0]) := by kernel_rfl
@[go_sem] theorem ty92 : tkind Tryz.prog 92 = some 7 ∧ tsize Tryz.prog 92 = some 12 ∧ tbytes Tryz.prog 92 = some 88 ∧ tagg Tryz.prog 92 = some true ∧ tsizeA Tryz.prog 92 = some 12 ∧ tfield Tryz.prog 92 0 = some (0, 1) ∧ tfo Tryz.prog 92 0 = some 0 ∧ tfield Tryz.prog 92 1 = some (1, 1) ∧ tfo Tryz.prog 92 1 = some 1 ∧ tfield Tryz.prog 92 2 = some (2, 1) ∧ tfo Tryz.prog 92 2 = some 2 ∧ tfield Tryz.prog 92 3 = some (3, 1) ∧ tfo Tryz.prog 92 3 = some 3 ∧ tfield Tryz.prog 92 4 = some (4, 8) ∧ tfo Tryz.prog 92 4 = some 4 ∧ tfields Tryz.prog 92 = some [(0, 1), (1, 1), (2, 1), (3, 1), (4, 8)] := by and_intros <;> kernel_rfl
@[go_sem] theorem ty93z : tzero Tryz.prog 93 = some (.agg #[.pointer none, .string ⟨#[]⟩, .int .i64 0, .int .u8 0, .int .u8 0, .int .i64 0, .int .i64 0, .int .i64 0, .int .i64 0, .int .i64 0, .int .i64 0, .int .i64 0, .int .i64 0, .int .i64 0, .pointer none]) := by kernel_rfl
@[go_sem] theorem ty93 : tkind Tryz.prog 93 = some 7 ∧ tsize Tryz.prog 93 = some 15 ∧ tbytes Tryz.prog 93 = some 120 ∧ tagg Tryz.prog 93 = some true ∧ tsizeA Tryz.prog 93 = some 15 ∧ tfield Tryz.prog 93 0 = some (0, 1) ∧ tfo Tryz.prog 93 0 = some 0 ∧ tfield Tryz.prog 93 1 = some (1, 1) ∧ tfo Tryz.prog 93 1 = some 1 ∧ tfield Tryz.prog 93 2 = some (2, 12) ∧ tfo Tryz.prog 93 2 = some 2 ∧ tfield Tryz.prog 93 3 = some (14, 1) ∧ tfo Tryz.prog 93 3 = some 14 ∧ tfields Tryz.prog 93 = some [(0, 1), (1, 1), (2, 12), (14, 1)] := by and_intros <;> kernel_rfl
@[go_sem] theorem ty94z : tzero Tryz.prog 94 = some (.agg #[.pointer none, .string ⟨#[]⟩, .int .i64 0, .int .u8 0, .int .u8 0, .int .i64 0, .int .i64 0, .int .i64 0, .int .i64 0, .int .i64 0, .int .i64 0, .int .i64 0, .int .i64 0, .int .i64 0, .pointer none]) := by kernel_rfl
@[go_sem] theorem ty94 : tkind Tryz.prog 94 = some 7 ∧ tsize Tryz.prog 94 = some 15 ∧ tbytes Tryz.prog 94 = some 120 ∧ tagg Tryz.prog 94 = some true ∧ tsizeA Tryz.prog 94 = some 15 ∧ tfield Tryz.prog 94 0 = some (0, 1) ∧ tfo Tryz.prog 94 0 = some 0 ∧ tfield Tryz.prog 94 1 = some (1, 1) ∧ tfo Tryz.prog 94 1 = some 1 ∧ tfield Tryz.prog 94 2 = some (2, 12) ∧ tfo Tryz.prog 94 2 = some 2 ∧ tfield Tryz.prog 94 3 = some (14, 1) ∧ tfo Tryz.prog 94 3 = some 14 ∧ tfields Tryz.prog 94 = some [(0, 1), (1, 1), (2, 12), (14, 1)] := by and_intros <;> kernel_rfl
@[go_sem] theorem ty95z : tzero Tryz.prog 95 = some (.nilFunc) := by kernel_rfl
@[go_sem] theorem ty95 : tkind Tryz.prog 95 = some 11 ∧ tsize Tryz.prog 95 = some 1 ∧ tbytes Tryz.prog 95 = some 8 ∧ tagg Tryz.prog 95 = some false := by and_intros <;> kernel_rfl
@[go_sem] theorem ty96z : tzero Tryz.prog 96 = some (.nilFunc) := by kernel_rfl
@[go_sem] theorem ty96 : tkind Tryz.prog 96 = some 11 ∧ tsize Tryz.prog 96 = some 1 ∧ tbytes Tryz.prog 96 = some 8 ∧ tagg Tryz.prog 96 = some false := by and_intros <;> kernel_rfl
@[go_sem] theorem ty97z : tzero Tryz.prog 97 = some (.nilFunc) := by kernel_rfl
@[go_sem] theorem ty97 : tkind Tryz.prog 97 = some 11 ∧ tsize Tryz.prog 97 = some 1 ∧ tbytes Tryz.prog 97 = some 8 ∧ tagg Tryz.prog 97 = some false := by and_intros <;> kernel_rfl
@[go_sem] theorem ty98z : tzero Tryz.prog 98 = some (.nilFunc) := by kernel_rfl
@[go_sem] theorem ty98 : tkind Tryz.prog 98 = some 11 ∧ tsize Tryz.prog 98 = some 1 ∧ tbytes Tryz.prog 98 = some 8 ∧ tagg Tryz.prog 98 = some false := by and_intros <;> kernel_rfl
@[go_sem] theorem ty99z : tzero Tryz.prog 99 = some (.nilFunc) := by kernel_rfl
@[go_sem] theorem ty99 : tkind Tryz.prog 99 = some 11 ∧ tsize Tryz.prog 99 = some 1 ∧ tbytes Tryz.prog 99 = some 8 ∧ tagg Tryz.prog 99 = some false := by and_intros <;> kernel_rfl
@[go_sem] theorem ty100z : tzero Tryz.prog 100 = some (.nilFunc) := by kernel_rfl
@[go_sem] theorem ty100 : tkind Tryz.prog 100 = some 11 ∧ tsize Tryz.prog 100 = some 1 ∧ tbytes Tryz.prog 100 = some 8 ∧ tagg Tryz.prog 100 = some false := by and_intros <;> kernel_rfl
@[go_sem] theorem ty101z : tzero Tryz.prog 101 = some (.nilFunc) := by kernel_rfl
@[go_sem] theorem ty101 : tkind Tryz.prog 101 = some 11 ∧ tsize Tryz.prog 101 = some 1 ∧ tbytes Tryz.prog 101 = some 8 ∧ tagg Tryz.prog 101 = some false := by and_intros <;> kernel_rfl
@[go_sem] theorem ty102z : tzero Tryz.prog 102 = some (.nilFunc) := by kernel_rfl
@[go_sem] theorem ty102 : tkind Tryz.prog 102 = some 11 ∧ tsize Tryz.prog 102 = some 1 ∧ tbytes Tryz.prog 102 = some 8 ∧ tagg Tryz.prog 102 = some false := by and_intros <;> kernel_rfl
@[go_sem] theorem ty103z : tzero Tryz.prog 103 = some (.nilFunc) := by kernel_rfl
@[go_sem] theorem ty103 : tkind Tryz.prog 103 = some 11 ∧ tsize Tryz.prog 103 = some 1 ∧ tbytes Tryz.prog 103 = some 8 ∧ tagg Tryz.prog 103 = some false := by and_intros <;> kernel_rfl
@[go_sem] theorem ty104z : tzero Tryz.prog 104 = some (.nilFunc) := by kernel_rfl
@[go_sem] theorem ty104 : tkind Tryz.prog 104 = some 11 ∧ tsize Tryz.prog 104 = some 1 ∧ tbytes Tryz.prog 104 = some 8 ∧ tagg Tryz.prog 104 = some false := by and_intros <;> kernel_rfl
@[go_sem] theorem ty105z : tzero Tryz.prog 105 = some (.nilFunc) := by kernel_rfl
@[go_sem] theorem ty105 : tkind Tryz.prog 105 = some 11 ∧ tsize Tryz.prog 105 = some 1 ∧ tbytes Tryz.prog 105 = some 8 ∧ tagg Tryz.prog 105 = some false := by and_intros <;> kernel_rfl
@[go_sem] theorem ty106z : tzero Tryz.prog 106 = some (.nilFunc) := by kernel_rfl
@[go_sem] theorem ty106 : tkind Tryz.prog 106 = some 11 ∧ tsize Tryz.prog 106 = some 1 ∧ tbytes Tryz.prog 106 = some 8 ∧ tagg Tryz.prog 106 = some false := by and_intros <;> kernel_rfl
@[go_sem] theorem ty107z : tzero Tryz.prog 107 = some (.nilFunc) := by kernel_rfl
@[go_sem] theorem ty107 : tkind Tryz.prog 107 = some 11 ∧ tsize Tryz.prog 107 = some 1 ∧ tbytes Tryz.prog 107 = some 8 ∧ tagg Tryz.prog 107 = some false := by and_intros <;> kernel_rfl
@[go_sem] theorem ty108z : tzero Tryz.prog 108 = some (.nilFunc) := by kernel_rfl
@[go_sem] theorem ty108 : tkind Tryz.prog 108 = some 11 ∧ tsize Tryz.prog 108 = some 1 ∧ tbytes Tryz.prog 108 = some 8 ∧ tagg Tryz.prog 108 = some false := by and_intros <;> kernel_rfl
@[go_sem] theorem ty109z : tzero Tryz.prog 109 = some (.nilFunc) := by kernel_rfl
@[go_sem] theorem ty109 : tkind Tryz.prog 109 = some 11 ∧ tsize Tryz.prog 109 = some 1 ∧ tbytes Tryz.prog 109 = some 8 ∧ tagg Tryz.prog 109 = some false := by and_intros <;> kernel_rfl
@[go_sem] theorem ty110z : tzero Tryz.prog 110 = some (.nilFunc) := by kernel_rfl
@[go_sem] theorem ty110 : tkind Tryz.prog 110 = some 11 ∧ tsize Tryz.prog 110 = some 1 ∧ tbytes Tryz.prog 110 = some 8 ∧ tagg Tryz.prog 110 = some false := by and_intros <;> kernel_rfl
@[go_sem] theorem ty111z : tzero Tryz.prog 111 = some (.nilFunc) := by kernel_rfl
@[go_sem] theorem ty111 : tkind Tryz.prog 111 = some 11 ∧ tsize Tryz.prog 111 = some 1 ∧ tbytes Tryz.prog 111 = some 8 ∧ tagg Tryz.prog 111 = some false := by and_intros <;> kernel_rfl
@[go_sem] theorem ty112z : tzero Tryz.prog 112 = some (.nilFunc) := by kernel_rfl
@[go_sem] theorem ty112 : tkind Tryz.prog 112 = some 11 ∧ tsize Tryz.prog 112 = some 1 ∧ tbytes Tryz.prog 112 = some 8 ∧ tagg Tryz.prog 112 = some false := by and_intros <;> kernel_rfl
@[go_sem] theorem ty113z : tzero Tryz.prog 113 = some (.nilFunc) := by kernel_rfl
@[go_sem] theorem ty113 : tkind Tryz.prog 113 = some 11 ∧ tsize Tryz.prog 113 = some 1 ∧ tbytes Tryz.prog 113 = some 8 ∧ tagg Tryz.prog 113 = some false := by and_intros <;> kernel_rfl
@[go_sem] theorem ty114z : tzero Tryz.prog 114 = some (.nilFunc) := by kernel_rfl
@[go_sem] theorem ty114 : tkind Tryz.prog 114 = some 11 ∧ tsize Tryz.prog 114 = some 1 ∧ tbytes Tryz.prog 114 = some 8 ∧ tagg Tryz.prog 114 = some false := by and_intros <;> kernel_rfl
@[go_sem] theorem ty115z : tzero Tryz.prog 115 = some (.agg #[.int .i64 0, .int .i64 0, .slice none 0 0]) := by kernel_rfl
@[go_sem] theorem ty115 : tkind Tryz.prog 115 = some 7 ∧ tsize Tryz.prog 115 = some 3 ∧ tbytes Tryz.prog 115 = some 40 ∧ tagg Tryz.prog 115 = some true ∧ tsizeA Tryz.prog 115 = some 3 ∧ tfield Tryz.prog 115 0 = some (0, 1) ∧ tfo Tryz.prog 115 0 = some 0 ∧ tfield Tryz.prog 115 1 = some (1, 1) ∧ tfo Tryz.prog 115 1 = some 1 ∧ tfield Tryz.prog 115 2 = some (2, 1) ∧ tfo Tryz.prog 115 2 = some 2 ∧ tfields Tryz.prog 115 = some [(0, 1), (1, 1), (2, 1)] := by and_intros <;> kernel_rfl
@[go_sem] theorem ty116z : tzero Tryz.prog 116 = some (.agg #[.int .i64 0, .int .i64 0, .slice none 0 0]) := by kernel_rfl
@[go_sem] theorem ty116 : tkind Tryz.prog 116 = some 7 ∧ tsize Tryz.prog 116 = some 3 ∧ tbytes Tryz.prog 116 = some 40 ∧ tagg Tryz.prog 116 = some true ∧ tsizeA Tryz.prog 116 = some 3 ∧ tfield Tryz.prog 116 0 = some (0, 1) ∧ tfo Tryz.prog 116 0 = some 0 ∧ tfield Tryz.prog 116 1 = some (1, 1) ∧ tfo Tryz.prog 116 1 = some 1 ∧ tfield Tryz.prog 116 2 = some (2, 1) ∧ tfo Tryz.prog 116 2 = some 2 ∧ tfields Tryz.prog 116 = some [(0, 1), (1, 1), (2, 1)] := by and_intros <;> kernel_rfl
@[go_sem] theorem ty117z : tzero Tryz.prog 117 = some (.agg #[.int .i64 0, .int .i64 0, .slice none 0 0]) := by kernel_rfl
@[go_sem] theorem ty117 : tkind Tryz.prog 117 = some 7 ∧ tsize Tryz.prog 117 = some 3 ∧ tbytes Tryz.prog 117 = some 40 ∧ tagg Tryz.prog 117 = some true ∧ tsizeA Tryz.prog 117 = some 3 ∧ tfield Tryz.prog 117 0 = some (0, 3) ∧ tfo Tryz.prog 117 0 = some 0 ∧ tfields Tryz.prog 117 = some [(0, 3)] := by and_intros <;> kernel_rfl
@[go_sem] theorem ty118z : tzero Tryz.prog 118 = some (.agg #[.int .i64 0, .int .i64 0, .slice none 0 0]) := by kernel_rfl
@[go_sem] theorem ty118 : tkind Tryz.prog 118 = some 7 ∧ tsize Tryz.prog 118 = some 3 ∧ tbytes Tryz.prog 118 = some 40 ∧ tagg Tryz.prog 118 = some true ∧ tsizeA Tryz.prog 118 = some 3 ∧ tfield Tryz.prog 118 0 = some (0, 3) ∧ tfo Tryz.prog 118 0 = some 0 ∧ tfields Tryz.prog 118 = some [(0, 3)] := by and_intros <;> kernel_rfl
@[go_sem] theorem ty119z : tzero Tryz.prog 119 = some (.pointer none) := by kernel_rfl
@[go_sem] theorem ty119 : tkind Tryz.prog 119 = some 4 ∧ tsize Tryz.prog 119 = some 1 ∧ tbytes Tryz.prog 119 = some 8 ∧ tagg Tryz.prog 119 = some false ∧ telem Tryz.prog 119 = some 92 := by and_intros <;> kernel_rfl
@[go_sem] theorem ty120z : tzero Tryz.prog 120 = some (.tuple #[.agg #[.int .i64 0, .int .i32 0, .int .u8 0, .int .u8 0, .int .i64 0, .int .i64 0, .int .i64 0, .int .i64 0, .int .i64 0, .int .i64 0, .int .i64 0, .int .i64 0, .int .i64 0], .bool false]) := by kernel_rfl
@[go_sem] theorem ty120 : tkind Tryz.prog 120 = some 0 ∧ tsize Tryz.prog 120 = some 1 ∧ tbytes Tryz.prog 120 = some 0 ∧ tagg Tryz.prog 120 = some false := by and_intros <;> kernel_rfl
@[go_sem] theorem ty121z : tzero Tryz.prog 121 = some (.nilFunc) := by kernel_rfl
@[go_sem] theorem ty121 : tkind Tryz.prog 121 = some 11 ∧ tsize Tryz.prog 121 = some 1 ∧ tbytes Tryz.prog 121 = some 8 ∧ tagg Tryz.prog 121 = some false := by and_intros <;> kernel_rfl
@[go_sem] theorem ty122z : tzero Tryz.prog 122 = some (.pointer none) := by kernel_rfl
@[go_sem] theorem ty122 : tkind Tryz.prog 122 = some 4 ∧ tsize Tryz.prog 122 = some 1 ∧ tbytes Tryz.prog 122 = some 8 ∧ tagg Tryz.prog 122 = some false ∧ telem Tryz.prog 122 = some 90 := by and_intros <;> kernel_rfl
@[go_sem] theorem ty123z : tzero Tryz.prog 123 = some (.tuple #[.slice none 0 0, .string ⟨#[]⟩]) := by kernel_rfl
@[go_sem] theorem ty123 : tkind Tryz.prog 123 = some 0 ∧ tsize Tryz.prog 123 = some 1 ∧ tbytes Tryz.prog 123 = some 0 ∧ tagg Tryz.prog 123 = some false := by and_intros <;> kernel_rfl
@[go_sem] theorem ty124z : tzero Tryz.prog 124 = some (.nilFunc) := by kernel_rfl
@[go_sem] theorem ty124 : tkind Tryz.prog 124 = some 11 ∧ tsize Tryz.prog 124 = some 1 ∧ tbytes Tryz.prog 124 = some 8 ∧ tagg Tryz.prog 124 = some false := by and_intros <;> kernel_rfl
@[go_sem] theorem ty125z : tzero Tryz.prog 125 = some (.nilFunc) := by kernel_rfl
@[go_sem] theorem ty125 : tkind Tryz.prog 125 = some 11 ∧ tsize Tryz.prog 125 = some 1 ∧ tbytes Tryz.prog 125 = some 8 ∧ tagg Tryz.prog 125 = some false := by and_intros <;> kernel_rfl
@[go_sem] theorem ty126z : tzero Tryz.prog 126 = some (.nilFunc) := by kernel_rfl
@[go_sem] theorem ty126 : tkind Tryz.prog 126 = some 11 ∧ tsize Tryz.prog 126 = some 1 ∧ tbytes Tryz.prog 126 = some 8 ∧ tagg Tryz.prog 126 = some false := by and_intros <;> kernel_rfl
@[go_sem] theorem ty127z : tzero Tryz.prog 127 = some (.nilFunc) := by kernel_rfl
@[go_sem] theorem ty127 : tkind Tryz.prog 127 = some 11 ∧ tsize Tryz.prog 127 = some 1 ∧ tbytes Tryz.prog 127 = some 8 ∧ tagg Tryz.prog 127 = some false := by and_intros <;> kernel_rfl
@[go_sem] theorem ty128z : tzero Tryz.prog 128 = some (.nilFunc) := by kernel_rfl
@[go_sem] theorem ty128 : tkind Tryz.prog 128 = some 11 ∧ tsize Tryz.prog 128 = some 1 ∧ tbytes Tryz.prog 128 = some 8 ∧ tagg Tryz.prog 128 = some false := by and_intros <;> kernel_rfl
@[go_sem] theorem ty129z : tzero Tryz.prog 129 = some (.tuple #[.slice none 0 0, .bool false]) := by kernel_rfl
@[go_sem] theorem ty129 : tkind Tryz.prog 129 = some 0 ∧ tsize Tryz.prog 129 = some 1 ∧ tbytes Tryz.prog 129 = some 0 ∧ tagg Tryz.prog 129 = some false := by and_intros <;> kernel_rfl
@[go_sem] theorem ty130z : tzero Tryz.prog 130 = some (.nilFunc) := by kernel_rfl
@[go_sem] theorem ty130 : tkind Tryz.prog 130 = some 11 ∧ tsize Tryz.prog 130 = some 1 ∧ tbytes Tryz.prog 130 = some 8 ∧ tagg Tryz.prog 130 = some false := by and_intros <;> kernel_rfl
@[go_sem] theorem ty131z : tzero Tryz.prog 131 = some (.nilFunc) := by kernel_rfl
@[go_sem] theorem ty131 : tkind Tryz.prog 131 = some 11 ∧ tsize Tryz.prog 131 = some 1 ∧ tbytes Tryz.prog 131 = some 8 ∧ tagg Tryz.prog 131 = some false := by and_intros <;> kernel_rfl
@[go_sem] theorem ty132z : tzero Tryz.prog 132 = some (.nilFunc) := by kernel_rfl
@[go_sem] theorem ty132 : tkind Tryz.prog 132 = some 11 ∧ tsize Tryz.prog 132 = some 1 ∧ tbytes Tryz.prog 132 = some 8 ∧ tagg Tryz.prog 132 = some false := by and_intros <;> kernel_rfl
@[go_sem] theorem ty133z : tzero Tryz.prog 133 = some (.nilFunc) := by kernel_rfl
@[go_sem] theorem ty133 : tkind Tryz.prog 133 = some 11 ∧ tsize Tryz.prog 133 = some 1 ∧ tbytes Tryz.prog 133 = some 8 ∧ tagg Tryz.prog 133 = some false := by and_intros <;> kernel_rfl
@[go_sem] theorem ty134z : tzero Tryz.prog 134 = some (.nilFunc) := by kernel_rfl
@[go_sem] theorem ty134 : tkind Tryz.prog 134 = some 11 ∧ tsize Tryz.prog 134 = some 1 ∧ tbytes Tryz.prog 134 = some 8 ∧ tagg Tryz.prog 134 = some false := by and_intros <;> kernel_rfl
@[go_sem] theorem ty135z : tzero Tryz.prog 135 = some (.nilFunc) := by kernel_rfl
@[go_sem] theorem ty135 : tkind Tryz.prog 135 = some 11 ∧ tsize Tryz.prog 135 = some 1 ∧ tbytes Tryz.prog 135 = some 8 ∧ tagg Tryz.prog 135 = some false := by and_intros <;> kernel_rfl
@[go_sem] theorem ty136z : tzero Tryz.prog 136 = some (.agg #[.int .i32 0, .int .i32 0, .int .i64 0]) := by kernel_rfl
@[go_sem] theorem ty136 : tkind Tryz.prog 136 = some 7 ∧ tsize Tryz.prog 136 = some 3 ∧ tbytes Tryz.prog 136 = some 16 ∧ tagg Tryz.prog 136 = some true ∧ tsizeA Tryz.prog 136 = some 3 ∧ tfield Tryz.prog 136 0 = some (0, 1) ∧ tfo Tryz.prog 136 0 = some 0 ∧ tfield Tryz.prog 136 1 = some (1, 1) ∧ tfo Tryz.prog 136 1 = some 1 ∧ tfield Tryz.prog 136 2 = some (2, 1) ∧ tfo Tryz.prog 136 2 = some 2 ∧ tfields Tryz.prog 136 = some [(0, 1), (1, 1), (2, 1)] := by and_intros <;> kernel_rfl
@[go_sem] theorem ty137z : tzero Tryz.prog 137 = some (.agg #[.int .i32 0, .int .i32 0, .int .i64 0]) := by kernel_rfl
@[go_sem] theorem ty137 : tkind Tryz.prog 137 = some 7 ∧ tsize Tryz.prog 137 = some 3 ∧ tbytes Tryz.prog 137 = some 16 ∧ tagg Tryz.prog 137 = some true ∧ tflat Tryz.prog 137 = some [(0, 8), (1, 8), (2, 8)] ∧ tsizeA Tryz.prog 137 = some 3 ∧ tfield Tryz.prog 137 0 = some (0, 1) ∧ tfo Tryz.prog 137 0 = some 0 ∧ tfield Tryz.prog 137 1 = some (1, 1) ∧ tfo Tryz.prog 137 1 = some 1 ∧ tfield Tryz.prog 137 2 = some (2, 1) ∧ tfo Tryz.prog 137 2 = some 2 ∧ tfields Tryz.prog 137 = some [(0, 1), (1, 1), (2, 1)] := by and_intros <;> kernel_rfl
@[go_sem] theorem ty138z : tzero Tryz.prog 138 = some (.agg #[.int .i32 0, .int .i32 0, .int .i64 0, .int .i32 0, .int .i32 0, .int .i64 0, .int .i32 0, .int .i32 0, .int .i64 0, .int .i32 0, .int .i32 0, .int .i64 0, .int .i32 0, .int .i32 0, .int .i64 0, .int .i32 0, .int .i32 0, .int .i64 0, .int .i32 0, .int .i32 0, .int .i64 0, .int .i32 0, .int .i32 0, .int .i64 0, .int .i32 0, .int .i32 0, .int .i64 0, .int .i32 0, .int .i32 0, .int .i64 0, .int .i32 0, .int .i32 0, .int .i64 0, .int .i32 0, .int .i32 0, .int .i64 0, .int .i32 0, .int .i32 0, .int .i64 0, .int .i32 0, .int .i32 0, .int .i64 0, .int .i32 0, .int .i32 0, .int .i64 0, .int .i32 0, .int .i32 0, .int .i64 0]) := by kernel_rfl
@[go_sem] theorem ty138 : tkind Tryz.prog 138 = some 2 ∧ tsize Tryz.prog 138 = some 48 ∧ tbytes Tryz.prog 138 = some 256 ∧ tagg Tryz.prog 138 = some true ∧ tarr Tryz.prog 138 = some (16, 3) ∧ tsizeA Tryz.prog 138 = some 48 ∧ telem Tryz.prog 138 = some 137 ∧ tlen Tryz.prog 138 = some 16 := by and_intros <;> kernel_rfl
@[go_sem] theorem ty139z : tzero Tryz.prog 139 = some (.nilFunc) := by kernel_rfl
@[go_sem] theorem ty139 : tkind Tryz.prog 139 = some 11 ∧ tsize Tryz.prog 139 = some 1 ∧ tbytes Tryz.prog 139 = some 8 ∧ tagg Tryz.prog 139 = some false := by and_intros <;> kernel_rfl
@[go_sem] theorem ty140z : tzero Tryz.prog 140 = some (.nilFunc) := by kernel_rfl
@[go_sem] theorem ty140 : tkind Tryz.prog 140 = some 11 ∧ tsize Tryz.prog 140 = some 1 ∧ tbytes Tryz.prog 140 = some 8 ∧ tagg Tryz.prog 140 = some false := by and_intros <;> kernel_rfl
@[go_sem] theorem ty141z : tzero Tryz.prog 141 = some (.nilFunc) := by kernel_rfl
@[go_sem] theorem ty141 : tkind Tryz.prog 141 = some 11 ∧ tsize Tryz.prog 141 = some 1 ∧ tbytes Tryz.prog 141 = some 8 ∧ tagg Tryz.prog 141 = some false := by and_intros <;> kernel_rfl
@[go_sem] theorem ty142z : tzero Tryz.prog 142 = some (.nilFunc) := by kernel_rfl
@[go_sem] theorem ty142 : tkind Tryz.prog 142 = some 11 ∧ tsize Tryz.prog 142 = some 1 ∧ tbytes Tryz.prog 142 = some 8 ∧ tagg Tryz.prog 142 = some false := by and_intros <;> kernel_rfl
@[go_sem] theorem ty143z : tzero Tryz.prog 143 = some (.nilFunc) := by kernel_rfl
@[go_sem] theorem ty143 : tkind Tryz.prog 143 = some 11 ∧ tsize Tryz.prog 143 = some 1 ∧ tbytes Tryz.prog 143 = some 8 ∧ tagg Tryz.prog 143 = some false := by and_intros <;> kernel_rfl
@[go_sem] theorem ty144z : tzero Tryz.prog 144 = some (.nilFunc) := by kernel_rfl
@[go_sem] theorem ty144 : tkind Tryz.prog 144 = some 11 ∧ tsize Tryz.prog 144 = some 1 ∧ tbytes Tryz.prog 144 = some 8 ∧ tagg Tryz.prog 144 = some false := by and_intros <;> kernel_rfl
@[go_sem] theorem ty145z : tzero Tryz.prog 145 = some (.nilFunc) := by kernel_rfl
@[go_sem] theorem ty145 : tkind Tryz.prog 145 = some 11 ∧ tsize Tryz.prog 145 = some 1 ∧ tbytes Tryz.prog 145 = some 8 ∧ tagg Tryz.prog 145 = some false := by and_intros <;> kernel_rfl
@[go_sem] theorem ty146z : tzero Tryz.prog 146 = some (.nilFunc) := by kernel_rfl
@[go_sem] theorem ty146 : tkind Tryz.prog 146 = some 11 ∧ tsize Tryz.prog 146 = some 1 ∧ tbytes Tryz.prog 146 = some 8 ∧ tagg Tryz.prog 146 = some false := by and_intros <;> kernel_rfl
@[go_sem] theorem ty147z : tzero Tryz.prog 147 = some (.nilFunc) := by kernel_rfl
@[go_sem] theorem ty147 : tkind Tryz.prog 147 = some 11 ∧ tsize Tryz.prog 147 = some 1 ∧ tbytes Tryz.prog 147 = some 8 ∧ tagg Tryz.prog 147 = some false := by and_intros <;> kernel_rfl
@[go_sem] theorem ty148z : tzero Tryz.prog 148 = some (.tuple #[.int .i32 0, .int .i64 0, .bool false]) := by kernel_rfl
@[go_sem] theorem ty148 : tkind Tryz.prog 148 = some 0 ∧ tsize Tryz.prog 148 = some 1 ∧ tbytes Tryz.prog 148 = some 0 ∧ tagg Tryz.prog 148 = some false := by and_intros <;> kernel_rfl
@[go_sem] theorem ty149z : tzero Tryz.prog 149 = some (.nilFunc) := by kernel_rfl
@[go_sem] theorem ty149 : tkind Tryz.prog 149 = some 11 ∧ tsize Tryz.prog 149 = some 1 ∧ tbytes Tryz.prog 149 = some 8 ∧ tagg Tryz.prog 149 = some false := by and_intros <;> kernel_rfl
@[go_sem] theorem ty150z : tzero Tryz.prog 150 = some (.pointer none) := by kernel_rfl
@[go_sem] theorem ty150 : tkind Tryz.prog 150 = some 4 ∧ tsize Tryz.prog 150 = some 1 ∧ tbytes Tryz.prog 150 = some 8 ∧ tagg Tryz.prog 150 = some false ∧ telem Tryz.prog 150 = some 116 := by and_intros <;> kernel_rfl
@[go_sem] theorem ty151z : tzero Tryz.prog 151 = some (.nilFunc) := by kernel_rfl
@[go_sem] theorem ty151 : tkind Tryz.prog 151 = some 11 ∧ tsize Tryz.prog 151 = some 1 ∧ tbytes Tryz.prog 151 = some 8 ∧ tagg Tryz.prog 151 = some false := by and_intros <;> kernel_rfl
@[go_sem] theorem ty152z : tzero Tryz.prog 152 = some (.nilFunc) := by kernel_rfl
@[go_sem] theorem ty152 : tkind Tryz.prog 152 = some 11 ∧ tsize Tryz.prog 152 = some 1 ∧ tbytes Tryz.prog 152 = some 8 ∧ tagg Tryz.prog 152 = some false := by and_intros <;> kernel_rfl
@[go_sem] theorem ty153z : tzero Tryz.prog 153 = some (.int .u64 0) := by kernel_rfl
@[go_sem] theorem ty153 : tkind Tryz.prog 153 = some 8 ∧ tsize Tryz.prog 153 = some 1 ∧ tbytes Tryz.prog 153 = some 8 ∧ tagg Tryz.prog 153 = some false ∧ tint Tryz.prog 153 = some .u64 := by and_intros <;> kernel_rfl
@[go_sem] theorem ty154z : tzero Tryz.prog 154 = some (.tuple #[.int .u64 0, .int .u64 0]) := by kernel_rfl
@[go_sem] theorem ty154 : tkind Tryz.prog 154 = some 0 ∧ tsize Tryz.prog 154 = some 1 ∧ tbytes Tryz.prog 154 = some 0 ∧ tagg Tryz.prog 154 = some false := by and_intros <;> kernel_rfl
@[go_sem] theorem ty155z : tzero Tryz.prog 155 = some (.nilFunc) := by kernel_rfl
@[go_sem] theorem ty155 : tkind Tryz.prog 155 = some 11 ∧ tsize Tryz.prog 155 = some 1 ∧ tbytes Tryz.prog 155 = some 8 ∧ tagg Tryz.prog 155 = some false := by and_intros <;> kernel_rfl
@[go_sem] theorem ty156z : tzero Tryz.prog 156 = some (.nilFunc) := by kernel_rfl
@[go_sem] theorem ty156 : tkind Tryz.prog 156 = some 11 ∧ tsize Tryz.prog 156 = some 1 ∧ tbytes Tryz.prog 156 = some 8 ∧ tagg Tryz.prog 156 = some false := by and_intros <;> kernel_rfl
@[go_sem] theorem ty157z : tzero Tryz.prog 157 = some (.pointer none) := by kernel_rfl
@[go_sem] theorem ty157 : tkind Tryz.prog 157 = some 4 ∧ tsize Tryz.prog 157 = some 1 ∧ tbytes Tryz.prog 157 = some 8 ∧ tagg Tryz.prog 157 = some false ∧ telem Tryz.prog 157 = some 38 := by and_intros <;> kernel_rfl
@[go_sem] theorem ty158z : tzero Tryz.prog 158 = some (.nilFunc) := by kernel_rfl
@[go_sem] theorem ty158 : tkind Tryz.prog 158 = some 11 ∧ tsize Tryz.prog 158 = some 1 ∧ tbytes Tryz.prog 158 = some 8 ∧ tagg Tryz.prog 158 = some false := by and_intros <;> kernel_rfl
@[go_sem] theorem ty159z : tzero Tryz.prog 159 = some (.tuple #[.int .u8 0, .bool false]) := by kernel_rfl
@[go_sem] theorem ty159 : tkind Tryz.prog 159 = some 0 ∧ tsize Tryz.prog 159 = some 1 ∧ tbytes Tryz.prog 159 = some 0 ∧ tagg Tryz.prog 159 = some false := by and_intros <;> kernel_rfl
@[go_sem] theorem ty160z : tzero Tryz.prog 160 = some (.nilFunc) := by kernel_rfl
@[go_sem] theorem ty160 : tkind Tryz.prog 160 = some 11 ∧ tsize Tryz.prog 160 = some 1 ∧ tbytes Tryz.prog 160 = some 8 ∧ tagg Tryz.prog 160 = some false := by and_intros <;> kernel_rfl
@[go_sem] theorem ty161z : tzero Tryz.prog 161 = some (.nilFunc) := by kernel_rfl
@[go_sem] theorem ty161 : tkind Tryz.prog 161 = some 11 ∧ tsize Tryz.prog 161 = some 1 ∧ tbytes Tryz.prog 161 = some 8 ∧ tagg Tryz.prog 161 = some false := by and_intros <;> kernel_rfl
@[go_sem] theorem ty162z : tzero Tryz.prog 162 = some (.nilFunc) := by kernel_rfl
@[go_sem] theorem ty162 : tkind Tryz.prog 162 = some 11 ∧ tsize Tryz.prog 162 = some 1 ∧ tbytes Tryz.prog 162 = some 8 ∧ tagg Tryz.prog 162 = some false := by and_intros <;> kernel_rfl
@[go_sem] theorem ty163z : tzero Tryz.prog 163 = some (.agg #[.int .i64 0, .int .i64 0, .int .i64 0, .int .i64 0]) := by kernel_rfl
@[go_sem] theorem ty163 : tkind Tryz.prog 163 = some 7 ∧ tsize Tryz.prog 163 = some 4 ∧ tbytes Tryz.prog 163 = some 32 ∧ tagg Tryz.prog 163 = some true ∧ tsizeA Tryz.prog 163 = some 4 ∧ tfield Tryz.prog 163 0 = some (0, 1) ∧ tfo Tryz.prog 163 0 = some 0 ∧ tfield Tryz.prog 163 1 = some (1, 1) ∧ tfo Tryz.prog 163 1 = some 1 ∧ tfield Tryz.prog 163 2 = some (2, 1) ∧ tfo Tryz.prog 163 2 = some 2 ∧ tfield Tryz.prog 163 3 = some (3, 1) ∧ tfo Tryz.prog 163 3 = some 3 ∧ tfields Tryz.prog 163 = some [(0, 1), (1, 1), (2, 1), (3, 1)] := by and_intros <;> kernel_rfl
@[go_sem] theorem ty164z : tzero Tryz.prog 164 = some (.agg #[.int .i64 0, .int .i64 0, .int .i64 0, .int .i64 0]) := by kernel_rfl
@[go_sem] theorem ty164 : tkind Tryz.prog 164 = some 7 ∧ tsize Tryz.prog 164 = some 4 ∧ tbytes Tryz.prog 164 = some 32 ∧ tagg Tryz.prog 164 = some true ∧ tflat Tryz.prog 164 = some [(0, 8), (1, 8), (2, 8), (3, 8)] ∧ tsizeA Tryz.prog 164 = some 4 ∧ tfield Tryz.prog 164 0 = some (0, 1) ∧ tfo Tryz.prog 164 0 = some 0 ∧ tfield Tryz.prog 164 1 = some (1, 1) ∧ tfo Tryz.prog 164 1 = some 1 ∧ tfield Tryz.prog 164 2 = some (2, 1) ∧ tfo Tryz.prog 164 2 = some 2 ∧ tfield Tryz.prog 164 3 = some (3, 1) ∧ tfo Tryz.prog 164 3 = some 3 ∧ tfields Tryz.prog 164 = some [(0, 1), (1, 1), (2, 1), (3, 1)] := by and_intros <;> kernel_rfl
@[go_sem] theorem ty165z : tzero Tryz.prog 165 = some (.pointer none) := by kernel_rfl
@[go_sem] theorem ty165 : tkind Tryz.prog 165 = some 4 ∧ tsize Tryz.prog 165 = some 1 ∧ tbytes Tryz.prog 165 = some 8 ∧ tagg Tryz.prog 165 = some false ∧ telem Tryz.prog 165 = some 5 := by and_intros <;> kernel_rfl
@[go_sem] theorem ty166z : tzero Tryz.prog 166 = some (.int .u32 0) := by kernel_rfl
@[go_sem] theorem ty166 : tkind Tryz.prog 166 = some 8 ∧ tsize Tryz.prog 166 = some 1 ∧ tbytes Tryz.prog 166 = some 4 ∧ tagg Tryz.prog 166 = some false ∧ tint Tryz.prog 166 = some .u32 := by and_intros <;> kernel_rfl
@[go_sem] theorem ty167z : tzero Tryz.prog 167 = some (.tuple #[.int .u32 0, .int .u32 0]) := by kernel_rfl
@[go_sem] theorem ty167 : tkind Tryz.prog 167 = some 0 ∧ tsize Tryz.prog 167 = some 1 ∧ tbytes Tryz.prog 167 = some 0 ∧ tagg Tryz.prog 167 = some false := by and_intros <;> kernel_rfl
@[go_sem] theorem ty168z : tzero Tryz.prog 168 = some (.nilFunc) := by kernel_rfl
@[go_sem] theorem ty168 : tkind Tryz.prog 168 = some 11 ∧ tsize Tryz.prog 168 = some 1 ∧ tbytes Tryz.prog 168 = some 8 ∧ tagg Tryz.prog 168 = some false := by and_intros <;> kernel_rfl
@[go_sem] theorem ty169z : tzero Tryz.prog 169 = some (.int .u64 0) := by kernel_rfl
@[go_sem] theorem ty169 : tkind Tryz.prog 169 = some 8 ∧ tsize Tryz.prog 169 = some 1 ∧ tbytes Tryz.prog 169 = some 8 ∧ tagg Tryz.prog 169 = some false ∧ tint Tryz.prog 169 = some .u64 := by and_intros <;> kernel_rfl
@[go_sem] theorem ty170z : tzero Tryz.prog 170 = some (.tuple #[.int .u64 0, .int .u64 0]) := by kernel_rfl
@[go_sem] theorem ty170 : tkind Tryz.prog 170 = some 0 ∧ tsize Tryz.prog 170 = some 1 ∧ tbytes Tryz.prog 170 = some 0 ∧ tagg Tryz.prog 170 = some false := by and_intros <;> kernel_rfl
@[go_sem] theorem ty171z : tzero Tryz.prog 171 = some (.nilFunc) := by kernel_rfl
@[go_sem] theorem ty171 : tkind Tryz.prog 171 = some 11 ∧ tsize Tryz.prog 171 = some 1 ∧ tbytes Tryz.prog 171 = some 8 ∧ tagg Tryz.prog 171 = some false := by and_intros <;> kernel_rfl
@[go_sem] theorem ty172z : tzero Tryz.prog 172 = some (.nilFunc) := by kernel_rfl
@[go_sem] theorem ty172 : tkind Tryz.prog 172 = some 11 ∧ tsize Tryz.prog 172 = some 1 ∧ tbytes Tryz.prog 172 = some 8 ∧ tagg Tryz.prog 172 = some false := by and_intros <;> kernel_rfl
@[go_sem] theorem ty173z : tzero Tryz.prog 173 = some (.nilFunc) := by kernel_rfl
@[go_sem] theorem ty173 : tkind Tryz.prog 173 = some 11 ∧ tsize Tryz.prog 173 = some 1 ∧ tbytes Tryz.prog 173 = some 8 ∧ tagg Tryz.prog 173 = some false := by and_intros <;> kernel_rfl
@[go_sem] theorem ty174z : tzero Tryz.prog 174 = some (.nilFunc) := by kernel_rfl
@[go_sem] theorem ty174 : tkind Tryz.prog 174 = some 11 ∧ tsize Tryz.prog 174 = some 1 ∧ tbytes Tryz.prog 174 = some 8 ∧ tagg Tryz.prog 174 = some false := by and_intros <;> kernel_rfl
@[go_sem] theorem ty175z : tzero Tryz.prog 175 = some (.agg #[.int .u8 0, .int .u8 0, .int .u8 0, .int .u8 0, .int .u8 0, .int .u8 0, .int .u8 0, .int .u8 0]) := by kernel_rfl
@[go_sem] theorem ty175 : tkind Tryz.prog 175 = some 2 ∧ tsize Tryz.prog 175 = some 8 ∧ tbytes Tryz.prog 175 = some 8 ∧ tagg Tryz.prog 175 = some true ∧ tarr Tryz.prog 175 = some (8, 1) ∧ tsizeA Tryz.prog 175 = some 8 ∧ telem Tryz.prog 175 = some 5 ∧ tlen Tryz.prog 175 = some 8 := by and_intros <;> kernel_rfl
@[go_sem] theorem ty176z : tzero Tryz.prog 176 = some (.nilFunc) := by kernel_rfl
@[go_sem] theorem ty176 : tkind Tryz.prog 176 = some 11 ∧ tsize Tryz.prog 176 = some 1 ∧ tbytes Tryz.prog 176 = some 8 ∧ tagg Tryz.prog 176 = some false := by and_intros <;> kernel_rfl
@[go_sem] theorem ty177z : tzero Tryz.prog 177 = some (.nilFunc) := by kernel_rfl
@[go_sem] theorem ty177 : tkind Tryz.prog 177 = some 11 ∧ tsize Tryz.prog 177 = some 1 ∧ tbytes Tryz.prog 177 = some 8 ∧ tagg Tryz.prog 177 = some false := by and_intros <;> kernel_rfl
@[go_sem] theorem ty178z : tzero Tryz.prog 178 = some (.nilFunc) := by kernel_rfl
@[go_sem] theorem ty178 : tkind Tryz.prog 178 = some 11 ∧ tsize Tryz.prog 178 = some 1 ∧ tbytes Tryz.prog 178 = some 8 ∧ tagg Tryz.prog 178 = some false := by and_intros <;> kernel_rfl
@[go_sem] theorem ty179z : tzero Tryz.prog 179 = some (.nilFunc) := by kernel_rfl
@[go_sem] theorem ty179 : tkind Tryz.prog 179 = some 11 ∧ tsize Tryz.prog 179 = some 1 ∧ tbytes Tryz.prog 179 = some 8 ∧ tagg Tryz.prog 179 = some false := by and_intros <;> kernel_rfl
@[go_sem] theorem ty180z : tzero Tryz.prog 180 = some (.nilFunc) := by kernel_rfl
@[go_sem] theorem ty180 : tkind Tryz.prog 180 = some 11 ∧ tsize Tryz.prog 180 = some 1 ∧ tbytes Tryz.prog 180 = some 8 ∧ tagg Tryz.prog 180 = some false := by and_intros <;> kernel_rfl
@[go_sem] theorem ty181z : tzero Tryz.prog 181 = some (.agg #[.pointer none, .pointer none, .pointer none, .string ⟨#[]⟩]) := by kernel_rfl
@[go_sem] theorem ty181 : tkind Tryz.prog 181 = some 7 ∧ tsize Tryz.prog 181 = some 4 ∧ tbytes Tryz.prog 181 = some 40 ∧ tagg Tryz.prog 181 = some true ∧ tsizeA Tryz.prog 181 = some 4 ∧ tfield Tryz.prog 181 0 = some (0, 1) ∧ tfo Tryz.prog 181 0 = some 0 ∧ tfield Tryz.prog 181 1 = some (1, 1) ∧ tfo Tryz.prog 181 1 = some 1 ∧ tfield Tryz.prog 181 2 = some (2, 1) ∧ tfo Tryz.prog 181 2 = some 2 ∧ tfield Tryz.prog 181 3 = some (3, 1) ∧ tfo Tryz.prog 181 3 = some 3 ∧ tfields Tryz.prog 181 = some [(0, 1), (1, 1), (2, 1), (3, 1)] := by and_intros <;> kernel_rfl
@[go_sem] theorem ty182z : tzero Tryz.prog 182 = some (.agg #[.pointer none, .pointer none, .pointer none, .string ⟨#[]⟩]) := by kernel_rfl
@[go_sem] theorem ty182 : tkind Tryz.prog 182 = some 7 ∧ tsize Tryz.prog 182 = some 4 ∧ tbytes Tryz.prog 182 = some 40 ∧ tagg Tryz.prog 182 = some true ∧ tsizeA Tryz.prog 182 = some 4 ∧ tfield Tryz.prog 182 0 = some (0, 1) ∧ tfo Tryz.prog 182 0 = some 0 ∧ tfield Tryz.prog 182 1 = some (1, 1) ∧ tfo Tryz.prog 182 1 = some 1 ∧ tfield Tryz.prog 182 2 = some (2, 1) ∧ tfo Tryz.prog 182 2 = some 2 ∧ tfield Tryz.prog 182 3 = some (3, 1) ∧ tfo Tryz.prog 182 3 = some 3 ∧ tfields Tryz.prog 182 = some [(0, 1), (1, 1), (2, 1), (3, 1)] := by and_intros <;> kernel_rfl
@[go_sem] theorem ty183z : tzero Tryz.prog 183 = some (.agg #[]) := by kernel_rfl
@[go_sem] theorem ty183 : tkind Tryz.prog 183 = some 2 ∧ tsize Tryz.prog 183 = some 0 ∧ tbytes Tryz.prog 183 = some 0 ∧ tagg Tryz.prog 183 = some true ∧ tarr Tryz.prog 183 = some (0, 1) ∧ tsizeA Tryz.prog 183 = some 0 ∧ telem Tryz.prog 183 = some 16 ∧ tlen Tryz.prog 183 = some 0 := by and_intros <;> kernel_rfl
@[go_sem] theorem ty184z : tzero Tryz.prog 184 = some (.agg #[]) := by kernel_rfl
@[go_sem] theorem ty184 : tkind Tryz.prog 184 = some 7 ∧ tsize Tryz.prog 184 = some 0 ∧ tbytes Tryz.prog 184 = some 0 ∧ tagg Tryz.prog 184 = some true ∧ tsizeA Tryz.prog 184 = some 0 ∧ tfield Tryz.prog 184 0 = some (0, 0) ∧ tfields Tryz.prog 184 = some [(0, 0)] := by and_intros <;> kernel_rfl
@[go_sem] theorem ty185z : tzero Tryz.prog 185 = some (.agg #[]) := by kernel_rfl
@[go_sem] theorem ty185 : tkind Tryz.prog 185 = some 7 ∧ tsize Tryz.prog 185 = some 0 ∧ tbytes Tryz.prog 185 = some 0 ∧ tagg Tryz.prog 185 = some true ∧ tsizeA Tryz.prog 185 = some 0 ∧ tfield Tryz.prog 185 0 = some (0, 0) ∧ tfields Tryz.prog 185 = some [(0, 0)] := by and_intros <;> kernel_rfl
@[go_sem] theorem ty186z : tzero Tryz.prog 186 = some (.int .u8 0) := by kernel_rfl
@[go_sem] theorem ty186 : tkind Tryz.prog 186 = some 8 ∧ tsize Tryz.prog 186 = some 1 ∧ tbytes Tryz.prog 186 = some 1 ∧ tagg Tryz.prog 186 = some false ∧ tint Tryz.prog 186 = some .u8 := by and_intros <;> kernel_rfl
@[go_sem] theorem ty187z : tzero Tryz.prog 187 = some (.int .u8 0) := by kernel_rfl
@[go_sem] theorem ty187 : tkind Tryz.prog 187 = some 8 ∧ tsize Tryz.prog 187 = some 1 ∧ tbytes Tryz.prog 187 = some 1 ∧ tagg Tryz.prog 187 = some false ∧ tint Tryz.prog 187 = some .u8 := by and_intros <;> kernel_rfl
@[go_sem] theorem ty188z : tzero Tryz.prog 188 = some (.nilFunc) := by kernel_rfl
@[go_sem] theorem ty188 : tkind Tryz.prog 188 = some 11 ∧ tsize Tryz.prog 188 = some 1 ∧ tbytes Tryz.prog 188 = some 8 ∧ tagg Tryz.prog 188 = some false := by and_intros <;> kernel_rfl
@[go_sem] theorem ty189z : tzero Tryz.prog 189 = some (.int .i32 0) := by kernel_rfl
@[go_sem] theorem ty189 : tkind Tryz.prog 189 = some 8 ∧ tsize Tryz.prog 189 = some 1 ∧ tbytes Tryz.prog 189 = some 4 ∧ tagg Tryz.prog 189 = some false ∧ tint Tryz.prog 189 = some .i32 := by and_intros <;> kernel_rfl
@[go_sem] theorem ty190z : tzero Tryz.prog 190 = some (.int .i32 0) := by kernel_rfl
@[go_sem] theorem ty190 : tkind Tryz.prog 190 = some 8 ∧ tsize Tryz.prog 190 = some 1 ∧ tbytes Tryz.prog 190 = some 4 ∧ tagg Tryz.prog 190 = some false ∧ tint Tryz.prog 190 = some .i32 := by and_intros <;> kernel_rfl
@[go_sem] theorem ty191z : tzero Tryz.prog 191 = some (.agg #[.int .u64 0, .int .u64 0, .int .u32 0, .int .u8 0, .int .u8 0, .int .u8 0, .int .u8 0, .nilFunc, .pointer none, .int .i32 0, .int .i32 0]) := by kernel_rfl
@[go_sem] theorem ty191 : tkind Tryz.prog 191 = some 7 ∧ tsize Tryz.prog 191 = some 11 ∧ tbytes Tryz.prog 191 = some 48 ∧ tagg Tryz.prog 191 = some true ∧ tsizeA Tryz.prog 191 = some 11 ∧ tfield Tryz.prog 191 0 = some (0, 1) ∧ tfo Tryz.prog 191 0 = some 0 ∧ tfield Tryz.prog 191 1 = some (1, 1) ∧ tfo Tryz.prog 191 1 = some 1 ∧ tfield Tryz.prog 191 2 = some (2, 1) ∧ tfo Tryz.prog 191 2 = some 2 ∧ tfield Tryz.prog 191 3 = some (3, 1) ∧ tfo Tryz.prog 191 3 = some 3 ∧ tfield Tryz.prog 191 4 = some (4, 1) ∧ tfo Tryz.prog 191 4 = some 4 ∧ tfield Tryz.prog 191 5 = some (5, 1) ∧ tfo Tryz.prog 191 5 = some 5 ∧ tfield Tryz.prog 191 6 = some (6, 1) ∧ tfo Tryz.prog 191 6 = some 6 ∧ tfield Tryz.prog 191 7 = some (7, 1) ∧ tfo Tryz.prog 191 7 = some 7 ∧ tfield Tryz.prog 191 8 = some (8, 1) ∧ tfo Tryz.prog 191 8 = some 8 ∧ tfield Tryz.prog 191 9 = some (9, 1) ∧ tfo Tryz.prog 191 9 = some 9 ∧ tfield Tryz.prog 191 10 = some (10, 1) ∧ tfo Tryz.prog 191 10 = some 10 ∧ tfields Tryz.prog 191 = some [(0, 1), (1, 1), (2, 1), (3, 1), (4, 1), (5, 1), (6, 1), (7, 1), (8, 1), (9, 1), (10, 1)] := by and_intros <;> kernel_rfl
@[go_sem] theorem ty192z : tzero Tryz.prog 192 = some (.agg #[.int .u64 0, .int .u64 0, .int .u32 0, .int .u8 0, .int .u8 0, .int .u8 0, .int .u8 0, .nilFunc, .pointer none, .int .i32 0, .int .i32 0]) := by kernel_rfl
@[go_sem] theorem ty192 : tkind Tryz.prog 192 = some 7 ∧ tsize Tryz.prog 192 = some 11 ∧ tbytes Tryz.prog 192 = some 48 ∧ tagg Tryz.prog 192 = some true ∧ tsizeA Tryz.prog 192 = some 11 ∧ tfield Tryz.prog 192 0 = some (0, 1) ∧ tfo Tryz.prog 192 0 = some 0 ∧ tfield Tryz.prog 192 1 = some (1, 1) ∧ tfo Tryz.prog 192 1 = some 1 ∧ tfield Tryz.prog 192 2 = some (2, 1) ∧ tfo Tryz.prog 192 2 = some 2 ∧ tfield Tryz.prog 192 3 = some (3, 1) ∧ tfo Tryz.prog 192 3 = some 3 ∧ tfield Tryz.prog 192 4 = some (4, 1) ∧ tfo Tryz.prog 192 4 = some 4 ∧ tfield Tryz.prog 192 5 = some (5, 1) ∧ tfo Tryz.prog 192 5 = some 5 ∧ tfield Tryz.prog 192 6 = some (6, 1) ∧ tfo Tryz.prog 192 6 = some 6 ∧ tfield Tryz.prog 192 7 = some (7, 1) ∧ tfo Tryz.prog 192 7 = some 7 ∧ tfield Tryz.prog 192 8 = some (8, 1) ∧ tfo Tryz.prog 192 8 = some 8 ∧ tfield Tryz.prog 192 9 = some (9, 1) ∧ tfo Tryz.prog 192 9 = some 9 ∧ tfield Tryz.prog 192 10 = some (10, 1) ∧ tfo Tryz.prog 192 10 = some 10 ∧ tfields Tryz.prog 192 = some [(0, 1), (1, 1), (2, 1), (3, 1), (4, 1), (5, 1), (6, 1), (7, 1), (8, 1), (9, 1), (10, 1)] := by and_intros <;> kernel_rfl
@[go_sem] theorem ty193z : tzero Tryz.prog 193 = some (.pointer none) := by kernel_rfl
@[go_sem] theorem ty193 : tkind Tryz.prog 193 = some 0 ∧ tsize Tryz.prog 193 = some 1 ∧ tbytes Tryz.prog 193 = some 8 ∧ tagg Tryz.prog 193 = some false := by and_intros <;> kernel_rfl
@[go_sem] theorem ty38q0 : tftype Tryz.prog 38 0 = some 3 := by kernel_rfl
end Go.Proofs.YtjfembffjjijaaaGreat
namespace Go.Proofs.YtjfembffjjijaaaGreat
open Lyc Go
set_option maxRecDepth 100000
def term_Term_Write (p0 p1 : Value) (K : Value → World → Prop) : World → Prop :=
  xO .eql 49 p0 (.pointer none) fun t8 =>
  xW t8
  (K (.tuple #[])) <|
  xU p1 51 fun t10 =>
  Loop1 (.int .i64 0) fun t11 next1 =>
  xO .lss 3 t11 t10 fun t12 =>
  xW t12
  (xI 51 p1 t11 fun t13 =>
  xL 9 t13 fun t14 =>
  Loop1 t14 fun t5 next2 =>
  xU t5 9 fun t16 =>
  xO .gtr 3 t16 (.int .i64 0) fun t17 =>
  xW t17
  (xU t5 9 fun t19 =>
  OpX Tryz.prog (.call { callee := .builtin .min, args := #[.const t19, .const (.int .i64 4096)], argTypes := #[3, 3] }) 3 fun t20 =>
  DrewW <|
  xP (.nilCheck (.const p0)) 0 fun t22 =>
  qF 94 t22 0 fun t23 =>
  qL 29 t23 fun t24 =>
  xP (.nilCheck (.const p0)) 0 fun t26 =>
  qF 94 t26 2 fun t27 =>
  xP (.nilCheck (.const p0)) 0 fun t29 =>
  qF 94 t29 1 fun t30 =>
  xP (.slice 9 (.const t5) none (some (.const t20)) none) 9 fun t33 =>
  xC 50 [.const t30, .const t33] [90, 9] 24 fun t34 =>
  xT (qZ 29 t23 t24) <|
  xC 49 [.const t27, .const t34] [92, 24] 25 fun t35 =>
  xT (qZ 29 t23 t24) <|
  xC 12 [.const t24, .const t35] [29, 25] 0 fun _ =>
  OpX Tryz.prog (.slice 9 (.const t5) (some (.const t20)) none none) 9 fun t39 =>
  next2 t39) <|
  xO .add 3 t11 (.int .i64 1) fun t40 =>
  next1 t40) <|
  DrewW <|
  xP (.nilCheck (.const p0)) 0 fun t42 =>
  qF 94 t42 3 fun t43 =>
  qL 87 t43 fun t44 =>
  xP (.nilCheck (.const p0)) 0 fun t46 =>
  qF 94 t46 0 fun t47 =>
  qL 29 t47 fun t48 =>
  xC 16 [.const t48] [29] 43 fun t49 =>
  xT (qZ 87 t43 t44) <|
  xC 51 [.const t44, .const t49] [87, 43] 0 fun _ =>
  K (.tuple #[])
theorem term_Term_Write_link (p0 p1 : Value) : Lk 21 #[p0, p1] (term_Term_Write p0 p1) := lk [p0, p1] [(10, [11]), (22, [5])] Tryz.func21 (by kernel_rfl) fun _ _ => by kernel_rfl
theorem term_Term_Write_b : Bodied Tryz.prog 21 := bd Tryz.func21 (by kernel_rfl)
def term_Term_Rows (p0 : Value) (K : Value → World → Prop) : World → Prop :=
  xO .eql 49 p0 (.pointer none) fun t4 =>
  xW t4
  (K (.int .i64 0)) <|
  OpX Tryz.prog (.nilCheck (.const p0)) 0 fun t6 =>
  xF 94 t6 3 fun t7 =>
  xL 87 t7 fun t8 =>
  xC 52 [.const t8] [87] 3 fun t9 =>
  K t9
theorem term_Term_Rows_link (p0 : Value) : Lk 22 #[p0] (term_Term_Rows p0) := lk [p0] [] Tryz.func22 (by kernel_rfl) fun _ _ => by kernel_rfl
theorem term_Term_Rows_b : Bodied Tryz.prog 22 := bd Tryz.func22 (by kernel_rfl)
def term_Term_View (p0 p1 : Value) (K : Value → World → Prop) : World → Prop :=
  xA 38 fun t4 =>
  xO .eql 49 p0 (.pointer none) fun t6 =>
  xW t6
  (OpX Tryz.prog (.build 38 #[]) 38 fun t7 =>
  xS 38 t4 t7 <|
  xD 38 t4 fun t4_1 =>
  K t4_1) <|
  DrewW <|
  xP (.nilCheck (.const p0)) 0 fun t9 =>
  qF 94 t9 3 fun t10 =>
  qL 87 t10 fun t11 =>
  xC 26 [.const p0] [49] 38 fun t13 =>
  xT (qZ 87 t10 t11) <|
  xC 56 [.const t11, .const t13, .const p1] [87, 38, 3] 38 fun t15 =>
  xS 38 t4 t15 <|
  xD 38 t4 fun t4_2 =>
  K t4_2
theorem term_Term_View_link (p0 p1 : Value) : Lk 24 #[p0, p1] (term_Term_View p0 p1) := lk [p0, p1] [] Tryz.func24 (by kernel_rfl) fun _ _ => by kernel_rfl
theorem term_Term_View_b : Bodied Tryz.prog 24 := bd Tryz.func24 (by kernel_rfl)
def term_Term_Grid (p0 : Value) (K : Value → World → Prop) : World → Prop :=
  xA 38 fun t2 =>
  xO .eql 49 p0 (.pointer none) fun t4 =>
  xW t4
  (OpX Tryz.prog (.build 38 #[]) 38 fun t5 =>
  xS 38 t2 t5 <|
  xD 38 t2 fun t2_1 =>
  K t2_1) <|
  OpX Tryz.prog (.nilCheck (.const p0)) 0 fun t7 =>
  xF 94 t7 0 fun t8 =>
  xL 29 t8 fun t9 =>
  xC 13 [.const t9] [29] 38 fun t10 =>
  xS 38 t2 t10 <|
  xD 38 t2 fun t2_2 =>
  K t2_2
theorem term_Term_Grid_link (p0 : Value) : Lk 26 #[p0] (term_Term_Grid p0) := lk [p0] [] Tryz.func26 (by kernel_rfl) fun _ _ => by kernel_rfl
theorem term_Term_Grid_b : Bodied Tryz.prog 26 := bd Tryz.func26 (by kernel_rfl)
def term_Term_Cursor (p0 : Value) (K : Value → World → Prop) : World → Prop :=
  xO .eql 49 p0 (.pointer none) fun t6 =>
  xW t6
  (K (.tuple #[(.int .i64 0), (.int .i64 0), (.bool false)])) <|
  OpX Tryz.prog (.nilCheck (.const p0)) 0 fun t8 =>
  xF 94 t8 0 fun t9 =>
  xL 29 t9 fun t10 =>
  xC 14 [.const t10] [29] 40 fun t11 =>
  xE t11 0 3 fun t12 =>
  xE t11 1 3 fun t13 =>
  xE t11 2 4 fun t14 =>
  K (.tuple #[t12, t13, t14])
theorem term_Term_Cursor_link (p0 : Value) : Lk 27 #[p0] (term_Term_Cursor p0) := lk [p0] [] Tryz.func27 (by kernel_rfl) fun _ _ => by kernel_rfl
theorem term_Term_Cursor_b : Bodied Tryz.prog 27 := bd Tryz.func27 (by kernel_rfl)
def term_Term_Waits (p0 : Value) (K : Value → World → Prop) : World → Prop :=
  xO .eql 49 p0 (.pointer none) fun t4 =>
  xW t4
  (K (.bool false)) <|
  Join1 (fun k1 =>
  OpX Tryz.prog (.nilCheck (.const p0)) 0 fun t6 =>
  xF 94 t6 1 fun t7 =>
  xC 58 [.const t7] [90] 3 fun t8 =>
  xO .gtr 3 t8 (.int .i64 0) fun t9 =>
  xW t9
  (k1 (.bool true)) <|
  OpX Tryz.prog (.nilCheck (.const p0)) 0 fun t12 =>
  xF 94 t12 2 fun t13 =>
  xC 59 [.const t13] [92] 4 fun t14 =>
  xN 4 t14 fun t15 =>
  k1 t15) fun t2 =>
  K t2
theorem term_Term_Waits_link (p0 : Value) : Lk 29 #[p0] (term_Term_Waits p0) := lk [p0] [(11, [2])] Tryz.func29 (by kernel_rfl) fun _ _ => by kernel_rfl
theorem term_Term_Waits_b : Bodied Tryz.prog 29 := bd Tryz.func29 (by kernel_rfl)
def term_Term_Find (p0 p1 p2 : Value) (K : Value → World → Prop) : World → Prop :=
  xO .eql 49 p0 (.pointer none) fun t9 =>
  xW t9
  (K (.tuple #[(.int .i64 0), (.bool false)])) <|
  OpX Tryz.prog (.nilCheck (.const p0)) 0 fun t11 =>
  xF 94 t11 3 fun t12 =>
  xL 87 t12 fun t13 =>
  xC 60 [.const t13, .const p1, .const p2] [87, 9, 3] 63 fun t16 =>
  xE t16 0 3 fun t17 =>
  xE t16 1 4 fun t18 =>
  K (.tuple #[t17, t18])
theorem term_Term_Find_link (p0 p1 p2 : Value) : Lk 30 #[p0, p1, p2] (term_Term_Find p0 p1 p2) := lk [p0, p1, p2] [] Tryz.func30 (by kernel_rfl) fun _ _ => by kernel_rfl
theorem term_Term_Find_b : Bodied Tryz.prog 30 := bd Tryz.func30 (by kernel_rfl)
def term_Term_Resize (p0 p1 p2 : Value) (K : Value → World → Prop) : World → Prop :=
  xO .eql 49 p0 (.pointer none) fun t8 =>
  xW t8
  (K (.bool false)) <|
  OpX Tryz.prog (.nilCheck (.const p0)) 0 fun t10 =>
  xF 94 t10 0 fun t11 =>
  xL 29 t11 fun t12 =>
  xC 61 [.const t12, .const p1, .const p2] [29, 3, 3] 4 fun t15 =>
  K t15
theorem term_Term_Resize_link (p0 p1 p2 : Value) : Lk 31 #[p0, p1, p2] (term_Term_Resize p0 p1 p2) := lk [p0, p1, p2] [] Tryz.func31 (by kernel_rfl) fun _ _ => by kernel_rfl
theorem term_Term_Resize_b : Bodied Tryz.prog 31 := bd Tryz.func31 (by kernel_rfl)
def term_New (p0 p1 p2 : Value) (K : Value → World → Prop) : World → Prop :=
  xC 10 [.const p0, .const p1] [3, 3] 29 fun t10 =>
  xO .eql 29 t10 (.pointer none) fun t12 =>
  xW t12
  (K (.pointer none)) <|
  xC 48 [.const p2] [3] 87 fun t15 =>
  OpX Tryz.prog (.build 94 #[(0, .const t10), (3, .const t15)]) 94 fun t16 =>
  OpX Tryz.prog (.box 94 (.const t16)) 49 fun t17 =>
  K t17
theorem term_New_link (p0 p1 p2 : Value) : Lk 20 #[p0, p1, p2] (term_New p0 p1 p2) := lk [p0, p1, p2] [] Tryz.func20 (by kernel_rfl) fun _ _ => by kernel_rfl
theorem term_New_b : Bodied Tryz.prog 20 := bd Tryz.func20 (by kernel_rfl)
def escape_Parser_Feed (p0 p1 : Value) (K : Value → World → Prop) : World → Prop :=
  xU p1 24 fun t11 =>
  Loop2 (.slice none 0 0) (.int .i64 0) fun t5 t12 next1 =>
  xO .lss 3 t12 t11 fun t13 =>
  xW t13
  (Join1 (fun k2 =>
  xI 24 p1 t12 fun t14 =>
  xL 21 t14 fun t15 =>
  xC 82 [.const p0, .const t15] [119, 21] 120 fun t19 =>
  xE t19 0 34 fun t20 =>
  xE t19 1 4 fun t21 =>
  xA 34 fun t8 =>
  xS 34 t8 t20 <|
  xW t21
  (xL 34 t8 fun t24 =>
  OpX Tryz.prog (.buildSlice 25 1 #[(0, .const t24)]) 25 fun t25 =>
  OpX Tryz.prog (.call { callee := .builtin .append, args := #[.const t5, .const t25], argTypes := #[25, 25] }) 25 fun t26 =>
  k2 t26) <|
  k2 t5) fun t5_1 =>
  xO .add 3 t12 (.int .i64 1) fun t27 =>
  next1 t5_1 t27) <|
  K t5
theorem escape_Parser_Feed_link (p0 p1 : Value) : Lk 49 #[p0, p1] (escape_Parser_Feed p0 p1) := lk [p0, p1] [(8, [5, 12]), (15, [5])] Tryz.func49 (by kernel_rfl) fun _ _ => by kernel_rfl
theorem escape_Parser_Feed_b : Bodied Tryz.prog 49 := bd Tryz.func49 (by kernel_rfl)
def escape_Parser_Idle (p0 : Value) (K : Value → World → Prop) : World → Prop :=
  Join1 (fun k1 =>
  xO .eql 119 p0 (.pointer none) fun t4 =>
  xW t4
  (k1 (.bool true)) <|
  OpX Tryz.prog (.nilCheck (.const p0)) 0 fun t7 =>
  xF 92 t7 0 fun t8 =>
  xL 3 t8 fun t9 =>
  xO .eql 3 t9 (.int .i64 0) fun t10 =>
  k1 t10) fun t2 =>
  K t2
theorem escape_Parser_Idle_link (p0 : Value) : Lk 59 #[p0] (escape_Parser_Idle p0) := lk [p0] [(3, [2])] Tryz.func59 (by kernel_rfl) fun _ _ => by kernel_rfl
theorem escape_Parser_Idle_b : Bodied Tryz.prog 59 := bd Tryz.func59 (by kernel_rfl)
def escape_Parser_Step (p0 p1 : Value) (K : Value → World → Prop) : World → Prop :=
  xA 34 fun t4 =>
  xO .eql 119 p0 (.pointer none) fun t7 =>
  xW t7
  (OpX Tryz.prog (.build 34 #[]) 34 fun t8 =>
  xS 34 t4 t8 <|
  xD 34 t4 fun t4_1 =>
  K (.tuple #[t4_1, (.bool false)])) <|
  xO .eql 21 p1 (.int .i32 27) fun t11 =>
  xW t11
  (OpX Tryz.prog (.build 92 #[(0, .const (.int .i64 1))]) 92 fun t13 =>
  OpX Tryz.prog (.nilCheck (.const p0)) 0 fun t14 =>
  xS 92 t14 t13 <|
  OpX Tryz.prog (.build 34 #[]) 34 fun t15 =>
  xS 34 t4 t15 <|
  xD 34 t4 fun t4_2 =>
  K (.tuple #[t4_2, (.bool false)])) <|
  Join1 (fun k1 =>
  xO .eql 21 p1 (.int .i32 24) fun t18 =>
  xW t18
  (k1 (.bool true)) <|
  xO .eql 21 p1 (.int .i32 26) fun t21 =>
  k1 t21) fun t16 =>
  xW t16
  (xC 120 [.const p0] [119] 0 fun _ =>
  OpX Tryz.prog (.build 34 #[]) 34 fun t25 =>
  xS 34 t4 t25 <|
  xD 34 t4 fun t4_3 =>
  K (.tuple #[t4_3, (.bool false)])) <|
  Join1 (fun k2 =>
  xO .lss 21 p1 (.int .i32 0) fun t28 =>
  xW t28
  (k2 (.bool true)) <|
  xO .geq 21 p1 (.int .i32 127) fun t31 =>
  xW t31
  (xO .leq 21 p1 (.int .i32 159) fun t34 =>
  xW t34
  (k2 (.bool true)) <|
  xO .gtr 21 p1 (.int .i32 1114111) fun t39 =>
  k2 t39) <|
  xO .gtr 21 p1 (.int .i32 1114111) fun t39_1 =>
  k2 t39_1) fun t26 =>
  xW t26
  (OpX Tryz.prog (.build 34 #[]) 34 fun t41 =>
  xS 34 t4 t41 <|
  xD 34 t4 fun t4_4 =>
  K (.tuple #[t4_4, (.bool false)])) <|
  Join1 (fun k3 =>
  xO .lss 21 p1 (.int .i32 32) fun t44 =>
  xW t44
  (OpX Tryz.prog (.nilCheck (.const p0)) 0 fun t47 =>
  xF 92 t47 0 fun t48 =>
  xL 3 t48 fun t49 =>
  xO .eql 3 t49 (.int .i64 4) fun t50 =>
  k3 t50) <|
  k3 (.bool false)) fun t42 =>
  xW t42
  (Join0 (fun k4 =>
  xO .eql 21 p1 (.int .i32 7) fun t53 =>
  xW t53
  (xC 120 [.const p0] [119] 0 fun _ =>
  k4) <|
  k4) <|
  OpX Tryz.prog (.build 34 #[]) 34 fun t56 =>
  xS 34 t4 t56 <|
  xD 34 t4 fun t4_5 =>
  K (.tuple #[t4_5, (.bool false)])) <|
  xO .lss 21 p1 (.int .i32 32) fun t59 =>
  xW t59
  (OpX Tryz.prog (.build 34 #[(0, .const (.int .i64 2)), (1, .const p1)]) 34 fun t61 =>
  xS 34 t4 t61 <|
  xD 34 t4 fun t4_6 =>
  K (.tuple #[t4_6, (.bool true)])) <|
  Join0 (fun k5 =>
  OpX Tryz.prog (.nilCheck (.const p0)) 0 fun t63 =>
  xF 92 t63 0 fun t64 =>
  xL 3 t64 fun t65 =>
  xO .eql 3 t65 (.int .i64 0) fun t67 =>
  xW t67
  (OpX Tryz.prog (.build 34 #[(0, .const (.int .i64 1)), (1, .const p1)]) 34 fun t69 =>
  xS 34 t4 t69 <|
  xD 34 t4 fun t4_7 =>
  K (.tuple #[t4_7, (.bool true)])) <|
  xO .eql 3 t65 (.int .i64 1) fun t71 =>
  xW t71
  (xC 121 [.const p0, .const p1] [119, 21] 120 fun t74 =>
  xE t74 0 34 fun t75 =>
  xE t74 1 4 fun t76 =>
  xS 34 t4 t75 <|
  xD 34 t4 fun t4_8 =>
  K (.tuple #[t4_8, t76])) <|
  xO .eql 3 t65 (.int .i64 2) fun t78 =>
  xW t78
  (xC 122 [.const p0, .const p1] [119, 21] 120 fun t81 =>
  xE t81 0 34 fun t82 =>
  xE t81 1 4 fun t83 =>
  xS 34 t4 t82 <|
  xD 34 t4 fun t4_9 =>
  K (.tuple #[t4_9, t83])) <|
  xO .eql 3 t65 (.int .i64 3) fun t85 =>
  xW t85
  (Join1 (fun k6 =>
  xO .geq 21 p1 (.int .i32 64) fun t87 =>
  xW t87
  (xO .leq 21 p1 (.int .i32 126) fun t90 =>
  k6 t90) <|
  k6 (.bool false)) fun t91 =>
  xW t91
  (xC 120 [.const p0] [119] 0 fun _ =>
  k5) <|
  k5) <|
  k5) <|
  OpX Tryz.prog (.build 34 #[]) 34 fun t94 =>
  xS 34 t4 t94 <|
  xD 34 t4 fun t4_10 =>
  K (.tuple #[t4_10, (.bool false)])
theorem escape_Parser_Step_link (p0 p1 : Value) : Lk 82 #[p0, p1] (escape_Parser_Step p0 p1) := lk [p0, p1] [(21, [16]), (29, [26]), (35, [42]), (37, []), (53, []), (79, [91])] Tryz.func82 (by kernel_rfl) fun _ _ => by kernel_rfl
theorem escape_Parser_Step_b : Bodied Tryz.prog 82 := bd Tryz.func82 (by kernel_rfl)
def escape_Parser_Reset (p0 : Value) (K : Value → World → Prop) : World → Prop :=
  xO .neq 119 p0 (.pointer none) fun t3 =>
  xW t3
  (OpX Tryz.prog (.build 92 #[]) 92 fun t5 =>
  OpX Tryz.prog (.nilCheck (.const p0)) 0 fun t6 =>
  xS 92 t6 t5 <|
  K (.tuple #[])) <|
  K (.tuple #[])
theorem escape_Parser_Reset_link (p0 : Value) : Lk 120 #[p0] (escape_Parser_Reset p0) := lk [p0] [] Tryz.func120 (by kernel_rfl) fun _ _ => by kernel_rfl
theorem escape_Parser_Reset_b : Bodied Tryz.prog 120 := bd Tryz.func120 (by kernel_rfl)
def escape_Parser_escape (p0 p1 : Value) (K : Value → World → Prop) : World → Prop :=
  xA 34 fun t4 =>
  OpX Tryz.prog (.nilCheck (.const p0)) 0 fun t8 =>
  xF 92 t8 2 fun t9 =>
  xL 5 t9 fun t10 =>
  Join0 (fun k1 =>
  Join1 (fun k2 =>
  xO .leq 21 p1 (.int .i32 47) fun t15 =>
  xW t15
  (xO .eql 5 t10 (.int .u8 0) fun t18 =>
  k2 t18) <|
  k2 (.bool false)) fun t13 =>
  xW t13
  (OpX Tryz.prog (.convert 21 5 (.const p1)) 5 fun t22 =>
  OpX Tryz.prog (.nilCheck (.const p0)) 0 fun t23 =>
  xF 92 t23 2 fun t24 =>
  xS 5 t24 t22 <|
  k1) <|
  xO .leq 21 p1 (.int .i32 47) fun t27 =>
  xW t27
  (OpX Tryz.prog (.nilCheck (.const p0)) 0 fun t29 =>
  xF 92 t29 2 fun t30 =>
  xS 5 t30 (.int .u8 255) <|
  k1) <|
  Join1 (fun k3 =>
  xO .eql 21 p1 (.int .i32 91) fun t33 =>
  xW t33
  (xO .eql 5 t10 (.int .u8 0) fun t36 =>
  k3 t36) <|
  k3 (.bool false)) fun t31 =>
  xW t31
  (OpX Tryz.prog (.build 92 #[(0, .const (.int .i64 2))]) 92 fun t39 =>
  OpX Tryz.prog (.nilCheck (.const p0)) 0 fun t40 =>
  xS 92 t40 t39 <|
  k1) <|
  Join1 (fun k4 =>
  xO .eql 21 p1 (.int .i32 80) fun t43 =>
  xW t43
  (xO .eql 5 t10 (.int .u8 0) fun t58 =>
  k4 t58) <|
  xO .eql 21 p1 (.int .i32 88) fun t46 =>
  xW t46
  (xO .eql 5 t10 (.int .u8 0) fun t58_1 =>
  k4 t58_1) <|
  xO .geq 21 p1 (.int .i32 93) fun t50 =>
  xW t50
  (xO .leq 21 p1 (.int .i32 95) fun t53 =>
  xW t53
  (xO .eql 5 t10 (.int .u8 0) fun t58_2 =>
  k4 t58_2) <|
  k4 (.bool false)) <|
  k4 (.bool false)) fun t41 =>
  xW t41
  (OpX Tryz.prog (.build 92 #[(0, .const (.int .i64 4))]) 92 fun t61 =>
  OpX Tryz.prog (.nilCheck (.const p0)) 0 fun t62 =>
  xS 92 t62 t61 <|
  k1) <|
  Join1 (fun k5 =>
  xO .leq 21 p1 (.int .i32 126) fun t65 =>
  xW t65
  (xO .neq 5 t10 (.int .u8 255) fun t68 =>
  k5 t68) <|
  k5 (.bool false)) fun t63 =>
  xW t63
  (xC 120 [.const p0] [119] 0 fun _ =>
  OpX Tryz.prog (.build 34 #[(0, .const (.int .i64 3)), (1, .const p1), (3, .const t10)]) 34 fun t74 =>
  xS 34 t4 t74 <|
  xD 34 t4 fun t4_1 =>
  K (.tuple #[t4_1, (.bool true)])) <|
  xC 120 [.const p0] [119] 0 fun _ =>
  k1) <|
  OpX Tryz.prog (.build 34 #[]) 34 fun t75 =>
  xS 34 t4 t75 <|
  xD 34 t4 fun t4_2 =>
  K (.tuple #[t4_2, (.bool false)])
theorem escape_Parser_escape_link (p0 p1 : Value) : Lk 121 #[p0, p1] (escape_Parser_escape p0 p1) := lk [p0, p1] [(4, []), (7, [13]), (15, [31]), (19, [41]), (23, [63])] Tryz.func121 (by kernel_rfl) fun _ _ => by kernel_rfl
theorem escape_Parser_escape_b : Bodied Tryz.prog 121 := bd Tryz.func121 (by kernel_rfl)
def escape_Parser_control (p0 p1 : Value) (K : Value → World → Prop) : World → Prop :=
  xA 34 fun t4 =>
  Join0 (fun k1 =>
  Join1 (fun k2 =>
  xO .geq 21 p1 (.int .i32 48) fun t12 =>
  xW t12
  (xO .leq 21 p1 (.int .i32 57) fun t15 =>
  xW t15
  (OpX Tryz.prog (.nilCheck (.const p0)) 0 fun t19 =>
  xF 92 t19 2 fun t20 =>
  xL 5 t20 fun t21 =>
  xO .eql 5 t21 (.int .u8 0) fun t22 =>
  k2 t22) <|
  k2 (.bool false)) <|
  k2 (.bool false)) fun t10 =>
  xW t10
  (OpX Tryz.prog (.nilCheck (.const p0)) 0 fun t26 =>
  xF 92 t26 3 fun t27 =>
  xL 3 t27 fun t28 =>
  OpX Tryz.prog (.call { callee := .builtin .max, args := #[.const t28, .const (.int .i64 1)], argTypes := #[3, 3] }) 3 fun t29 =>
  OpX Tryz.prog (.nilCheck (.const p0)) 0 fun t30 =>
  xF 92 t30 3 fun t31 =>
  xS 3 t31 t29 <|
  OpX Tryz.prog (.nilCheck (.const p0)) 0 fun t33 =>
  xF 92 t33 3 fun t34 =>
  xL 3 t34 fun t35 =>
  xO .leq 3 t35 (.int .i64 8) fun t36 =>
  xW t36
  (DrewW <|
  xP (.nilCheck (.const p0)) 0 fun t39 =>
  qF 92 t39 3 fun t40 =>
  qL 3 t40 fun t41 =>
  qP .sub 3 t41 (.int .i64 1) fun t42 =>
  xP (.nilCheck (.const p0)) 0 fun t45 =>
  qF 92 t45 3 fun t46 =>
  qL 3 t46 fun t47 =>
  qP .sub 3 t47 (.int .i64 1) fun t48 =>
  xP (.nilCheck (.const p0)) 0 fun t49 =>
  qF 92 t49 4 fun t50 =>
  xP (.indexAddr 32 (.const t50) (.const t48)) 0 fun t51 =>
  qL 3 t51 fun t52 =>
  qP .mul 3 t52 (.int .i64 10) fun t53 =>
  qP .sub 21 p1 (.int .i32 48) fun t55 =>
  xP (.convert 21 3 (.const t55)) 3 fun t56 =>
  qP .add 3 t53 t56 fun t57 =>
  xP (.call { callee := .builtin .min, args := #[.const t57, .const (.int .i64 9999)], argTypes := #[3, 3] }) 3 fun t58 =>
  xP (.nilCheck (.const p0)) 0 fun t59 =>
  qF 92 t59 4 fun t60 =>
  xP (.indexAddr 32 (.const t60) (.const t42)) 0 fun t61 =>
  xS 3 t61 t58 <|
  k1) <|
  k1) <|
  Join1 (fun k3 =>
  xO .eql 21 p1 (.int .i32 58) fun t64 =>
  xW t64
  (OpX Tryz.prog (.nilCheck (.const p0)) 0 fun t71 =>
  xF 92 t71 2 fun t72 =>
  xL 5 t72 fun t73 =>
  xO .eql 5 t73 (.int .u8 0) fun t74 =>
  k3 t74) <|
  xO .eql 21 p1 (.int .i32 59) fun t67 =>
  xW t67
  (OpX Tryz.prog (.nilCheck (.const p0)) 0 fun t71_1 =>
  xF 92 t71_1 2 fun t72_1 =>
  xL 5 t72_1 fun t73_1 =>
  xO .eql 5 t73_1 (.int .u8 0) fun t74_1 =>
  k3 t74_1) <|
  k3 (.bool false)) fun t62 =>
  xW t62
  (OpX Tryz.prog (.nilCheck (.const p0)) 0 fun t78 =>
  xF 92 t78 3 fun t79 =>
  xL 3 t79 fun t80 =>
  OpX Tryz.prog (.call { callee := .builtin .max, args := #[.const t80, .const (.int .i64 1)], argTypes := #[3, 3] }) 3 fun t81 =>
  xO .add 3 t81 (.int .i64 1) fun t82 =>
  OpX Tryz.prog (.call { callee := .builtin .min, args := #[.const t82, .const (.int .i64 9)], argTypes := #[3, 3] }) 3 fun t83 =>
  OpX Tryz.prog (.nilCheck (.const p0)) 0 fun t84 =>
  xF 92 t84 3 fun t85 =>
  xS 3 t85 t83 <|
  k1) <|
  Join1 (fun k4 =>
  xO .geq 21 p1 (.int .i32 60) fun t88 =>
  xW t88
  (xO .leq 21 p1 (.int .i32 63) fun t91 =>
  xW t91
  (OpX Tryz.prog (.nilCheck (.const p0)) 0 fun t95 =>
  xF 92 t95 1 fun t96 =>
  xL 5 t96 fun t97 =>
  xO .eql 5 t97 (.int .u8 0) fun t98 =>
  xW t98
  (OpX Tryz.prog (.nilCheck (.const p0)) 0 fun t102 =>
  xF 92 t102 2 fun t103 =>
  xL 5 t103 fun t104 =>
  xO .eql 5 t104 (.int .u8 0) fun t105 =>
  xW t105
  (OpX Tryz.prog (.nilCheck (.const p0)) 0 fun t109 =>
  xF 92 t109 3 fun t110 =>
  xL 3 t110 fun t111 =>
  xO .eql 3 t111 (.int .i64 0) fun t112 =>
  k4 t112) <|
  k4 (.bool false)) <|
  k4 (.bool false)) <|
  k4 (.bool false)) <|
  k4 (.bool false)) fun t86 =>
  xW t86
  (OpX Tryz.prog (.convert 21 5 (.const p1)) 5 fun t116 =>
  OpX Tryz.prog (.nilCheck (.const p0)) 0 fun t117 =>
  xF 92 t117 1 fun t118 =>
  xS 5 t118 t116 <|
  k1) <|
  Join1 (fun k5 =>
  xO .leq 21 p1 (.int .i32 47) fun t121 =>
  xW t121
  (OpX Tryz.prog (.nilCheck (.const p0)) 0 fun t124 =>
  xF 92 t124 2 fun t125 =>
  xL 5 t125 fun t126 =>
  xO .eql 5 t126 (.int .u8 0) fun t127 =>
  k5 t127) <|
  k5 (.bool false)) fun t119 =>
  xW t119
  (OpX Tryz.prog (.convert 21 5 (.const p1)) 5 fun t131 =>
  OpX Tryz.prog (.nilCheck (.const p0)) 0 fun t132 =>
  xF 92 t132 2 fun t133 =>
  xS 5 t133 t131 <|
  k1) <|
  Join1 (fun k6 =>
  xO .geq 21 p1 (.int .i32 64) fun t136 =>
  xW t136
  (xO .leq 21 p1 (.int .i32 126) fun t139 =>
  k6 t139) <|
  k6 (.bool false)) fun t134 =>
  xW t134
  (DrewW <|
  Join1 (fun k7 =>
  xP (.nilCheck (.const p0)) 0 fun t143 =>
  qF 92 t143 1 fun t144 =>
  qL 5 t144 fun t145 =>
  xP (.nilCheck (.const p0)) 0 fun t147 =>
  qF 92 t147 2 fun t148 =>
  qL 5 t148 fun t149 =>
  xP (.nilCheck (.const p0)) 0 fun t151 =>
  qF 92 t151 3 fun t152 =>
  qL 3 t152 fun t153 =>
  xP (.call { callee := .builtin .min, args := #[.const t153, .const (.int .i64 8)], argTypes := #[3, 3] }) 3 fun t154 =>
  xP (.nilCheck (.const p0)) 0 fun t156 =>
  qF 92 t156 4 fun t157 =>
  qL 32 t157 fun t158 =>
  xT (OpX Tryz.prog (.build 34 #[(0, .const (.int .i64 4)), (1, .const p1), (2, .const t145), (3, .const t149), (4, .const t154), (5, .const t158)]) 34 fun t159 =>
  xA 34 fun t6 =>
  xS 34 t6 t159 <|
  k7 t6) <|
  xA 34 fun t6_1 =>
  xT (qZ 32 t157 t158) <|
  xT (qZ 3 t152 t153) <|
  xT (qZ 5 t148 t149) <|
  xT (qZ 5 t144 t145) <|
  OpX Tryz.prog (.build 34 #[(0, .const (.int .i64 4)), (1, .const p1), (2, .const t145), (3, .const t149), (4, .const t154), (5, .const t158)]) 34 fun t159_1 =>
  xS 34 t6_1 t159_1 <|
  k7 t6_1) fun t6_2 =>
  xC 120 [.const p0] [119] 0 fun _ =>
  xL 34 t6_2 fun t162 =>
  xS 34 t4 t162 <|
  xD 34 t4 fun t4_1 =>
  K (.tuple #[t4_1, (.bool true)])) <|
  OpX Tryz.prog (.build 92 #[(0, .const (.int .i64 3))]) 92 fun t8 =>
  OpX Tryz.prog (.nilCheck (.const p0)) 0 fun t9 =>
  xS 92 t9 t8 <|
  k1) <|
  OpX Tryz.prog (.build 34 #[]) 34 fun t163 =>
  xS 34 t4 t163 <|
  xD 34 t4 fun t4_2 =>
  K (.tuple #[t4_2, (.bool false)])
theorem escape_Parser_control_link (p0 p1 : Value) : Lk 122 #[p0, p1] (escape_Parser_control p0 p1) := lk [p0, p1] [(2, []), (5, [10]), (15, [62]), (19, [86]), (23, [119]), (27, [134]), (30, [6])] Tryz.func122 (by kernel_rfl) fun _ _ => by kernel_rfl
theorem escape_Parser_control_b : Bodied Tryz.prog 122 := bd Tryz.func122 (by kernel_rfl)
def strings_Clone (p0 : Value) (K : Value → World → Prop) : World → Prop :=
  xC 124 [.const p0] [9] 9 fun t4 =>
  K t4
theorem strings_Clone_link (p0 : Value) : Lk 84 #[p0] (strings_Clone p0) := lk [p0] [] Tryz.func84 (by kernel_rfl) fun _ _ => by kernel_rfl
theorem strings_Clone_b : Bodied Tryz.prog 84 := bd Tryz.func84 (by kernel_rfl)
def internal_stringslite_Clone (p0 : Value) (K : Value → World → Prop) : World → Prop :=
  xU p0 9 fun t5 =>
  xO .eql 3 t5 (.int .i64 0) fun t6 =>
  xW t6
  (K (.string { data := #[] })) <|
  xU p0 9 fun t8 =>
  OpX Tryz.prog (.makeSlice 53 (.const t8) (.const t8)) 53 fun t9 =>
  OpX Tryz.prog (.call { callee := .builtin .copy, args := #[.const t9, .const p0], argTypes := #[53, 9] }) 3 fun _ =>
  xI 53 t9 (.int .i64 0) fun t14 =>
  xU t9 53 fun t16 =>
  OpX Tryz.prog (.call { callee := .builtin .unsafeString, args := #[.const t14, .const t16], argTypes := #[165, 3] }) 9 fun t17 =>
  K t17
theorem internal_stringslite_Clone_link (p0 : Value) : Lk 124 #[p0] (internal_stringslite_Clone p0) := lk [p0] [] Tryz.func124 (by kernel_rfl) fun _ _ => by kernel_rfl
theorem internal_stringslite_Clone_b : Bodied Tryz.prog 124 := bd Tryz.func124 (by kernel_rfl)
def lyceumlaw11_TermLines (p0 p1 : Value) (K : Value → World → Prop) : World → Prop :=
  xB 47 p0 fun t2 =>
  xC 18 [] [] 4 fun t17 =>
  xL 47 t2 fun t19 =>
  xC 19 [.const t19] [47] 27 fun t20 =>
  xE t20 0 3 fun t21 =>
  xE t20 1 3 fun t22 =>
  xC 20 [.const t21, .const t22, .const (.int .i64 500)] [3, 3, 3] 49 fun t25 =>
  xO .eql 49 t25 (.pointer none) fun t27 =>
  xW t27
  (K (.bool false)) <|
  Loop2 (.slice none 0 0) (.int .i64 0) fun t9 t10 next1 =>
  Join1 (fun k2 =>
  xU p1 48 fun t30 =>
  xO .lss 3 t10 t30 fun t31 =>
  xW t31
  (xO .lss 3 t10 (.int .i64 20) fun t34 =>
  k2 t34) <|
  k2 (.bool false)) fun t35 =>
  xW t35
  (Loop2 (.string { data := #[] }) (.int .i64 0) fun t11 t12 next3 =>
  Join1 (fun k4 =>
  xI 48 p1 t10 fun t41 =>
  xL 52 t41 fun t42 =>
  xU t42 52 fun t43 =>
  xO .lss 3 t12 t43 fun t44 =>
  xW t44
  (xO .sub 3 t21 (.int .i64 1) fun t48 =>
  xO .lss 3 t12 t48 fun t49 =>
  k4 t49) <|
  k4 (.bool false)) fun t50 =>
  xW t50
  (xI 48 p1 t10 fun t56 =>
  xL 52 t56 fun t57 =>
  xI 52 t57 t12 fun t59 =>
  xL 3 t59 fun t60 =>
  xO .and 3 t60 (.int .i64 15) fun t61 =>
  xO .add 3 (.int .i64 97) t61 fun t62 =>
  OpX Tryz.prog (.convert 3 5 (.const t62)) 5 fun t63 =>
  OpX Tryz.prog (.buildSlice 53 1 #[(0, .const t63)]) 53 fun t64 =>
  OpX Tryz.prog (.convert 53 9 (.const t64)) 9 fun t65 =>
  xO .add 9 t11 t65 fun t66 =>
  xO .add 3 t12 (.int .i64 1) fun t52 =>
  next3 t66 t52) <|
  OpX Tryz.prog (.buildSlice 51 1 #[(0, .const t11)]) 51 fun t69 =>
  OpX Tryz.prog (.call { callee := .builtin .append, args := #[.const t9, .const t69], argTypes := #[51, 51] }) 51 fun t70 =>
  OpX Tryz.prog (.buildSlice 51 2 #[(0, .const t11), (1, .const (.string { data := #[13, 10] }))]) 51 fun t73 =>
  xC 21 [.const t25, .const t73] [49, 51] 0 fun _ =>
  xO .add 3 t10 (.int .i64 1) fun t37 =>
  next1 t70 t37) <|
  xC 22 [.const t25] [49] 3 fun t76 =>
  xU t9 51 fun t79 =>
  xO .add 3 t79 (.int .i64 1) fun t80 =>
  xO .sub 3 t80 t22 fun t82 =>
  OpX Tryz.prog (.call { callee := .builtin .max, args := #[.const t82, .const (.int .i64 0)], argTypes := #[3, 3] }) 3 fun t83 =>
  xO .neq 3 t76 t83 fun t84 =>
  xW t84
  (K (.bool false)) <|
  Loop1 (.int .i64 0) fun t14 next5 =>
  xU t9 51 fun t87 =>
  xO .lss 3 t14 t87 fun t88 =>
  xW t88
  (xC 24 [.const t25, .const t76] [49, 3] 38 fun t93 =>
  xC 23 [.const t93] [38] 51 fun t94 =>
  Join2 (fun k6 =>
  xO .geq 3 t14 t22 fun t98 =>
  xW t98
  (xO .sub 3 t76 t14 fun t102 =>
  OpX Tryz.prog (.call { callee := .builtin .max, args := #[.const t102, .const (.int .i64 0)], argTypes := #[3, 3] }) 3 fun t103 =>
  xC 24 [.const t25, .const t103] [49, 3] 38 fun t104 =>
  xC 23 [.const t104] [38] 51 fun t105 =>
  xO .sub 3 t14 t76 fun t108 =>
  xO .sub 3 t76 t14 fun t111 =>
  OpX Tryz.prog (.call { callee := .builtin .max, args := #[.const t111, .const (.int .i64 0)], argTypes := #[3, 3] }) 3 fun t112 =>
  xO .add 3 t108 t112 fun t113 =>
  k6 t105 t113) <|
  k6 t94 t14) fun t15 t16 =>
  DrewW <|
  Join1 (fun k7 =>
  qP .lss 3 t16 (.int .i64 0) fun t115 =>
  xW t115
  (k7 (.bool true)) <|
  xR (.call { callee := .builtin .len, args := #[.const t15], argTypes := #[51] }) 3 fun t119 =>
  qP .geq 3 t16 t119 fun t120 =>
  xW t120
  (k7 (.bool true)) <|
  xP (.indexAddr 51 (.const t15) (.const t16)) 0 fun t125 =>
  qL 9 t125 fun t126 =>
  xP (.indexAddr 51 (.const t9) (.const t14)) 0 fun t129 =>
  qL 9 t129 fun t130 =>
  qR .neq 9 t126 t130 fun t131 =>
  k7 t131) fun t132 =>
  xW t132
  (K (.bool false)) <|
  xO .add 3 t14 (.int .i64 1) fun t90 =>
  next5 t90) <|
  K t17
theorem lyceumlaw11_TermLines_link (p0 p1 : Value) : Lk 4 #[p0, p1] (lyceumlaw11_TermLines p0 p1) := lk [p0, p1] [(22, [9, 10]), (25, [35]), (37, [11, 12]), (40, [50]), (66, [14]), (79, [15, 16]), (88, [132])] Tryz.func4 (by kernel_rfl) fun _ _ => by kernel_rfl
theorem lyceumlaw11_TermLines_b : Bodied Tryz.prog 4 := bd Tryz.func4 (by kernel_rfl)
def lyceumlaw11_TermRight (p0 p1 p2 : Value) (K : Value → World → Prop) : World → Prop :=
  xB 47 p0 fun t3 =>
  xC 18 [] [] 4 fun t19 =>
  xL 47 t3 fun t21 =>
  xC 19 [.const t21] [47] 27 fun t22 =>
  xE t22 0 3 fun t23 =>
  xE t22 1 3 fun t24 =>
  xC 20 [.const t23, .const t24, .const (.int .i64 20)] [3, 3, 3] 49 fun t27 =>
  xO .eql 49 t27 (.pointer none) fun t29 =>
  xW t29
  (K (.bool false)) <|
  Loop1 (.int .i64 0) fun t11 next1 =>
  Join1 (fun k2 =>
  xU p1 51 fun t32 =>
  xO .lss 3 t11 t32 fun t33 =>
  xW t33
  (xO .lss 3 t11 (.int .i64 30) fun t36 =>
  k2 t36) <|
  k2 (.bool false)) fun t37 =>
  xW t37
  (xI 51 p1 t11 fun t43 =>
  xL 9 t43 fun t44 =>
  xC 25 [.const t44, .const (.int .i64 12)] [9, 3] 9 fun t45 =>
  OpX Tryz.prog (.buildSlice 51 1 #[(0, .const t45)]) 51 fun t46 =>
  xC 21 [.const t27, .const t46] [49, 51] 0 fun _ =>
  xC 26 [.const t27] [49] 38 fun t49 =>
  xA 38 fun t12 =>
  xS 38 t12 t49 <|
  xC 24 [.const t27, .const p2] [49, 3] 38 fun t52 =>
  xA 38 fun t13 =>
  xS 38 t13 t52 <|
  xL 38 t12 fun t53 =>
  xC 15 [.const t53] [38] 4 fun t54 =>
  xL 38 t13 fun t55 =>
  xC 15 [.const t55] [38] 4 fun t56 =>
  xC 27 [.const t27] [49] 40 fun t59 =>
  xE t59 0 3 fun t60 =>
  xE t59 1 3 fun t61 =>
  xE t59 2 4 fun _ =>
  Join1 (fun k3 =>
  xN 4 t54 fun t64 =>
  xW t64
  (k3 (.bool true)) <|
  xN 4 t56 fun t67 =>
  xW t67
  (k3 (.bool true)) <|
  xF 38 t12 0 fun t70 =>
  xL 3 t70 fun t71 =>
  xO .neq 3 t71 t23 fun t73 =>
  xW t73
  (k3 (.bool true)) <|
  xF 38 t12 1 fun t76 =>
  xL 3 t76 fun t77 =>
  xO .neq 3 t77 t24 fun t79 =>
  xW t79
  (k3 (.bool true)) <|
  xF 38 t13 0 fun t82 =>
  xL 3 t82 fun t83 =>
  xO .neq 3 t83 t23 fun t85 =>
  xW t85
  (k3 (.bool true)) <|
  xF 38 t13 1 fun t88 =>
  xL 3 t88 fun t89 =>
  xO .neq 3 t89 t24 fun t91 =>
  xW t91
  (k3 (.bool true)) <|
  xO .lss 3 t60 (.int .i64 0) fun t95 =>
  xW t95
  (k3 (.bool true)) <|
  xO .geq 3 t60 t23 fun t100 =>
  xW t100
  (k3 (.bool true)) <|
  xO .lss 3 t61 (.int .i64 0) fun t104 =>
  xW t104
  (k3 (.bool true)) <|
  xO .geq 3 t61 t24 fun t109 =>
  xW t109
  (k3 (.bool true)) <|
  xC 22 [.const t27] [49] 3 fun t113 =>
  xO .lss 3 t113 (.int .i64 0) fun t114 =>
  xW t114
  (k3 (.bool true)) <|
  xC 22 [.const t27] [49] 3 fun t118 =>
  xO .gtr 3 t118 (.int .i64 20) fun t119 =>
  k3 t119) fun t120 =>
  xW t120
  (K (.bool false)) <|
  xO .add 3 t11 (.int .i64 1) fun t39 =>
  next1 t39) <|
  K t19
theorem lyceumlaw11_TermRight_link (p0 p1 p2 : Value) : Lk 5 #[p0, p1, p2] (lyceumlaw11_TermRight p0 p1 p2) := lk [p0, p1, p2] [(20, [11]), (23, [37]), (42, [120])] Tryz.func5 (by kernel_rfl) fun _ _ => by kernel_rfl
theorem lyceumlaw11_TermRight_b : Bodied Tryz.prog 5 := bd Tryz.func5 (by kernel_rfl)
def lyceumlaw11_TermParted (p0 p1 : Value) (K : Value → World → Prop) : World → Prop :=
  xB 47 p0 fun t2 =>
  xC 18 [] [] 4 fun t28 =>
  xL 47 t2 fun t30 =>
  xC 19 [.const t30] [47] 27 fun t31 =>
  xE t31 0 3 fun t32 =>
  xE t31 1 3 fun t33 =>
  xC 20 [.const t32, .const t33, .const (.int .i64 50)] [3, 3, 3] 49 fun t36 =>
  xC 20 [.const t32, .const t33, .const (.int .i64 50)] [3, 3, 3] 49 fun t39 =>
  xC 20 [.const t32, .const t33, .const (.int .i64 50)] [3, 3, 3] 49 fun t42 =>
  Join1 (fun k1 =>
  xO .eql 49 t36 (.pointer none) fun t44 =>
  xW t44
  (k1 (.bool true)) <|
  xO .eql 49 t39 (.pointer none) fun t47 =>
  xW t47
  (k1 (.bool true)) <|
  xO .eql 49 t42 (.pointer none) fun t51 =>
  k1 t51) fun t52 =>
  xW t52
  (K (.bool false)) <|
  Loop2 (.string { data := #[] }) (.int .i64 0) fun t11 t12 next2 =>
  Join1 (fun k3 =>
  xU p1 51 fun t55 =>
  xO .lss 3 t12 t55 fun t56 =>
  xW t56
  (xO .lss 3 t12 (.int .i64 20) fun t59 =>
  k3 t59) <|
  k3 (.bool false)) fun t60 =>
  xW t60
  (xI 51 p1 t12 fun t65 =>
  xL 9 t65 fun t66 =>
  xC 25 [.const t66, .const (.int .i64 20)] [9, 3] 9 fun t67 =>
  OpX Tryz.prog (.buildSlice 51 1 #[(0, .const t67)]) 51 fun t70 =>
  xC 21 [.const t36, .const t70] [49, 51] 0 fun _ =>
  xO .add 9 t11 t67 fun t74 =>
  xO .add 3 t12 (.int .i64 1) fun t62 =>
  next2 t74 t62) <|
  OpX Tryz.prog (.buildSlice 51 1 #[(0, .const t11)]) 51 fun t77 =>
  xC 21 [.const t39, .const t77] [49, 51] 0 fun _ =>
  Loop1 (.int .i64 0) fun t14 next4 =>
  xU t11 9 fun t81 =>
  xO .lss 3 t14 t81 fun t82 =>
  xW t82
  (xO .add 3 t14 (.int .i64 1) fun t89 =>
  OpX Tryz.prog (.slice 9 (.const t11) (some (.const t14)) (some (.const t89)) none) 9 fun t90 =>
  OpX Tryz.prog (.buildSlice 51 1 #[(0, .const t90)]) 51 fun t91 =>
  xC 21 [.const t42, .const t91] [49, 51] 0 fun _ =>
  xO .add 3 t14 (.int .i64 1) fun t84 =>
  next4 t84) <|
  xC 26 [.const t36] [49] 38 fun t94 =>
  xC 26 [.const t39] [49] 38 fun t96 =>
  xC 28 [.const t94, .const t96] [38, 38] 4 fun t97 =>
  xC 26 [.const t42] [49] 38 fun t99 =>
  xC 26 [.const t39] [49] 38 fun t101 =>
  xC 28 [.const t99, .const t101] [38, 38] 4 fun t102 =>
  xC 27 [.const t36] [49] 40 fun t105 =>
  xE t105 0 3 fun t106 =>
  xE t105 1 3 fun t107 =>
  xE t105 2 4 fun t108 =>
  xC 27 [.const t39] [49] 40 fun t111 =>
  xE t111 0 3 fun t112 =>
  xE t111 1 3 fun t113 =>
  xE t111 2 4 fun t114 =>
  xC 27 [.const t42] [49] 40 fun t117 =>
  xE t117 0 3 fun t118 =>
  xE t117 1 3 fun t119 =>
  xE t117 2 4 fun t120 =>
  xC 24 [.const t36, .const (.int .i64 1000)] [49, 3] 38 fun t122 =>
  xC 24 [.const t39, .const (.int .i64 1000)] [49, 3] 38 fun t124 =>
  xC 28 [.const t122, .const t124] [38, 38] 4 fun t125 =>
  xC 24 [.const t42, .const (.int .i64 1000)] [49, 3] 38 fun t127 =>
  xC 24 [.const t39, .const (.int .i64 1000)] [49, 3] 38 fun t129 =>
  xC 28 [.const t127, .const t129] [38, 38] 4 fun t130 =>
  Join1 (fun k5 =>
  xW t28
  (xW t97
  (xW t102
  (xO .eql 3 t106 t112 fun t141 =>
  xW t141
  (xO .eql 3 t107 t113 fun t146 =>
  xW t146
  (xO .eql 4 t108 t114 fun t151 =>
  xW t151
  (xO .eql 3 t118 t112 fun t156 =>
  xW t156
  (xO .eql 3 t119 t113 fun t161 =>
  xW t161
  (xO .eql 4 t120 t114 fun t166 =>
  xW t166
  (xW t125
  (xW t130
  (xC 22 [.const t36] [49] 3 fun t176 =>
  xC 22 [.const t39] [49] 3 fun t178 =>
  xO .eql 3 t176 t178 fun t179 =>
  xW t179
  (xC 22 [.const t42] [49] 3 fun t183 =>
  xC 22 [.const t39] [49] 3 fun t185 =>
  xO .eql 3 t183 t185 fun t186 =>
  xW t186
  (xC 29 [.const t36] [49] 4 fun t190 =>
  xC 29 [.const t39] [49] 4 fun t192 =>
  xO .eql 4 t190 t192 fun t193 =>
  xW t193
  (xC 29 [.const t42] [49] 4 fun t197 =>
  xC 29 [.const t39] [49] 4 fun t199 =>
  xO .eql 4 t197 t199 fun t200 =>
  k5 t200) <|
  k5 (.bool false)) <|
  k5 (.bool false)) <|
  k5 (.bool false)) <|
  k5 (.bool false)) <|
  k5 (.bool false)) <|
  k5 (.bool false)) <|
  k5 (.bool false)) <|
  k5 (.bool false)) <|
  k5 (.bool false)) <|
  k5 (.bool false)) <|
  k5 (.bool false)) <|
  k5 (.bool false)) <|
  k5 (.bool false)) <|
  k5 (.bool false)) fun t4 =>
  K t4
theorem lyceumlaw11_TermParted_link (p0 p1 : Value) : Lk 6 #[p0, p1] (lyceumlaw11_TermParted p0 p1) := lk [p0, p1] [(14, [52]), (26, [11, 12]), (29, [60]), (47, [14]), (73, [4])] Tryz.func6 (by kernel_rfl) fun _ _ => by kernel_rfl
theorem lyceumlaw11_TermParted_b : Bodied Tryz.prog 6 := bd Tryz.func6 (by kernel_rfl)
def lyceumlaw11_TermNil (p0 p1 p2 : Value) (K : Value → World → Prop) : World → Prop :=
  xC 25 [.const p0, .const (.int .i64 20)] [9, 3] 9 fun t16 =>
  OpX Tryz.prog (.buildSlice 51 1 #[(0, .const t16)]) 51 fun t17 =>
  xC 21 [.const (.pointer none), .const t17] [49, 51] 0 fun _ =>
  xC 27 [.const (.pointer none)] [49] 40 fun t21 =>
  xE t21 0 3 fun t22 =>
  xE t21 1 3 fun t23 =>
  xE t21 2 4 fun t24 =>
  xC 30 [.const (.pointer none), .const (.string { data := #[] }), .const (.int .i64 3)] [49, 9, 3] 63 fun t27 =>
  xE t27 0 3 fun _ =>
  xE t27 1 4 fun t29 =>
  Join1 (fun k1 =>
  xO .geq 3 p1 (.int .i64 1) fun t31 =>
  xW t31
  (xO .leq 3 p1 (.int .i64 200) fun t34 =>
  xW t34
  (xO .geq 3 p2 (.int .i64 1) fun t38 =>
  xW t38
  (xO .leq 3 p2 (.int .i64 60) fun t42 =>
  k1 t42) <|
  k1 (.bool false)) <|
  k1 (.bool false)) <|
  k1 (.bool false)) fun t13 =>
  Join1 (fun k2 =>
  xC 18 [] [] 4 fun t44 =>
  xW t44
  (xO .eql 3 t22 (.int .i64 0) fun t47 =>
  xW t47
  (xO .eql 3 t23 (.int .i64 0) fun t51 =>
  xW t51
  (xN 4 t24 fun t55 =>
  xW t55
  (xN 4 t29 fun t59 =>
  xW t59
  (xC 26 [.const (.pointer none)] [49] 38 fun t63 =>
  OpX Tryz.prog (.field 38 (.const t63) 0) 3 fun t64 =>
  xO .eql 3 t64 (.int .i64 0) fun t65 =>
  xW t65
  (xC 24 [.const (.pointer none), .const (.int .i64 2)] [49, 3] 38 fun t69 =>
  OpX Tryz.prog (.field 38 (.const t69) 0) 3 fun t70 =>
  xO .eql 3 t70 (.int .i64 0) fun t71 =>
  xW t71
  (xC 22 [.const (.pointer none)] [49] 3 fun t75 =>
  xO .eql 3 t75 (.int .i64 0) fun t76 =>
  xW t76
  (xC 29 [.const (.pointer none)] [49] 4 fun t80 =>
  xN 4 t80 fun t81 =>
  xW t81
  (xC 31 [.const (.pointer none), .const (.int .i64 3), .const (.int .i64 3)] [49, 3, 3] 4 fun t85 =>
  xN 4 t85 fun t86 =>
  xW t86
  (xC 20 [.const p1, .const p2, .const (.int .i64 3)] [3, 3, 3] 49 fun t91 =>
  xO .neq 49 t91 (.pointer none) fun t92 =>
  xO .eql 4 t92 t13 fun t94 =>
  k2 t94) <|
  k2 (.bool false)) <|
  k2 (.bool false)) <|
  k2 (.bool false)) <|
  k2 (.bool false)) <|
  k2 (.bool false)) <|
  k2 (.bool false)) <|
  k2 (.bool false)) <|
  k2 (.bool false)) <|
  k2 (.bool false)) <|
  k2 (.bool false)) fun t6 =>
  K t6
theorem lyceumlaw11_TermNil_link (p0 p1 p2 : Value) : Lk 7 #[p0, p1, p2] (lyceumlaw11_TermNil p0 p1 p2) := lk [p0, p1, p2] [(11, [13]), (13, [6])] Tryz.func7 (by kernel_rfl) fun _ _ => by kernel_rfl
theorem lyceumlaw11_TermNil_b : Bodied Tryz.prog 7 := bd Tryz.func7 (by kernel_rfl)
def lyceumlaw11_awake (K : Value → World → Prop) : World → Prop :=
  xC 20 [.const (.int .i64 3), .const (.int .i64 1), .const (.int .i64 9)] [3, 3, 3] 49 fun t3 =>
  xO .eql 49 t3 (.pointer none) fun t5 =>
  xW t5
  (K (.bool false)) <|
  OpX Tryz.prog (.buildSlice 51 4 #[(0, .const (.string { data := #[97, 98] })), (1, .const (.string { data := #[195] })), (2, .const (.string { data := #[169] })), (3, .const (.string { data := #[100] }))]) 51 fun t7 =>
  xC 21 [.const t3, .const t7] [49, 51] 0 fun _ =>
  xC 26 [.const t3] [49] 38 fun t10 =>
  xC 23 [.const t10] [38] 51 fun t11 =>
  Join1 (fun k1 =>
  xU t11 51 fun t13 =>
  xO .eql 3 t13 (.int .i64 1) fun t14 =>
  xW t14
  (xI 51 t11 (.int .i64 0) fun t17 =>
  xL 9 t17 fun t18 =>
  xO .eql 9 t18 (.string { data := #[100] }) fun t19 =>
  xW t19
  (xC 22 [.const t3] [49] 3 fun t23 =>
  xO .eql 3 t23 (.int .i64 1) fun t24 =>
  k1 t24) <|
  k1 (.bool false)) <|
  k1 (.bool false)) fun t0 =>
  K t0
theorem lyceumlaw11_awake_link : Lk 18 #[] (lyceumlaw11_awake) := lk [] [(17, [0])] Tryz.func18 (by kernel_rfl) fun _ _ => by kernel_rfl
theorem lyceumlaw11_awake_b : Bodied Tryz.prog 18 := bd Tryz.func18 (by kernel_rfl)
def lyceumlaw11_Size_size (p0 : Value) (K : Value → World → Prop) : World → Prop :=
  xB 47 p0 fun t1 =>
  DrewW <|
  qF 47 t1 0 fun t4 =>
  qL 3 t4 fun t5 =>
  qP .rem 3 t5 (.int .i64 14) fun t6 =>
  qP .add 3 t6 (.int .i64 14) fun t7 =>
  qP .rem 3 t7 (.int .i64 14) fun t8 =>
  qP .add 3 (.int .i64 1) t8 fun t9 =>
  qF 47 t1 1 fun t10 =>
  qL 3 t10 fun t11 =>
  qP .rem 3 t11 (.int .i64 8) fun t12 =>
  qP .add 3 t12 (.int .i64 8) fun t13 =>
  qP .rem 3 t13 (.int .i64 8) fun t14 =>
  qP .add 3 (.int .i64 1) t14 fun t15 =>
  K (.tuple #[t9, t15])
theorem lyceumlaw11_Size_size_link (p0 : Value) : Lk 19 #[p0] (lyceumlaw11_Size_size p0) := lk [p0] [] Tryz.func19 (by kernel_rfl) fun _ _ => by kernel_rfl
theorem lyceumlaw11_Size_size_b : Bodied Tryz.prog 19 := bd Tryz.func19 (by kernel_rfl)
def lyceumlaw11_short (p0 p1 : Value) (K : Value → World → Prop) : World → Prop :=
  xU p0 9 fun t6 =>
  xO .gtr 3 t6 p1 fun t8 =>
  xW t8
  (OpX Tryz.prog (.slice 9 (.const p0) none (some (.const p1)) none) 9 fun t11 =>
  K t11) <|
  K p0
theorem lyceumlaw11_short_link (p0 p1 : Value) : Lk 25 #[p0, p1] (lyceumlaw11_short p0 p1) := lk [p0, p1] [] Tryz.func25 (by kernel_rfl) fun _ _ => by kernel_rfl
theorem lyceumlaw11_short_b : Bodied Tryz.prog 25 := bd Tryz.func25 (by kernel_rfl)
end Go.Proofs.YtjfembffjjijaaaGreat
namespace Lyc
open Go
section
variable {P : Program}
@[go_sem] theorem x_buildA (t ty : TypeId) (parts : List (Nat × Operand)) (K : Value → World → Prop) (w : World) (_ht : tkind P t = some 2) :
    OpX P (.build t parts.toArray) ty K w = OrK ((tzero P t).bind fun z => (tarr P t).bind fun nm => (partV parts).bind (fillL (bplaces nm.2 nm.1 0) z.cells)) (fun c => K (.agg c) w) (OpX P (.build t parts.toArray) ty K w) () := by
  refine OrK_by (fun c h => ?_) rfl
  obtain ⟨z, hz, h⟩ := Option.bind_eq_some_iff.1 h
  obtain ⟨⟨n, m⟩, hnm, h⟩ := Option.bind_eq_some_iff.1 h
  obtain ⟨vs, hv, hf⟩ := Option.bind_eq_some_iff.1 h
  refine OpX_ok fun ρ hg => ?_
  unfold tarr at hnm
  cases hu : P.underlying t with
  | none => rw [hu] at hnm; simp at hnm
  | some d =>
    rw [hu] at hnm
    cases d <;> simp at hnm
    rename_i len e
    obtain ⟨hs, rfl⟩ := hnm
    have hfill := fill_eq (fun j => some (j * m, m)) (bplaces m len 0) (fun j x hx => by simpa using bplaces_get _ _ _ _ _ hx) vs z.cells c hf
    have hp := partV_spec hg hv
    simp only [execOp, mkOper, Instr.build, Sem.run_bind, run_zero hz, Result.andThen_ok, run_underlying hu, run_size hs, List.map_toArray, hp, hfill]
    rfl
def buildK (P : Program) (t : TypeId) (parts : List (Nat × Operand)) : Option (Array Value) :=
  match tkind P t with
  | some 2 => (tzero P t).bind fun z => (tarr P t).bind fun nm => (partV parts).bind (fillL (bplaces nm.2 nm.1 0) z.cells)
  | _ => (tzero P t).bind fun z => (tfields P t).bind fun pl => (partV parts).bind (fillL pl z.cells)
theorem OpX.build {t ty : TypeId} {parts : List (Nat × Operand)} {K : Value → World → Prop} {w : World} {c : Array Value} (h : buildK P t parts = some c) (hk : K (.agg c) w) : OpX P (.build t parts.toArray) ty K w := by
  unfold buildK at h
  split at h
  · rename_i ht
    rw [x_buildA t ty parts K w ht, h]; exact hk
  · rw [x_build0, h]; exact hk
theorem putAt_whole (c : Array Value) (e : TypeId) (vs : List Value) (h : vs.length = c.size) : putAt (some (.cells c e (0, 0))) 0 vs = some (.cells vs.toArray e) := by
  rw [putAt_cells, if_pos (by omega)]
  unfold spl
  simp [h]
theorem OpX.fresh {t ty ty' : TypeId} {v z : Value} {M : Value → Value → World → Prop} {w : World} (hz : tzero P t = some z) (hn : tsize P t = some v.cells.size) (hs : z.cells.size = v.cells.size) (hok : okCells v.cells.toList = true)
    (h : M (.pointer (some ⟨w.heap.size, 0, none⟩)) undef (w.alloc (.cells v.cells t))) :
    OpX P (.alloc t) ty (fun p w => OpX P (.store t (.const p) (.const v)) ty' (M p) w) w := by
  rw [x_alloc, hz, OrK_some, x_store _ _ _ _ _ _ _ hn hok, heap_alloc_new _ _ _ rfl, putAt_whole _ _ _ (by simp [hs]), StX_some, setBlk_alloc_new _ _ _ _ rfl]
  exact h
def partL (P : Program) (e : TypeId) (cs : Array Value) (off : Nat) : Option Value :=
  (tagg P e).bind fun b => bif b then (tsize P e).map fun n => .agg (cs.extract off (off + n)) else cs[off]?
theorem run_part {e : TypeId} {cs : Array Value} {off : Nat} {v : Value} (h : partL P e cs off = some v) (w : World) : (part e cs off).run P w = .ok v w := by
  unfold partL at h
  obtain ⟨b, hb, h⟩ := Option.bind_eq_some_iff.1 h
  unfold part
  cases b with
  | true =>
    simp only [cond_true] at h
    obtain ⟨n, hn, rfl⟩ := Option.map_eq_some_iff.1 h
    simp [run_isAgg hb, run_size hn]
  | false =>
    simp only [cond_false] at h
    simp [run_isAgg hb, h]
def idxL (P : Program) (t : TypeId) (cs : Array Value) (i : Int) : Option Value :=
  (telem P t).bind fun e => (tarr P t).bind fun nm => if 0 ≤ i ∧ i < nm.1 then partL P e cs (i.toNat * nm.2) else none
theorem r_index (t ty : TypeId) (cs : Array Value) (k : IntKind) (i : Int) (v : Value) (h : idxL P t cs i = some v) : PureRun P (.index t (.const (.agg cs)) (.const (.int k i))) ty v := by
  unfold idxL at h
  obtain ⟨e, he, h⟩ := Option.bind_eq_some_iff.1 h
  obtain ⟨⟨n, m⟩, hnm, h⟩ := Option.bind_eq_some_iff.1 h
  dsimp only at h
  split at h
  · rename_i hi
    unfold tarr at hnm
    unfold telem at he
    cases hu : P.underlying t with
    | none => rw [hu] at hnm; simp at hnm
    | some d =>
      rw [hu] at hnm he
      cases d <;> simp at hnm he
      rename_i len e'
      subst he
      obtain ⟨hs, rfl⟩ := hnm
      exact ⟨fun ρ hg w => by
        have hp := run_part h w
        simp [execOp, mkOper, hg.1, Instr.index, asIntOf, run_underlying hu, run_size hs, hi.1, hi.2, hp]⟩
  · simp at h
@[go_sem] theorem x_indexA (t ty : TypeId) (cs : Array Value) (k : IntKind) (i : Int) (K : Value → World → Prop) (w : World) : OpX P (.index t (.const (.agg cs)) (.const (.int k i))) ty K w = OrK (idxL P t cs i) (fun v => K v w) (OpX P (.index t (.const (.agg cs)) (.const (.int k i))) ty K w) () :=
  OrK_by (fun v h => (r_index t ty cs k i v h).op K w) rfl
@[go_sem] theorem p_indexA (t ty : TypeId) (cs : Array Value) (k : IntKind) (i : Int) (K : Value → Prop) : PurX P (.index t (.const (.agg cs)) (.const (.int k i))) ty K () = OrK (idxL P t cs i) K (PurX P (.index t (.const (.agg cs)) (.const (.int k i))) ty K ()) () :=
  OrK_by (fun v h => (r_index t ty cs k i v h).pur K) rfl
def fieldL (P : Program) (t : TypeId) (cs : Array Value) (i : Nat) : Option Value :=
  (tftype P t i).bind fun e => (tfield P t i).bind fun p => partL P e cs p.1
theorem r_field (t ty : TypeId) (cs : Array Value) (i : Nat) (v : Value) (h : fieldL P t cs i = some v) : PureRun P (.field t (.const (.agg cs)) i) ty v := by
  unfold fieldL at h
  obtain ⟨e, he, h⟩ := Option.bind_eq_some_iff.1 h
  obtain ⟨p, hp, h⟩ := Option.bind_eq_some_iff.1 h
  unfold tftype at he
  unfold tfield at hp
  cases hu : P.underlying t with
  | none => rw [hu] at hp; simp at hp
  | some d =>
    rw [hu] at hp he
    cases d with
    | struct fs =>
      dsimp only [Option.bind] at hp he
      cases hf : fs[i]? with
      | none => rw [hf] at hp; simp at hp
      | some f =>
        rw [hf] at hp he
        simp only [Option.map_some, Option.some.injEq] at he
        obtain ⟨j, hj, rfl⟩ := Option.map_eq_some_iff.1 hp
        subst he
        exact ⟨fun ρ hg w => by
          have hq := run_part h w
          simp [execOp, mkOper, hg.1, Instr.field, run_underlying hu, hf, asAgg, hq]⟩
    | _ => simp at hp
@[go_sem] theorem x_fieldV (t ty : TypeId) (cs : Array Value) (i : Nat) (K : Value → World → Prop) (w : World) : OpX P (.field t (.const (.agg cs)) i) ty K w = OrK (fieldL P t cs i) (fun v => K v w) (OpX P (.field t (.const (.agg cs)) i) ty K w) () :=
  OrK_by (fun v h => (r_field t ty cs i v h).op K w) rfl
@[go_sem] theorem p_fieldV (t ty : TypeId) (cs : Array Value) (i : Nat) (K : Value → Prop) : PurX P (.field t (.const (.agg cs)) i) ty K () = OrK (fieldL P t cs i) K (PurX P (.field t (.const (.agg cs)) i) ty K ()) () :=
  OrK_by (fun v h => (r_field t ty cs i v h).pur K) rfl
attribute [go_sem] fieldL partL
@[go_sem] theorem OrK_bt {α : Type} (a b : Option α) (f : α → Prop) (d : Prop) : OrK (bif true then a else b) f d () = OrK a f d () := rfl
@[go_sem] theorem OrK_bf {α : Type} (a b : Option α) (f : α → Prop) (d : Prop) : OrK (bif false then a else b) f d () = OrK b f d () := rfl
def chL (s : ByteArray) (i : Int) : Option Value := if 0 ≤ i then (s[i.toNat]?).map fun b => .int .u8 b.toNat else none
theorem r_indexS (t ty : TypeId) (s : ByteArray) (k : IntKind) (i : Int) (v : Value) (ht : tkind P t = some 3) (h : chL s i = some v) : PureRun P (.index t (.const (.string s)) (.const (.int k i))) ty v := by
  unfold chL at h
  split at h
  · rename_i hi
    obtain ⟨b, hb, rfl⟩ := Option.map_eq_some_iff.1 h
    exact ⟨fun ρ hg w => by simp [execOp, mkOper, hg.1, Instr.index, asIntOf, run_underlying (tkind_3 ht), hi, hb]⟩
  · simp at h
@[go_sem] theorem x_indexS (t ty : TypeId) (s : ByteArray) (k : IntKind) (i : Int) (K : Value → World → Prop) (w : World) (ht : tkind P t = some 3) : OpX P (.index t (.const (.string s)) (.const (.int k i))) ty K w = OrK (chL s i) (fun v => K v w) (OpX P (.index t (.const (.string s)) (.const (.int k i))) ty K w) () :=
  OrK_by (fun v h => (r_indexS t ty s k i v ht h).op K w) rfl
@[go_sem] theorem p_indexS (t ty : TypeId) (s : ByteArray) (k : IntKind) (i : Int) (K : Value → Prop) (ht : tkind P t = some 3) : PurX P (.index t (.const (.string s)) (.const (.int k i))) ty K () = OrK (chL s i) K (PurX P (.index t (.const (.string s)) (.const (.int k i))) ty K ()) () :=
  OrK_by (fun v h => (r_indexS t ty s k i v ht h).pur K) rfl
theorem r_slice3 (t ty : TypeId) (b o len cap n : Nat) (k k' k'' : IntKind) (i j q : Int) (h : tslice P t = some n) (h0 : 0 ≤ i) (h1 : i ≤ j) (h2 : j ≤ q) (h3 : q ≤ cap) : PureRun P (.slice t (.const (.slice (some ⟨b, o, none⟩) len cap)) (some (.const (.int k i))) (some (.const (.int k' j))) (some (.const (.int k'' q)))) ty (.slice (some ⟨b, slo o q.toNat i.toNat n, none⟩) (j.toNat - i.toNat) (q.toNat - i.toNat)) := by
  obtain ⟨e, hu, hs⟩ := tslice_u h
  refine ⟨fun ρ hg w => ?_⟩
  have h4 : 0 ≤ q := by omega
  have h5 : 0 ≤ j := by omega
  have h6 : j ≤ max q 0 := by omega
  have h7 : i ≤ max j 0 := by omega
  simp [execOp, mkOper, hg.1, Instr.sliceAt, Instr.slice, Instr.sliceBounds, Instr.sliceBound, asIntOf, run_underlying hu, run_size hs, h0, h3, h4, h5, slo_add]
  rw [if_pos h6]
  simp [h7, slo_add]
@[go_sem] theorem x_slice3 (t ty : TypeId) (b o len cap : Nat) (k k' k'' : IntKind) (i j q : Int) (K : Value → World → Prop) (w : World) (h0 : 0 ≤ i) (h1 : i ≤ j) (h2 : j ≤ q) (h3 : q ≤ cap) : OpX P (.slice t (.const (.slice (some ⟨b, o, none⟩) len cap)) (some (.const (.int k i))) (some (.const (.int k' j))) (some (.const (.int k'' q)))) ty K w = OrK (tslice P t) (fun n => K (.slice (some ⟨b, slo o q.toNat i.toNat n, none⟩) (j.toNat - i.toNat) (q.toNat - i.toNat)) w) (OpX P (.slice t (.const (.slice (some ⟨b, o, none⟩) len cap)) (some (.const (.int k i))) (some (.const (.int k' j))) (some (.const (.int k'' q)))) ty K w) () :=
  OrK_by (fun n h => (r_slice3 t ty b o len cap n k k' k'' i j q h h0 h1 h2 h3).op K w) rfl
@[go_sem] theorem p_slice3 (t ty : TypeId) (b o len cap : Nat) (k k' k'' : IntKind) (i j q : Int) (K : Value → Prop) (h0 : 0 ≤ i) (h1 : i ≤ j) (h2 : j ≤ q) (h3 : q ≤ cap) : PurX P (.slice t (.const (.slice (some ⟨b, o, none⟩) len cap)) (some (.const (.int k i))) (some (.const (.int k' j))) (some (.const (.int k'' q)))) ty K () = OrK (tslice P t) (fun n => K (.slice (some ⟨b, slo o q.toNat i.toNat n, none⟩) (j.toNat - i.toNat) (q.toNat - i.toNat))) (PurX P (.slice t (.const (.slice (some ⟨b, o, none⟩) len cap)) (some (.const (.int k i))) (some (.const (.int k' j))) (some (.const (.int k'' q)))) ty K ()) () :=
  OrK_by (fun n h => (r_slice3 t ty b o len cap n k k' k'' i j q h h0 h1 h2 h3).pur K) rfl
def eqI : Option Value → Option Value → Option Bool
  | some (.int k a), some (.int k' b) => if k = k' then some (decide (a = b)) else none
  | _, _ => none
def eqB : Option Value → Option Value → Option Bool
  | some (.bool a), some (.bool b) => some (a == b)
  | _, _ => none
def eqS : Option Value → Option Value → Option Bool
  | some (.string a), some (.string b) => some (a.toList == b.toList)
  | _, _ => none
def eq1 (k : Nat) (u v : Option Value) : Option Bool := if k = 8 then eqI u v else if k = 9 then eqB u v else eqS u v
theorem eqI_spec {u v : Option Value} {b : Bool} (h : eqI u v = some b) : ∃ k x y, u = some (.int k x) ∧ v = some (.int k y) ∧ b = decide (x = y) := by
  unfold eqI at h
  split at h
  · split at h
    · rename_i hk; subst hk; simp at h; exact ⟨_, _, _, rfl, rfl, h.symm⟩
    · simp at h
  · simp at h
theorem eqB_spec {u v : Option Value} {b : Bool} (h : eqB u v = some b) : ∃ x y, u = some (.bool x) ∧ v = some (.bool y) ∧ b = (x == y) := by
  unfold eqB at h
  split at h
  · simp at h; exact ⟨_, _, rfl, rfl, h.symm⟩
  · simp at h
theorem eqS_spec {u v : Option Value} {b : Bool} (h : eqS u v = some b) : ∃ x y, u = some (.string x) ∧ v = some (.string y) ∧ b = (x.toList == y.toList) := by
  unfold eqS at h
  split at h
  · simp at h; exact ⟨_, _, rfl, rfl, h.symm⟩
  · simp at h
def eqFlat (xs ys : Array Value) : List (Nat × Nat) → Option Bool
  | [] => some true
  | p :: l => (eq1 p.2 xs[p.1]? ys[p.1]?).bind fun b => (eqFlat xs ys l).map fun r => b && r
@[go_sem] theorem eqFlat_nil (xs ys : Array Value) : eqFlat xs ys [] = some true := rfl
@[go_sem] theorem eqFlat_cons (xs ys : Array Value) (p : Nat × Nat) (l : List (Nat × Nat)) : eqFlat xs ys (p :: l) = (eq1 p.2 xs[p.1]? ys[p.1]?).bind fun b => (eqFlat xs ys l).map fun r => b && r := rfl
@[go_sem] theorem eq1_int (k : IntKind) (a b : Int) : eq1 8 (some (.int k a)) (some (.int k b)) = some (decide (a = b)) := by simp [eq1, eqI]
@[go_sem] theorem eq1_bool (a b : Bool) : eq1 9 (some (.bool a)) (some (.bool b)) = some (a == b) := rfl
@[go_sem] theorem eq1_str (a b : ByteArray) : eq1 3 (some (.string a)) (some (.string b)) = some (a.toList == b.toList) := rfl
theorem tkind_8 {t : TypeId} (h : tkind P t = some 8) : ∃ k, P.underlying t = some (.int k) := by
  unfold tkind at h
  cases hu : P.underlying t with
  | none => rw [hu] at h; simp at h
  | some d => rw [hu] at h; cases d <;> simp at h; exact ⟨_, rfl⟩
theorem run_eqFields (d : Nat) (xs ys : Array Value) (w : World) : ∀ (fs : List Field) (l : List (Nat × Nat)) (r : Bool), tflatF P fs = some l → eqFlat xs ys l = some r → (Op.eqFields (d + 1) xs ys fs).run P w = .ok r w
  | [], l, r, h, h2 => by
    simp [tflatF] at h; subst h
    simp [eqFlat] at h2; subst h2
    simp [Op.eqFields]
  | f :: fs, l, r, h, h2 => by
    unfold tflatF at h
    split at h
    · simp at h
    · rename_i hn
      obtain ⟨k, hk, h⟩ := Option.bind_eq_some_iff.1 h
      obtain ⟨b, hb, h⟩ := Option.bind_eq_some_iff.1 h
      cases b with
      | true => simp at h
      | false =>
        simp only [cond_false] at h
        split at h
        · rename_i hk3
          obtain ⟨l', hl', rfl⟩ := Option.map_eq_some_iff.1 h
          rw [eqFlat_cons] at h2
          obtain ⟨b, h3, h2⟩ := Option.bind_eq_some_iff.1 h2
          obtain ⟨r', h4, rfl⟩ := Option.map_eq_some_iff.1 h2
          have ih := run_eqFields d xs ys w fs l' r' hl' h4
          dsimp only at h3
          have key : ∃ u v, xs[f.offset]? = some u ∧ ys[f.offset]? = some v ∧ (Op.equalIn (d + 1) f.type u v).run P w = .ok b w := by
            rcases hk3 with rfl | rfl | rfl
            · obtain ⟨kk, hu⟩ := tkind_8 hk
              obtain ⟨k, x, y, e1, e2, rfl⟩ := eqI_spec h3
              refine ⟨_, _, e1, e2, ?_⟩
              simp [Op.equalIn, run_underlying hu]
              rfl
            · have hu := tkind_9 hk
              obtain ⟨x, y, e1, e2, rfl⟩ := eqB_spec h3
              exact ⟨_, _, e1, e2, by simp [Op.equalIn, run_underlying hu]⟩
            · have hu := tkind_3 hk
              obtain ⟨x, y, e1, e2, rfl⟩ := eqS_spec h3
              refine ⟨_, _, e1, e2, ?_⟩
              simp [Op.equalIn, run_underlying hu, beq_toListBytes]
          obtain ⟨u, v, hu, hv, hr⟩ := key
          have hpu : (part f.type xs f.offset).run P w = .ok u w := run_part (by simp [partL, hb, hu]) w
          have hpv : (part f.type ys f.offset).run P w = .ok v w := run_part (by simp [partL, hb, hv]) w
          simp only [Op.eqFields, hn, ne_eq, not_false_eq_true, if_true, Sem.run_bind, hpu, hpv, Result.andThen_ok, hr]
          cases b <;> simp [ih]
        · simp at h
theorem eq_flat {t : TypeId} {xs ys : Array Value} {l : List (Nat × Nat)} {r : Bool} (h : tflat P t = some l) (h2 : eqFlat xs ys l = some r) :
    (∀ op x y w, (eqGuard op t x y (.agg xs) (.agg ys)).run P w = .ok () w) ∧ ∀ w, (Op.equal t (.agg xs) (.agg ys)).run P w = .ok r w := by
  unfold tflat at h
  cases hu : P.underlying t with
  | none => rw [hu] at h; simp at h
  | some d =>
    rw [hu] at h
    cases d <;> first | (simp at h; done) | skip
    rename_i fs
    simp only [Option.bind_some] at h
    split at h
    · simp at h
    · rename_i hs
      simp only [Bool.or_eq_true, not_or, Bool.not_eq_true] at hs
      constructor
      · intro op x y w
        unfold eqGuard
        cases op <;> simp [hs.2]
      · intro w
        have hff : P.fieldsOf t = fs := by simp [Program.fieldsOf, hu]
        have := run_equalIn_struct (P := P) w 9999 t xs ys (by rw [hff]; exact hu) hs.1
        unfold Op.equal Op.maxDepth
        rw [this, hff]
        exact run_eqFields 9998 xs ys w fs.toList l r h h2
theorem r_flat {t : TypeId} {xs ys : Array Value} {r : Bool} (h : (tflat P t).bind (eqFlat xs ys) = some r) : PureBin P .eql t (.agg xs) (.agg ys) (.bool r) := by
  obtain ⟨l, h1, h2⟩ := Option.bind_eq_some_iff.1 h
  obtain ⟨h3, h4⟩ := eq_flat h1 h2
  refine ⟨fun x y w => ?_⟩
  unfold binS
  simp [h3, binOp, h4]
theorem r_nflat {t : TypeId} {xs ys : Array Value} {r : Bool} (h : (tflat P t).bind (eqFlat xs ys) = some r) : PureBin P .neq t (.agg xs) (.agg ys) (.bool (!r)) := by
  obtain ⟨l, h1, h2⟩ := Option.bind_eq_some_iff.1 h
  obtain ⟨h3, h4⟩ := eq_flat h1 h2
  refine ⟨fun x y w => ?_⟩
  unfold binS
  simp [h3, binOp, h4]
@[go_sem] theorem x_eql_agg (t : TypeId) (xs ys : Array Value) (K : Value → World → Prop) (w : World) : BinX P .eql t (.agg xs) (.agg ys) K w = OrK ((tflat P t).bind (eqFlat xs ys)) (fun r => K (.bool r) w) (BinX P .eql t (.agg xs) (.agg ys) K w) () := OrK_by (fun r h => (r_flat h).op K w) rfl
@[go_sem] theorem x_neq_agg (t : TypeId) (xs ys : Array Value) (K : Value → World → Prop) (w : World) : BinX P .neq t (.agg xs) (.agg ys) K w = OrK ((tflat P t).bind (eqFlat xs ys)) (fun r => K (.bool (!r)) w) (BinX P .neq t (.agg xs) (.agg ys) K w) () := OrK_by (fun r h => (r_nflat h).op K w) rfl
@[go_sem] theorem q_eql_agg (t : TypeId) (xs ys : Array Value) (K : Value → Prop) (w : World) : RdB P .eql t (.agg xs) (.agg ys) K w = OrK ((tflat P t).bind (eqFlat xs ys)) (fun r => K (.bool r)) (RdB P .eql t (.agg xs) (.agg ys) K w) () := OrK_by (fun r h => (r_flat h).rd K w) rfl
@[go_sem] theorem q_neq_agg (t : TypeId) (xs ys : Array Value) (K : Value → Prop) (w : World) : RdB P .neq t (.agg xs) (.agg ys) K w = OrK ((tflat P t).bind (eqFlat xs ys)) (fun r => K (.bool (!r))) (RdB P .neq t (.agg xs) (.agg ys) K w) () := OrK_by (fun r h => (r_nflat h).rd K w) rfl
@[go_sem] theorem y_eql_agg (t : TypeId) (xs ys : Array Value) (u : Value) (w : World) : YldB P .eql t (.agg xs) (.agg ys) u w = OrK ((tflat P t).bind (eqFlat xs ys)) (fun r => u = .bool r) (YldB P .eql t (.agg xs) (.agg ys) u w) () := OrK_by (fun r h => (r_flat h).yld u w) rfl
@[go_sem] theorem y_neq_agg (t : TypeId) (xs ys : Array Value) (u : Value) (w : World) : YldB P .neq t (.agg xs) (.agg ys) u w = OrK ((tflat P t).bind (eqFlat xs ys)) (fun r => u = .bool (!r)) (YldB P .neq t (.agg xs) (.agg ys) u w) () := OrK_by (fun r h => (r_nflat h).yld u w) rfl
theorem r_cat (t : TypeId) (a b : ByteArray) (h : (a.size : Int) + (b.size : Int) ≤ 9223372036854775807) : PureBin P .add t (.string a) (.string b) (.string (a ++ b)) := ⟨fun x y w => by simp [binS, eqGuard, binOp, Op.stringOp, h]⟩
@[go_sem] theorem x_cat (t : TypeId) (a b : ByteArray) (K : Value → World → Prop) (w : World) (h : (a.size : Int) + (b.size : Int) ≤ 9223372036854775807) : BinX P .add t (.string a) (.string b) K w = K (.string (a ++ b)) w := (r_cat t a b h).op K w
@[go_sem] theorem p_cat (t : TypeId) (a b : ByteArray) (K : Value → Prop) (h : (a.size : Int) + (b.size : Int) ≤ 9223372036854775807) : PurB P .add t (.string a) (.string b) K () = K (.string (a ++ b)) := (r_cat t a b h).pur K
end
end Lyc
