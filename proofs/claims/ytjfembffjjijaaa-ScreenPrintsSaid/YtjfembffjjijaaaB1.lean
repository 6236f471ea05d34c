/- Helpers of this claim, part 1: engine, translated functions, contracts, plain laws. -/
import Derived.Test.YtjfembffjjijaaaB0
import Derived.ProofKit
import Derived.Deep.Slices
import Derived.Deep.Fields
import Derived.ChangeSame
import Derived.Laws.OwnMore
import Derived.Laws.AppendOwn
import Derived.Great.BuildSlice
import Derived.Laws.MakeOwn
import Derived.Laws.AppendOwnNone
import Derived.Maps.AppendAt
import Derived.Deep.Matrix
import Derived.OpenShut
import Derived.Test.YtjfembffjjijaaaProg
set_option linter.unusedSimpArgs false
set_option linter.unusedVariables false
namespace Lyc
open Go
structure Chg (F : List Nat) (w w' : World) : Prop where
  os : w'.os = w.os
  tape : w'.tape = w.tape
  output : w'.output = w.output
  size : w.heap.size ≤ w'.heap.size
  same : ∀ b, b < w.heap.size → b ∉ F → w'.heap[b]? = w.heap[b]?
theorem Chg.refl (F : List Nat) (w : World) : Chg F w w := ⟨rfl, rfl, rfl, Nat.le_refl _, fun _ _ _ => rfl⟩
theorem Chg.trans {F F' : List Nat} {a b c : World} (h : Chg F a b) (k : Chg F' b c) (hf : ∀ x ∈ F', x ∈ F ∨ a.heap.size ≤ x) : Chg F a c :=
  ⟨k.os.trans h.os, k.tape.trans h.tape, k.output.trans h.output, Nat.le_trans h.size k.size, fun x hx hn => by
    rw [k.same x (Nat.lt_of_lt_of_le hx h.size) fun hm => (hf x hm).elim hn (fun hle => absurd hx (by omega)), h.same x hx hn]⟩
theorem Chg.trans0 {F : List Nat} {a b c : World} (h : Chg F a b) (k : Chg [] b c) : Chg F a c := h.trans k (by simp)
theorem Chg.mono {F F' : List Nat} {a b : World} (h : Chg F a b) (hf : ∀ x ∈ F, x ∈ F' ∨ a.heap.size ≤ x) : Chg F' a b := (Chg.refl F' a).trans h hf
theorem Chg.alloc {F : List Nat} {a b : World} (h : Chg F a b) (o : Obj) : Chg F a (b.alloc o) :=
  h.trans (F' := []) ⟨rfl, rfl, rfl, by simp, fun x hx _ => heap_alloc_old b o x hx⟩ (by simp)
theorem Chg.drew {F : List Nat} {a b : World} (h : Chg F a b) : Chg F a b.drew := ⟨h.os, h.tape, h.output, h.size, h.same⟩
theorem Chg.set {F : List Nat} {a b : World} (h : Chg F a b) (x : Nat) (o : Obj) (hx : x ∈ F ∨ a.heap.size ≤ x) : Chg F a (setBlk b x o) :=
  h.trans (F' := [x]) ⟨rfl, rfl, rfl, by rw [size_setBlk]; exact Nat.le_refl _, fun y _ hn => heap_set_other b x o y (by simpa using hn)⟩ (by simpa using hx)
theorem Chg.below {w w' : World} (h : Chg [] w w') : Go.RowKit.Below w.heap.size w w' := ⟨h.os, h.tape, h.output, h.size, fun k hk => h.same k hk (by simp)⟩
theorem Chg.lt {F : List Nat} {w w' : World} (h : Chg F w w') {b : Nat} (hb : b < w.heap.size) : b < w'.heap.size := Nat.lt_of_lt_of_le hb h.size
theorem Chg.keep {F : List Nat} {w w' : World} (h : Chg F w w') {b : Nat} {o : Obj} (hb : w.heap[b]? = some o) (hn : b ∉ F) : w'.heap[b]? = some o := (h.same b (lt_of_heap hb) hn).trans hb
def SlA (w : World) (v : Value) (len m : Nat) (g : Nat → List Value) : Prop :=
  ∃ a cap, v = .slice a len cap ∧ ∀ i, i < len → ∃ b o, a = some ⟨b, o, none⟩ ∧ b < w.heap.size ∧ aggAt w.heap[b]? (o + i * m) m = some (g i).toArray
theorem aggAt_of {x : Option Obj} {o n : Nat} {l : List Value} (hl : l.length = n) (h0 : 0 < n) (h : ∀ j, j < n → cellAt x (o + j) = l[j]?) : aggAt x o n = some l.toArray := by
  have h1 := h 0 h0
  have hl0 : ∃ v, l[0]? = some v := ⟨l[0]'(by omega), by simp⟩
  obtain ⟨v0, hl0⟩ := hl0
  rw [hl0] at h1
  cases x with
  | none => simp [cellAt] at h1
  | some x =>
    cases x with
    | cells c e fr =>
      rw [aggAt_cells]
      have hle : o + n ≤ c.size := by
        have := h (n - 1) (by omega)
        rw [cellAt_cells] at this
        rcases Nat.lt_or_ge (o + (n - 1)) c.size with h' | h'
        · omega
        · rw [Array.getElem?_eq_none h'] at this
          have : n - 1 < l.length := by omega
          simp [this] at *
      rw [if_pos hle]
      congr 1
      apply Array.ext_getElem?
      intro i
      rcases Nat.lt_or_ge i n with hi | hi
      · have := h i hi
        rw [cellAt_cells] at this
        rw [Array.getElem?_extract_of_lt (by omega), List.getElem?_toArray, ← this]
        simp [show o + i < c.size by omega]
      · rw [Array.getElem?_eq_none (by simp; omega), Array.getElem?_eq_none (by simp; omega)]
    | _ => simp [cellAt] at h1
theorem SlA.at {w w' : World} {v : Value} {len m : Nat} {g : Nat → List Value} (h : SlA w v len m g) {F : List Nat} (hc : Chg F w w') (hF : ∀ x ∈ F, w.heap.size ≤ x) (i : Nat) (hi : i < len) :
    ∃ a cap b o, v = .slice a len cap ∧ a = some ⟨b, o, none⟩ ∧ b < w.heap.size ∧ aggAt w'.heap[b]? (o + i * m) m = some (g i).toArray := by
  obtain ⟨a, cap, hv, h⟩ := h
  obtain ⟨b, o, ha, hb, he⟩ := h i hi
  exact ⟨a, cap, b, o, hv, ha, hb, by rw [hc.same b hb fun hm => absurd (hF b hm) (by omega)]; exact he⟩
noncomputable def least (p : Nat → Prop) : Nat := open Classical in if h : ∃ n, p n ∧ ∀ m, p m → n ≤ m then Classical.choose h else 0
theorem least_spec {p : Nat → Prop} {n : Nat} (h : p n) : p (least p) ∧ ∀ m, p m → least p ≤ m := by
  have : ∃ n, p n ∧ ∀ m, p m → n ≤ m := by
    induction n using Nat.strongRecOn with
    | ind n ih =>
      by_cases hh : ∃ m, m < n ∧ p m
      · obtain ⟨m, hm, hp⟩ := hh; exact ih m hm hp
      · exact ⟨n, h, fun m hm => Nat.not_lt.mp fun hl => hh ⟨m, hl, hm⟩⟩
  unfold least
  rw [dif_pos this]
  exact Classical.choose_spec this
theorem Join0.cutK {M : (World → Prop) → World → Prop} {K : World → Prop} {w : World} (R : World → Prop) (h : ∀ k : World → Prop, (∀ w', R w' → k w') → M k w) (hk : ∀ w', R w' → K w') : Join0 M K w := ⟨R, h R (fun _ h => h), hk⟩
theorem Join1.cutK {M : (Value → World → Prop) → World → Prop} {K : Value → World → Prop} {w : World} (R : Value → World → Prop) (h : ∀ k : Value → World → Prop, (∀ u0 w', R u0 w' → k u0 w') → M k w) (hk : ∀ u0 w', R u0 w' → K u0 w') : Join1 M K w := ⟨R, h R (fun _ _ h => h), hk⟩
theorem Join2.cutK {M : (Value → Value → World → Prop) → World → Prop} {K : Value → Value → World → Prop} {w : World} (R : Value → Value → World → Prop) (h : ∀ k : Value → Value → World → Prop, (∀ u0 u1 w', R u0 u1 w' → k u0 u1 w') → M k w) (hk : ∀ u0 u1 w', R u0 u1 w' → K u0 u1 w') : Join2 M K w := ⟨R, h R (fun _ _ _ h => h), hk⟩
theorem Join3.cutK {M : (Value → Value → Value → World → Prop) → World → Prop} {K : Value → Value → Value → World → Prop} {w : World} (R : Value → Value → Value → World → Prop) (h : ∀ k : Value → Value → Value → World → Prop, (∀ u0 u1 u2 w', R u0 u1 u2 w' → k u0 u1 u2 w') → M k w) (hk : ∀ u0 u1 u2 w', R u0 u1 u2 w' → K u0 u1 u2 w') : Join3 M K w := ⟨R, h R (fun _ _ _ _ h => h), hk⟩
theorem Join4.cutK {M : (Value → Value → Value → Value → World → Prop) → World → Prop} {K : Value → Value → Value → Value → World → Prop} {w : World} (R : Value → Value → Value → Value → World → Prop) (h : ∀ k : Value → Value → Value → Value → World → Prop, (∀ u0 u1 u2 u3 w', R u0 u1 u2 u3 w' → k u0 u1 u2 u3 w') → M k w) (hk : ∀ u0 u1 u2 u3 w', R u0 u1 u2 u3 w' → K u0 u1 u2 u3 w') : Join4 M K w := ⟨R, h R (fun _ _ _ _ _ h => h), hk⟩
theorem Join5.cutK {M : (Value → Value → Value → Value → Value → World → Prop) → World → Prop} {K : Value → Value → Value → Value → Value → World → Prop} {w : World} (R : Value → Value → Value → Value → Value → World → Prop) (h : ∀ k : Value → Value → Value → Value → Value → World → Prop, (∀ u0 u1 u2 u3 u4 w', R u0 u1 u2 u3 u4 w' → k u0 u1 u2 u3 u4 w') → M k w) (hk : ∀ u0 u1 u2 u3 u4 w', R u0 u1 u2 u3 u4 w' → K u0 u1 u2 u3 u4 w') : Join5 M K w := ⟨R, h R (fun _ _ _ _ _ _ h => h), hk⟩
theorem Join6.cutK {M : (Value → Value → Value → Value → Value → Value → World → Prop) → World → Prop} {K : Value → Value → Value → Value → Value → Value → World → Prop} {w : World} (R : Value → Value → Value → Value → Value → Value → World → Prop) (h : ∀ k : Value → Value → Value → Value → Value → Value → World → Prop, (∀ u0 u1 u2 u3 u4 u5 w', R u0 u1 u2 u3 u4 u5 w' → k u0 u1 u2 u3 u4 u5 w') → M k w) (hk : ∀ u0 u1 u2 u3 u4 u5 w', R u0 u1 u2 u3 u4 u5 w' → K u0 u1 u2 u3 u4 u5 w') : Join6 M K w := ⟨R, h R (fun _ _ _ _ _ _ _ h => h), hk⟩
theorem Join7.cutK {M : (Value → Value → Value → Value → Value → Value → Value → World → Prop) → World → Prop} {K : Value → Value → Value → Value → Value → Value → Value → World → Prop} {w : World} (R : Value → Value → Value → Value → Value → Value → Value → World → Prop) (h : ∀ k : Value → Value → Value → Value → Value → Value → Value → World → Prop, (∀ u0 u1 u2 u3 u4 u5 u6 w', R u0 u1 u2 u3 u4 u5 u6 w' → k u0 u1 u2 u3 u4 u5 u6 w') → M k w) (hk : ∀ u0 u1 u2 u3 u4 u5 u6 w', R u0 u1 u2 u3 u4 u5 u6 w' → K u0 u1 u2 u3 u4 u5 u6 w') : Join7 M K w := ⟨R, h R (fun _ _ _ _ _ _ _ _ h => h), hk⟩
theorem Join8.cutK {M : (Value → Value → Value → Value → Value → Value → Value → Value → World → Prop) → World → Prop} {K : Value → Value → Value → Value → Value → Value → Value → Value → World → Prop} {w : World} (R : Value → Value → Value → Value → Value → Value → Value → Value → World → Prop) (h : ∀ k : Value → Value → Value → Value → Value → Value → Value → Value → World → Prop, (∀ u0 u1 u2 u3 u4 u5 u6 u7 w', R u0 u1 u2 u3 u4 u5 u6 u7 w' → k u0 u1 u2 u3 u4 u5 u6 u7 w') → M k w) (hk : ∀ u0 u1 u2 u3 u4 u5 u6 u7 w', R u0 u1 u2 u3 u4 u5 u6 u7 w' → K u0 u1 u2 u3 u4 u5 u6 u7 w') : Join8 M K w := ⟨R, h R (fun _ _ _ _ _ _ _ _ _ h => h), hk⟩
theorem Loop0.st {body : (World → Prop) → World → Prop} {w : World} {St : Type} (I : St → World → Prop) (μ : St → Nat) (s : St) (h0 : I s w)
    (round : ∀ (next : World → Prop) (s : St) (w : World), (∀ s' w', I s' w' → μ s' < μ s → next w') → I s w → body next w) : Loop0 body w := by
  refine ⟨fun w' => ∃ s, (True) ∧ I s w', fun w' => least fun n => ∃ s, (True) ∧ I s w' ∧ μ s = n, ⟨s, trivial, h0⟩, ?_⟩
  rintro w ⟨sa, ha, hIa⟩
  obtain ⟨⟨s, hs, hI, hm⟩, -⟩ := least_spec (p := fun n => ∃ s, (True) ∧ I s w ∧ μ s = n) ⟨sa, ha, hIa, rfl⟩
  obtain - := hs
  refine round _ s w (fun s' w' hI' hlt => ⟨⟨s', trivial, hI'⟩, ?_⟩) hI
  rw [← hm]
  exact Nat.lt_of_le_of_lt ((least_spec (p := fun n => ∃ s, _ ∧ I s w' ∧ μ s = n) ⟨s', trivial, hI', rfl⟩).2 _ ⟨s', trivial, hI', rfl⟩) hlt
theorem Loop1.st {s0 : Value} {body : Value → (Value → World → Prop) → World → Prop} {w : World} {St : Type} (f0 : St → Value) (I : St → World → Prop) (μ : St → Nat) (s : St) (e0 : s0 = f0 s) (h0 : I s w)
    (round : ∀ (next : Value → World → Prop) (s : St) (w : World), (∀ s' w', I s' w' → μ s' < μ s → next (f0 s') w') → I s w → body (f0 s) next w) : Loop1 s0 body w := by
  refine ⟨fun v0 w' => ∃ s, (v0 = f0 s ∧ True) ∧ I s w', fun v0 w' => least fun n => ∃ s, (v0 = f0 s ∧ True) ∧ I s w' ∧ μ s = n, ⟨s, ⟨e0, trivial⟩, h0⟩, ?_⟩
  rintro v0 w ⟨sa, ha, hIa⟩
  obtain ⟨⟨s, hs, hI, hm⟩, -⟩ := least_spec (p := fun n => ∃ s, (v0 = f0 s ∧ True) ∧ I s w ∧ μ s = n) ⟨sa, ha, hIa, rfl⟩
  obtain ⟨rfl, -⟩ := hs
  refine round _ s w (fun s' w' hI' hlt => ⟨⟨s', ⟨rfl, trivial⟩, hI'⟩, ?_⟩) hI
  rw [← hm]
  exact Nat.lt_of_le_of_lt ((least_spec (p := fun n => ∃ s, _ ∧ I s w' ∧ μ s = n) ⟨s', ⟨rfl, trivial⟩, hI', rfl⟩).2 _ ⟨s', ⟨rfl, trivial⟩, hI', rfl⟩) hlt
theorem Loop2.st {s0 s1 : Value} {body : Value → Value → (Value → Value → World → Prop) → World → Prop} {w : World} {St : Type} (f0 f1 : St → Value) (I : St → World → Prop) (μ : St → Nat) (s : St) (e0 : s0 = f0 s) (e1 : s1 = f1 s) (h0 : I s w)
    (round : ∀ (next : Value → Value → World → Prop) (s : St) (w : World), (∀ s' w', I s' w' → μ s' < μ s → next (f0 s') (f1 s') w') → I s w → body (f0 s) (f1 s) next w) : Loop2 s0 s1 body w := by
  refine ⟨fun v0 v1 w' => ∃ s, (v0 = f0 s ∧ v1 = f1 s ∧ True) ∧ I s w', fun v0 v1 w' => least fun n => ∃ s, (v0 = f0 s ∧ v1 = f1 s ∧ True) ∧ I s w' ∧ μ s = n, ⟨s, ⟨e0, e1, trivial⟩, h0⟩, ?_⟩
  rintro v0 v1 w ⟨sa, ha, hIa⟩
  obtain ⟨⟨s, hs, hI, hm⟩, -⟩ := least_spec (p := fun n => ∃ s, (v0 = f0 s ∧ v1 = f1 s ∧ True) ∧ I s w ∧ μ s = n) ⟨sa, ha, hIa, rfl⟩
  obtain ⟨rfl, rfl, -⟩ := hs
  refine round _ s w (fun s' w' hI' hlt => ⟨⟨s', ⟨rfl, rfl, trivial⟩, hI'⟩, ?_⟩) hI
  rw [← hm]
  exact Nat.lt_of_le_of_lt ((least_spec (p := fun n => ∃ s, _ ∧ I s w' ∧ μ s = n) ⟨s', ⟨rfl, rfl, trivial⟩, hI', rfl⟩).2 _ ⟨s', ⟨rfl, rfl, trivial⟩, hI', rfl⟩) hlt
theorem Loop3.st {s0 s1 s2 : Value} {body : Value → Value → Value → (Value → Value → Value → World → Prop) → World → Prop} {w : World} {St : Type} (f0 f1 f2 : St → Value) (I : St → World → Prop) (μ : St → Nat) (s : St) (e0 : s0 = f0 s) (e1 : s1 = f1 s) (e2 : s2 = f2 s) (h0 : I s w)
    (round : ∀ (next : Value → Value → Value → World → Prop) (s : St) (w : World), (∀ s' w', I s' w' → μ s' < μ s → next (f0 s') (f1 s') (f2 s') w') → I s w → body (f0 s) (f1 s) (f2 s) next w) : Loop3 s0 s1 s2 body w := by
  refine ⟨fun v0 v1 v2 w' => ∃ s, (v0 = f0 s ∧ v1 = f1 s ∧ v2 = f2 s ∧ True) ∧ I s w', fun v0 v1 v2 w' => least fun n => ∃ s, (v0 = f0 s ∧ v1 = f1 s ∧ v2 = f2 s ∧ True) ∧ I s w' ∧ μ s = n, ⟨s, ⟨e0, e1, e2, trivial⟩, h0⟩, ?_⟩
  rintro v0 v1 v2 w ⟨sa, ha, hIa⟩
  obtain ⟨⟨s, hs, hI, hm⟩, -⟩ := least_spec (p := fun n => ∃ s, (v0 = f0 s ∧ v1 = f1 s ∧ v2 = f2 s ∧ True) ∧ I s w ∧ μ s = n) ⟨sa, ha, hIa, rfl⟩
  obtain ⟨rfl, rfl, rfl, -⟩ := hs
  refine round _ s w (fun s' w' hI' hlt => ⟨⟨s', ⟨rfl, rfl, rfl, trivial⟩, hI'⟩, ?_⟩) hI
  rw [← hm]
  exact Nat.lt_of_le_of_lt ((least_spec (p := fun n => ∃ s, _ ∧ I s w' ∧ μ s = n) ⟨s', ⟨rfl, rfl, rfl, trivial⟩, hI', rfl⟩).2 _ ⟨s', ⟨rfl, rfl, rfl, trivial⟩, hI', rfl⟩) hlt
theorem Loop4.st {s0 s1 s2 s3 : Value} {body : Value → Value → Value → Value → (Value → Value → Value → Value → World → Prop) → World → Prop} {w : World} {St : Type} (f0 f1 f2 f3 : St → Value) (I : St → World → Prop) (μ : St → Nat) (s : St) (e0 : s0 = f0 s) (e1 : s1 = f1 s) (e2 : s2 = f2 s) (e3 : s3 = f3 s) (h0 : I s w)
    (round : ∀ (next : Value → Value → Value → Value → World → Prop) (s : St) (w : World), (∀ s' w', I s' w' → μ s' < μ s → next (f0 s') (f1 s') (f2 s') (f3 s') w') → I s w → body (f0 s) (f1 s) (f2 s) (f3 s) next w) : Loop4 s0 s1 s2 s3 body w := by
  refine ⟨fun v0 v1 v2 v3 w' => ∃ s, (v0 = f0 s ∧ v1 = f1 s ∧ v2 = f2 s ∧ v3 = f3 s ∧ True) ∧ I s w', fun v0 v1 v2 v3 w' => least fun n => ∃ s, (v0 = f0 s ∧ v1 = f1 s ∧ v2 = f2 s ∧ v3 = f3 s ∧ True) ∧ I s w' ∧ μ s = n, ⟨s, ⟨e0, e1, e2, e3, trivial⟩, h0⟩, ?_⟩
  rintro v0 v1 v2 v3 w ⟨sa, ha, hIa⟩
  obtain ⟨⟨s, hs, hI, hm⟩, -⟩ := least_spec (p := fun n => ∃ s, (v0 = f0 s ∧ v1 = f1 s ∧ v2 = f2 s ∧ v3 = f3 s ∧ True) ∧ I s w ∧ μ s = n) ⟨sa, ha, hIa, rfl⟩
  obtain ⟨rfl, rfl, rfl, rfl, -⟩ := hs
  refine round _ s w (fun s' w' hI' hlt => ⟨⟨s', ⟨rfl, rfl, rfl, rfl, trivial⟩, hI'⟩, ?_⟩) hI
  rw [← hm]
  exact Nat.lt_of_le_of_lt ((least_spec (p := fun n => ∃ s, _ ∧ I s w' ∧ μ s = n) ⟨s', ⟨rfl, rfl, rfl, rfl, trivial⟩, hI', rfl⟩).2 _ ⟨s', ⟨rfl, rfl, rfl, rfl, trivial⟩, hI', rfl⟩) hlt
theorem Loop5.st {s0 s1 s2 s3 s4 : Value} {body : Value → Value → Value → Value → Value → (Value → Value → Value → Value → Value → World → Prop) → World → Prop} {w : World} {St : Type} (f0 f1 f2 f3 f4 : St → Value) (I : St → World → Prop) (μ : St → Nat) (s : St) (e0 : s0 = f0 s) (e1 : s1 = f1 s) (e2 : s2 = f2 s) (e3 : s3 = f3 s) (e4 : s4 = f4 s) (h0 : I s w)
    (round : ∀ (next : Value → Value → Value → Value → Value → World → Prop) (s : St) (w : World), (∀ s' w', I s' w' → μ s' < μ s → next (f0 s') (f1 s') (f2 s') (f3 s') (f4 s') w') → I s w → body (f0 s) (f1 s) (f2 s) (f3 s) (f4 s) next w) : Loop5 s0 s1 s2 s3 s4 body w := by
  refine ⟨fun v0 v1 v2 v3 v4 w' => ∃ s, (v0 = f0 s ∧ v1 = f1 s ∧ v2 = f2 s ∧ v3 = f3 s ∧ v4 = f4 s ∧ True) ∧ I s w', fun v0 v1 v2 v3 v4 w' => least fun n => ∃ s, (v0 = f0 s ∧ v1 = f1 s ∧ v2 = f2 s ∧ v3 = f3 s ∧ v4 = f4 s ∧ True) ∧ I s w' ∧ μ s = n, ⟨s, ⟨e0, e1, e2, e3, e4, trivial⟩, h0⟩, ?_⟩
  rintro v0 v1 v2 v3 v4 w ⟨sa, ha, hIa⟩
  obtain ⟨⟨s, hs, hI, hm⟩, -⟩ := least_spec (p := fun n => ∃ s, (v0 = f0 s ∧ v1 = f1 s ∧ v2 = f2 s ∧ v3 = f3 s ∧ v4 = f4 s ∧ True) ∧ I s w ∧ μ s = n) ⟨sa, ha, hIa, rfl⟩
  obtain ⟨rfl, rfl, rfl, rfl, rfl, -⟩ := hs
  refine round _ s w (fun s' w' hI' hlt => ⟨⟨s', ⟨rfl, rfl, rfl, rfl, rfl, trivial⟩, hI'⟩, ?_⟩) hI
  rw [← hm]
  exact Nat.lt_of_le_of_lt ((least_spec (p := fun n => ∃ s, _ ∧ I s w' ∧ μ s = n) ⟨s', ⟨rfl, rfl, rfl, rfl, rfl, trivial⟩, hI', rfl⟩).2 _ ⟨s', ⟨rfl, rfl, rfl, rfl, rfl, trivial⟩, hI', rfl⟩) hlt
theorem Loop6.st {s0 s1 s2 s3 s4 s5 : Value} {body : Value → Value → Value → Value → Value → Value → (Value → Value → Value → Value → Value → Value → World → Prop) → World → Prop} {w : World} {St : Type} (f0 f1 f2 f3 f4 f5 : St → Value) (I : St → World → Prop) (μ : St → Nat) (s : St) (e0 : s0 = f0 s) (e1 : s1 = f1 s) (e2 : s2 = f2 s) (e3 : s3 = f3 s) (e4 : s4 = f4 s) (e5 : s5 = f5 s) (h0 : I s w)
    (round : ∀ (next : Value → Value → Value → Value → Value → Value → World → Prop) (s : St) (w : World), (∀ s' w', I s' w' → μ s' < μ s → next (f0 s') (f1 s') (f2 s') (f3 s') (f4 s') (f5 s') w') → I s w → body (f0 s) (f1 s) (f2 s) (f3 s) (f4 s) (f5 s) next w) : Loop6 s0 s1 s2 s3 s4 s5 body w := by
  refine ⟨fun v0 v1 v2 v3 v4 v5 w' => ∃ s, (v0 = f0 s ∧ v1 = f1 s ∧ v2 = f2 s ∧ v3 = f3 s ∧ v4 = f4 s ∧ v5 = f5 s ∧ True) ∧ I s w', fun v0 v1 v2 v3 v4 v5 w' => least fun n => ∃ s, (v0 = f0 s ∧ v1 = f1 s ∧ v2 = f2 s ∧ v3 = f3 s ∧ v4 = f4 s ∧ v5 = f5 s ∧ True) ∧ I s w' ∧ μ s = n, ⟨s, ⟨e0, e1, e2, e3, e4, e5, trivial⟩, h0⟩, ?_⟩
  rintro v0 v1 v2 v3 v4 v5 w ⟨sa, ha, hIa⟩
  obtain ⟨⟨s, hs, hI, hm⟩, -⟩ := least_spec (p := fun n => ∃ s, (v0 = f0 s ∧ v1 = f1 s ∧ v2 = f2 s ∧ v3 = f3 s ∧ v4 = f4 s ∧ v5 = f5 s ∧ True) ∧ I s w ∧ μ s = n) ⟨sa, ha, hIa, rfl⟩
  obtain ⟨rfl, rfl, rfl, rfl, rfl, rfl, -⟩ := hs
  refine round _ s w (fun s' w' hI' hlt => ⟨⟨s', ⟨rfl, rfl, rfl, rfl, rfl, rfl, trivial⟩, hI'⟩, ?_⟩) hI
  rw [← hm]
  exact Nat.lt_of_le_of_lt ((least_spec (p := fun n => ∃ s, _ ∧ I s w' ∧ μ s = n) ⟨s', ⟨rfl, rfl, rfl, rfl, rfl, rfl, trivial⟩, hI', rfl⟩).2 _ ⟨s', ⟨rfl, rfl, rfl, rfl, rfl, rfl, trivial⟩, hI', rfl⟩) hlt
theorem Loop7.st {s0 s1 s2 s3 s4 s5 s6 : Value} {body : Value → Value → Value → Value → Value → Value → Value → (Value → Value → Value → Value → Value → Value → Value → World → Prop) → World → Prop} {w : World} {St : Type} (f0 f1 f2 f3 f4 f5 f6 : St → Value) (I : St → World → Prop) (μ : St → Nat) (s : St) (e0 : s0 = f0 s) (e1 : s1 = f1 s) (e2 : s2 = f2 s) (e3 : s3 = f3 s) (e4 : s4 = f4 s) (e5 : s5 = f5 s) (e6 : s6 = f6 s) (h0 : I s w)
    (round : ∀ (next : Value → Value → Value → Value → Value → Value → Value → World → Prop) (s : St) (w : World), (∀ s' w', I s' w' → μ s' < μ s → next (f0 s') (f1 s') (f2 s') (f3 s') (f4 s') (f5 s') (f6 s') w') → I s w → body (f0 s) (f1 s) (f2 s) (f3 s) (f4 s) (f5 s) (f6 s) next w) : Loop7 s0 s1 s2 s3 s4 s5 s6 body w := by
  refine ⟨fun v0 v1 v2 v3 v4 v5 v6 w' => ∃ s, (v0 = f0 s ∧ v1 = f1 s ∧ v2 = f2 s ∧ v3 = f3 s ∧ v4 = f4 s ∧ v5 = f5 s ∧ v6 = f6 s ∧ True) ∧ I s w', fun v0 v1 v2 v3 v4 v5 v6 w' => least fun n => ∃ s, (v0 = f0 s ∧ v1 = f1 s ∧ v2 = f2 s ∧ v3 = f3 s ∧ v4 = f4 s ∧ v5 = f5 s ∧ v6 = f6 s ∧ True) ∧ I s w' ∧ μ s = n, ⟨s, ⟨e0, e1, e2, e3, e4, e5, e6, trivial⟩, h0⟩, ?_⟩
  rintro v0 v1 v2 v3 v4 v5 v6 w ⟨sa, ha, hIa⟩
  obtain ⟨⟨s, hs, hI, hm⟩, -⟩ := least_spec (p := fun n => ∃ s, (v0 = f0 s ∧ v1 = f1 s ∧ v2 = f2 s ∧ v3 = f3 s ∧ v4 = f4 s ∧ v5 = f5 s ∧ v6 = f6 s ∧ True) ∧ I s w ∧ μ s = n) ⟨sa, ha, hIa, rfl⟩
  obtain ⟨rfl, rfl, rfl, rfl, rfl, rfl, rfl, -⟩ := hs
  refine round _ s w (fun s' w' hI' hlt => ⟨⟨s', ⟨rfl, rfl, rfl, rfl, rfl, rfl, rfl, trivial⟩, hI'⟩, ?_⟩) hI
  rw [← hm]
  exact Nat.lt_of_le_of_lt ((least_spec (p := fun n => ∃ s, _ ∧ I s w' ∧ μ s = n) ⟨s', ⟨rfl, rfl, rfl, rfl, rfl, rfl, rfl, trivial⟩, hI', rfl⟩).2 _ ⟨s', ⟨rfl, rfl, rfl, rfl, rfl, rfl, rfl, trivial⟩, hI', rfl⟩) hlt
theorem Loop8.st {s0 s1 s2 s3 s4 s5 s6 s7 : Value} {body : Value → Value → Value → Value → Value → Value → Value → Value → (Value → Value → Value → Value → Value → Value → Value → Value → World → Prop) → World → Prop} {w : World} {St : Type} (f0 f1 f2 f3 f4 f5 f6 f7 : St → Value) (I : St → World → Prop) (μ : St → Nat) (s : St) (e0 : s0 = f0 s) (e1 : s1 = f1 s) (e2 : s2 = f2 s) (e3 : s3 = f3 s) (e4 : s4 = f4 s) (e5 : s5 = f5 s) (e6 : s6 = f6 s) (e7 : s7 = f7 s) (h0 : I s w)
    (round : ∀ (next : Value → Value → Value → Value → Value → Value → Value → Value → World → Prop) (s : St) (w : World), (∀ s' w', I s' w' → μ s' < μ s → next (f0 s') (f1 s') (f2 s') (f3 s') (f4 s') (f5 s') (f6 s') (f7 s') w') → I s w → body (f0 s) (f1 s) (f2 s) (f3 s) (f4 s) (f5 s) (f6 s) (f7 s) next w) : Loop8 s0 s1 s2 s3 s4 s5 s6 s7 body w := by
  refine ⟨fun v0 v1 v2 v3 v4 v5 v6 v7 w' => ∃ s, (v0 = f0 s ∧ v1 = f1 s ∧ v2 = f2 s ∧ v3 = f3 s ∧ v4 = f4 s ∧ v5 = f5 s ∧ v6 = f6 s ∧ v7 = f7 s ∧ True) ∧ I s w', fun v0 v1 v2 v3 v4 v5 v6 v7 w' => least fun n => ∃ s, (v0 = f0 s ∧ v1 = f1 s ∧ v2 = f2 s ∧ v3 = f3 s ∧ v4 = f4 s ∧ v5 = f5 s ∧ v6 = f6 s ∧ v7 = f7 s ∧ True) ∧ I s w' ∧ μ s = n, ⟨s, ⟨e0, e1, e2, e3, e4, e5, e6, e7, trivial⟩, h0⟩, ?_⟩
  rintro v0 v1 v2 v3 v4 v5 v6 v7 w ⟨sa, ha, hIa⟩
  obtain ⟨⟨s, hs, hI, hm⟩, -⟩ := least_spec (p := fun n => ∃ s, (v0 = f0 s ∧ v1 = f1 s ∧ v2 = f2 s ∧ v3 = f3 s ∧ v4 = f4 s ∧ v5 = f5 s ∧ v6 = f6 s ∧ v7 = f7 s ∧ True) ∧ I s w ∧ μ s = n) ⟨sa, ha, hIa, rfl⟩
  obtain ⟨rfl, rfl, rfl, rfl, rfl, rfl, rfl, rfl, -⟩ := hs
  refine round _ s w (fun s' w' hI' hlt => ⟨⟨s', ⟨rfl, rfl, rfl, rfl, rfl, rfl, rfl, rfl, trivial⟩, hI'⟩, ?_⟩) hI
  rw [← hm]
  exact Nat.lt_of_le_of_lt ((least_spec (p := fun n => ∃ s, _ ∧ I s w' ∧ μ s = n) ⟨s', ⟨rfl, rfl, rfl, rfl, rfl, rfl, rfl, rfl, trivial⟩, hI', rfl⟩).2 _ ⟨s', ⟨rfl, rfl, rfl, rfl, rfl, rfl, rfl, rfl, trivial⟩, hI', rfl⟩) hlt
theorem Loop9.st {s0 s1 s2 s3 s4 s5 s6 s7 s8 : Value} {body : Value → Value → Value → Value → Value → Value → Value → Value → Value → (Value → Value → Value → Value → Value → Value → Value → Value → Value → World → Prop) → World → Prop} {w : World} {St : Type} (f0 f1 f2 f3 f4 f5 f6 f7 f8 : St → Value) (I : St → World → Prop) (μ : St → Nat) (s : St) (e0 : s0 = f0 s) (e1 : s1 = f1 s) (e2 : s2 = f2 s) (e3 : s3 = f3 s) (e4 : s4 = f4 s) (e5 : s5 = f5 s) (e6 : s6 = f6 s) (e7 : s7 = f7 s) (e8 : s8 = f8 s) (h0 : I s w)
    (round : ∀ (next : Value → Value → Value → Value → Value → Value → Value → Value → Value → World → Prop) (s : St) (w : World), (∀ s' w', I s' w' → μ s' < μ s → next (f0 s') (f1 s') (f2 s') (f3 s') (f4 s') (f5 s') (f6 s') (f7 s') (f8 s') w') → I s w → body (f0 s) (f1 s) (f2 s) (f3 s) (f4 s) (f5 s) (f6 s) (f7 s) (f8 s) next w) : Loop9 s0 s1 s2 s3 s4 s5 s6 s7 s8 body w := by
  refine ⟨fun v0 v1 v2 v3 v4 v5 v6 v7 v8 w' => ∃ s, (v0 = f0 s ∧ v1 = f1 s ∧ v2 = f2 s ∧ v3 = f3 s ∧ v4 = f4 s ∧ v5 = f5 s ∧ v6 = f6 s ∧ v7 = f7 s ∧ v8 = f8 s ∧ True) ∧ I s w', fun v0 v1 v2 v3 v4 v5 v6 v7 v8 w' => least fun n => ∃ s, (v0 = f0 s ∧ v1 = f1 s ∧ v2 = f2 s ∧ v3 = f3 s ∧ v4 = f4 s ∧ v5 = f5 s ∧ v6 = f6 s ∧ v7 = f7 s ∧ v8 = f8 s ∧ True) ∧ I s w' ∧ μ s = n, ⟨s, ⟨e0, e1, e2, e3, e4, e5, e6, e7, e8, trivial⟩, h0⟩, ?_⟩
  rintro v0 v1 v2 v3 v4 v5 v6 v7 v8 w ⟨sa, ha, hIa⟩
  obtain ⟨⟨s, hs, hI, hm⟩, -⟩ := least_spec (p := fun n => ∃ s, (v0 = f0 s ∧ v1 = f1 s ∧ v2 = f2 s ∧ v3 = f3 s ∧ v4 = f4 s ∧ v5 = f5 s ∧ v6 = f6 s ∧ v7 = f7 s ∧ v8 = f8 s ∧ True) ∧ I s w ∧ μ s = n) ⟨sa, ha, hIa, rfl⟩
  obtain ⟨rfl, rfl, rfl, rfl, rfl, rfl, rfl, rfl, rfl, -⟩ := hs
  refine round _ s w (fun s' w' hI' hlt => ⟨⟨s', ⟨rfl, rfl, rfl, rfl, rfl, rfl, rfl, rfl, rfl, trivial⟩, hI'⟩, ?_⟩) hI
  rw [← hm]
  exact Nat.lt_of_le_of_lt ((least_spec (p := fun n => ∃ s, _ ∧ I s w' ∧ μ s = n) ⟨s', ⟨rfl, rfl, rfl, rfl, rfl, rfl, rfl, rfl, rfl, trivial⟩, hI', rfl⟩).2 _ ⟨s', ⟨rfl, rfl, rfl, rfl, rfl, rfl, rfl, rfl, rfl, trivial⟩, hI', rfl⟩) hlt
theorem Loop10.st {s0 s1 s2 s3 s4 s5 s6 s7 s8 s9 : Value} {body : Value → Value → Value → Value → Value → Value → Value → Value → Value → Value → (Value → Value → Value → Value → Value → Value → Value → Value → Value → Value → World → Prop) → World → Prop} {w : World} {St : Type} (f0 f1 f2 f3 f4 f5 f6 f7 f8 f9 : St → Value) (I : St → World → Prop) (μ : St → Nat) (s : St) (e0 : s0 = f0 s) (e1 : s1 = f1 s) (e2 : s2 = f2 s) (e3 : s3 = f3 s) (e4 : s4 = f4 s) (e5 : s5 = f5 s) (e6 : s6 = f6 s) (e7 : s7 = f7 s) (e8 : s8 = f8 s) (e9 : s9 = f9 s) (h0 : I s w)
    (round : ∀ (next : Value → Value → Value → Value → Value → Value → Value → Value → Value → Value → World → Prop) (s : St) (w : World), (∀ s' w', I s' w' → μ s' < μ s → next (f0 s') (f1 s') (f2 s') (f3 s') (f4 s') (f5 s') (f6 s') (f7 s') (f8 s') (f9 s') w') → I s w → body (f0 s) (f1 s) (f2 s) (f3 s) (f4 s) (f5 s) (f6 s) (f7 s) (f8 s) (f9 s) next w) : Loop10 s0 s1 s2 s3 s4 s5 s6 s7 s8 s9 body w := by
  refine ⟨fun v0 v1 v2 v3 v4 v5 v6 v7 v8 v9 w' => ∃ s, (v0 = f0 s ∧ v1 = f1 s ∧ v2 = f2 s ∧ v3 = f3 s ∧ v4 = f4 s ∧ v5 = f5 s ∧ v6 = f6 s ∧ v7 = f7 s ∧ v8 = f8 s ∧ v9 = f9 s ∧ True) ∧ I s w', fun v0 v1 v2 v3 v4 v5 v6 v7 v8 v9 w' => least fun n => ∃ s, (v0 = f0 s ∧ v1 = f1 s ∧ v2 = f2 s ∧ v3 = f3 s ∧ v4 = f4 s ∧ v5 = f5 s ∧ v6 = f6 s ∧ v7 = f7 s ∧ v8 = f8 s ∧ v9 = f9 s ∧ True) ∧ I s w' ∧ μ s = n, ⟨s, ⟨e0, e1, e2, e3, e4, e5, e6, e7, e8, e9, trivial⟩, h0⟩, ?_⟩
  rintro v0 v1 v2 v3 v4 v5 v6 v7 v8 v9 w ⟨sa, ha, hIa⟩
  obtain ⟨⟨s, hs, hI, hm⟩, -⟩ := least_spec (p := fun n => ∃ s, (v0 = f0 s ∧ v1 = f1 s ∧ v2 = f2 s ∧ v3 = f3 s ∧ v4 = f4 s ∧ v5 = f5 s ∧ v6 = f6 s ∧ v7 = f7 s ∧ v8 = f8 s ∧ v9 = f9 s ∧ True) ∧ I s w ∧ μ s = n) ⟨sa, ha, hIa, rfl⟩
  obtain ⟨rfl, rfl, rfl, rfl, rfl, rfl, rfl, rfl, rfl, rfl, -⟩ := hs
  refine round _ s w (fun s' w' hI' hlt => ⟨⟨s', ⟨rfl, rfl, rfl, rfl, rfl, rfl, rfl, rfl, rfl, rfl, trivial⟩, hI'⟩, ?_⟩) hI
  rw [← hm]
  exact Nat.lt_of_le_of_lt ((least_spec (p := fun n => ∃ s, _ ∧ I s w' ∧ μ s = n) ⟨s', ⟨rfl, rfl, rfl, rfl, rfl, rfl, rfl, rfl, rfl, rfl, trivial⟩, hI', rfl⟩).2 _ ⟨s', ⟨rfl, rfl, rfl, rfl, rfl, rfl, rfl, rfl, rfl, rfl, trivial⟩, hI', rfl⟩) hlt
end Lyc
namespace Lyc
open Go Go.ChangeShapes Go.WideShapes Go.ChangeAt Go.RowKit Go.Deep
section
variable {H : Type} {enc : TypeId × Value → H} {P : Program}
theorem trodAll_below (hl : laidOutB P = true) {W W' : World} (hb : Below W.heap.size W W') {sp : Nat → Bool} : ∀ {ts : List TypeId} {vs : List Value} {ds : List (DataW H)} {p : List MemPlace},
    ts.all (fun t => P.readableRec t && decide (t < P.types.size)) = true → DataW.TrodAll enc P W 0 (fun _ => true) true ts vs ds p → (∀ x ∈ p, x.block < W.heap.size) → (∀ x ∈ p, sp x.block = true) →
    DataW.TrodAll enc P W' 0 sp true ts vs ds p
  | [], [], [], _, _, h, _, _ => h
  | [], _ :: _, _, _, _, h, _, _ => h.elim
  | [], [], _ :: _, _, _, h, _, _ => h.elim
  | _ :: _, [], _, _, _, h, _, _ => h.elim
  | _ :: _, _ :: _, [], _, _, h, _, _ => h.elim
  | t :: ts, v :: vs, d :: ds, _, ht, h, hlt, hs => by
    obtain ⟨p, q, h1, h2, rfl⟩ := h
    simp only [List.all_cons, Bool.and_eq_true, decide_eq_true_eq] at ht
    exact ⟨p, q, WideElems.Trod_stays hl ht.1.1 ht.1.2 h1 (fun x hx => hb.same (hlt x (by simp [hx]))) (fun x hx => hs x (by simp [hx])),
      trodAll_below hl hb ht.2 h2 (fun x hx => hlt x (by simp [hx])) (fun x hx => hs x (by simp [hx])), rfl⟩
theorem post_true {f : Func} {s : ChangeSpec} {apart fresh handsOn again : Bool} {W W' : World} {args : Array Value} {ds gs : List (DataW H)} {before : List MemPlace} {tb : TypeId}
    (hl : laidOutB P = true) (hrt : f.resultTypes = #[tb]) (htb : P.underlying tb = some .bool)
    (hts : f.params.toList.all (fun t => P.readableRec t && decide (t < P.types.size)) = true)
    (hv : s.vars = []) (hW : DataW.Whole enc P f.params.toList s.vars apart W args.toList ds gs before)
    (hspec : s.fn H (ds ++ gs) = { results := [.lit (.bool true)], args := ds }) (hb : Below W.heap.size W W') :
    s.post enc P f apart fresh handsOn again W args (.bool true) W' := by
  have hlt : ∀ x ∈ before, x.block < W.heap.size := fun x hx => by simpa using hW.lt x hx
  have hW' := hW
  obtain ⟨p, q, hA, hV, rfl, hz, hn⟩ := hW
  rw [hv] at hV
  obtain ⟨rfl, rfl⟩ := trodVars_none hV
  simp only [List.append_nil] at hlt hz hn hW'
  have hres : ∀ (b : Nat) (sp : Nat → Bool) (hd : Bool), DataW.TrodAll enc P W' b sp hd f.resultTypes.toList ((Value.bool true).resultList f.resultTypes.size) [.lit (.bool true)] [] := by
    intro b sp hd
    rw [hrt]
    exact trodAll_mk1 ⟨1, by simp [DataW.trod, Value.cells, htb]⟩
  have hargs : ∀ sp : Nat → Bool, (∀ x ∈ p, sp x.block = true) → DataW.TrodAll enc P W' 0 sp true f.params.toList args.toList ds p := fun sp hs => trodAll_below hl hb hts hA hlt hs
  refine ⟨ds, [], p, [], p, [], hW', ?_, ?_, ?_, hb.frame _, fun _ => ?_⟩
  · rw [hspec]; exact hres _ _ _
  · rw [hspec]; exact hargs _ (by simpa using hlt)
  · rw [hspec, hv]; exact rfl
  · refine ⟨ok_one hrt rfl (okWide_bool_mk htb true), [.lit (.bool true)] ++ ds, [], p, ⟨[] ++ p, [], trodAll_append (hargs _ (fun _ _ => rfl)) (hres _ _ _), ?_, by simp, ?_, ?_⟩, ?_⟩
    · rw [hv]; exact rfl
    · intro b off hp
      rw [hb.frozen (hlt _ hp)]
      exact hz b off hp
    · intro ha
      simpa using hn ha
    · intro x hx _
      exact hx
theorem lifted_true {C : Checked} {a : Assume} {os : Os} {f : FuncId} {fn : Func} {s : ChangeSpec} {conds : List PathCond} {apart fresh handsOn again : Bool} {tb : TypeId}
    (own : ownKnob C.prog.godebug = none) (started : os.Started) (noInit : C.prog.inits.idxOf? f = none) (hfn : C.prog.funcs[f]? = some fn)
    (witness : ∃ (w : World) (tape : Tape) (i : Input), w.os = os ∧ (w.forCall tape i).Shaped C.prog ∧ i.vars = [] ∧ Input.okWide C.prog (w.forCall tape i) .any w.heap.size f i ∧
      s.pre6 enc C.prog fn conds apart (w.forCall tape i).memory i.args ∧ a.holds C.prog (lone (Frame.enter C.prog f i.args .normal) [] (w.forCall tape i)))
    (hl : laidOutB C.prog = true) (hrt : fn.resultTypes = #[tb]) (htb : C.prog.underlying tb = some .bool)
    (hts : fn.params.toList.all (fun t => C.prog.readableRec t && decide (t < C.prog.types.size)) = true)
    (hv : s.vars = []) (hspec : ∀ ds : List (DataW H), ds.length = fn.params.toList.length → s.fn H ds = { results := [.lit (.bool true)], args := ds })
    (contract : ∀ (W : World) (base : Nat) (args : Array Value) (ds : List (DataW H)) (p : List MemPlace),
      (∀ (j : Nat) t v, fn.params[j]? = some t → args[j]? = some v → Value.okWide C.prog W .any base t v) →
      DataW.TrodAll enc C.prog W 0 (fun _ => true) true fn.params.toList args.toList ds p →
      Calls C.prog f args W (retK fun v w' => v = .bool true ∧ Chg [] W w')) :
    ReturnsInHanded a C os f .any (s.pre6 enc C.prog fn conds apart) (s.post enc C.prog fn apart fresh handsOn again) := by
  refine returnsInHanded_of_change own started noInit hfn witness ?_
  intro W base args ds gs before hval hW hcnd _
  have hW' := hW
  obtain ⟨p, q, hA, hV, hp, hfz, hnd⟩ := hW
  have hV' := hV
  rw [hv] at hV'
  obtain ⟨rfl, rfl⟩ := trodVars_none hV'
  have hlen : ds.length = fn.params.toList.length := by
    clear hval hW' hV hV' hp hfz hnd hcnd
    generalize fn.params.toList = ts at hA
    generalize args.toList = vs at hA
    induction ts generalizing vs ds p with
    | nil => cases vs <;> cases ds <;> first | rfl | exact hA.elim
    | cons t ts ih =>
      cases vs with
      | nil => exact hA.elim
      | cons v vs =>
        cases ds with
        | nil => exact hA.elim
        | cons d ds =>
          obtain ⟨p, q, _, h2, _⟩ := hA
          simp [ih _ _ _ h2]
  refine (contract W base args ds p hval hA).mono fun e W' he => ?_
  cases e <;> first | exact he.elim | skip
  obtain ⟨rfl, hc⟩ := he
  exact ⟨_, rfl, post_true hl hrt htb hts hv hW' (by rw [List.append_nil]; exact hspec ds hlen) hc.below⟩
theorem open_slice_rows {w : World} {base : Nat} {spare : Nat → Bool} {held : Bool} {t e : TypeId} {fs : Array Field} {fuel : Nat} {cs : List Value} {x : DataW H × List MemPlace} (ht : P.underlying t = some (.slice e)) (he : P.underlying e = some (.struct fs))
    (hone : oneCellFields P fs = true) (hC : P.cellsOf e = fs.size) (h : DataW.trod enc P w base spare held fuel t cs = some x) :
    (cs = [.slice none 0 0]) ∨
    ∃ (a : Addr) (len cap : Nat), cs = [.slice (some a) len cap] ∧ len ≤ cap ∧ cap ≤ maxLen ∧
      ∀ i, i < len → ∀ (j : Nat) (f : Field), fs[j]? = some f → ∃ (v : Value) (n : Nat) (y : DataW H × List MemPlace), w.cell? (a.add (i * fs.size + j)) = some v ∧ DataW.trod enc P w base spare held n f.type [v] = some y := by
  rcases open_slice ht h with h0 | ⟨a, len, cap, m, n, D, Pl, hcs, hb, hl, hm, hmm, hx, hi⟩
  · exact .inl h0.1
  · have hlm : len ≤ m := by rw [hmm]; split <;> omega
    refine .inr ⟨a, len, cap, hcs, hl, hm, fun i hil j f hj => ?_⟩
    obtain ⟨cs', hc, ht'⟩ := hi i (by omega)
    rw [hC] at hc
    obtain ⟨ys, n', hn', hy, hlen, hyl, hf⟩ := DataW.trod_struct he ht'
    obtain ⟨_, hcl, hat⟩ := World.cells?_some hc
    obtain ⟨ho, hk⟩ := hone_of hone j f hj
    have hjl : j < fs.size := (Array.getElem?_eq_some_iff.1 hj).1
    have hcell := hat j hjl
    have hv : cs'[j]? = some (cs'[j]'(by omega)) := List.getElem?_eq_getElem (by omega)
    have h1 := hf j f hj
    rw [ho, hk] at h1
    have hone' : (cs'.drop j).take 1 = [cs'[j]'(by omega)] := by
      rw [List.drop_eq_getElem_cons (by omega)]
      rfl
    rw [hone'] at h1
    have hys : ys[j]? = some (ys[j]'(by omega)) := List.getElem?_eq_getElem (by omega)
    refine ⟨_, n', _, ?_, h1.trans hys⟩
    rw [← Go.Deep.add_add, hcell, hv]
theorem sla_nil (w : World) (len cap m : Nat) (g : Nat → List Value) (h : len = 0) : SlA w (.slice none len cap) len m g := ⟨none, cap, rfl, fun i hi => by omega⟩
theorem sla_of {α : Type} [Inhabited α] (cs : α → List Value) {w : World} {a : Addr} {len cap m : Nat} (hm : 0 < m) (hl : ∀ x, (cs x).length = m)
    (h : ∀ i, i < len → ∃ x, ∀ j, j < m → w.cell? (a.add (i * m + j)) = (cs x)[j]?) : ∃ g : Nat → α, SlA w (.slice (some a) len cap) len m fun i => cs (g i) := by
  have h' : ∀ i, ∃ x, i < len → ∀ j, j < m → w.cell? (a.add (i * m + j)) = (cs x)[j]? := fun i => by
    by_cases hi : i < len
    · obtain ⟨x, hx⟩ := h i hi; exact ⟨x, fun _ => hx⟩
    · exact ⟨default, fun h => absurd h hi⟩
  obtain ⟨g, hg⟩ : ∃ g : Nat → α, ∀ i, i < len → ∀ j, j < m → w.cell? (a.add (i * m + j)) = (cs (g i))[j]? := ⟨fun i => Classical.choose (h' i), fun i => Classical.choose_spec (h' i)⟩
  refine ⟨g, some a, cap, rfl, fun i hi => ?_⟩
  have hx := hg i hi
  show ∃ b o, some a = some ⟨b, o, none⟩ ∧ b < w.heap.size ∧ aggAt w.heap[b]? (o + i * m) m = some (cs (g i)).toArray
  generalize g i = x at hx
  have key : ∀ k v, w.cell? (a.add k) = some v → a.block < w.heap.size ∧ ∀ b o, a = ⟨b, o, none⟩ → cellAt w.heap[b]? (o + k) = some v := by
    intro k v hk
    unfold World.cell? at hk
    have hb : (a.add k).block = a.block := by unfold Addr.add; split <;> rfl
    rw [hb] at hk
    cases hh : w.heap[a.block]? with
    | none => rw [hh] at hk; simp at hk
    | some o =>
      refine ⟨lt_of_heap hh, ?_⟩
      rintro b o' rfl
      rw [hh] at hk
      dsimp only at hk hh ⊢
      rw [hh]
      have ha : (⟨b, o', none⟩ : Addr).add k = ⟨b, o' + k, none⟩ := by unfold Addr.add; split <;> simp_all
      rw [ha] at hk
      cases o <;> first | (simp at hk; done) | skip
      simpa [cellAt] using hk
  have hlen := hl x
  have h0 := hx 0 hm
  have hx0 : (cs x)[0]? = some ((cs x)[0]'(by omega)) := List.getElem?_eq_getElem (by omega)
  rw [hx0] at h0
  obtain ⟨ab, ao, sp⟩ := a
  have hsp : sp = none := by
    cases sp with
    | none => rfl
    | some y =>
      exfalso
      by_cases hi0 : i * m = 0
      · rw [hi0] at h0
        simp [Addr.add, World.cell?] at h0
        split at h0 <;> simp at h0
      · have h00 := h 0 (by omega)
        obtain ⟨x0, h00⟩ := h00
        have h00 := h00 0 hm
        have hl0 := hl x0
        have hx00 : (cs x0)[0]? = some ((cs x0)[0]'(by omega)) := List.getElem?_eq_getElem (by omega)
        rw [hx00] at h00
        simp [Addr.add, World.cell?] at h00
        split at h00 <;> simp at h00
  subst hsp
  refine ⟨ab, ao, rfl, (key _ _ h0).1, aggAt_of hlen hm fun j hj => ?_⟩
  have h1 := hx j hj
  have hxj : (cs x)[j]? = some ((cs x)[j]'(by omega)) := List.getElem?_eq_getElem (by omega)
  rw [hxj] at h1 ⊢
  have := (key _ _ h1).2 _ _ rfl
  rw [Nat.add_assoc]
  exact this
end
end Lyc
namespace Lyc
open Go
section
variable {P : Program}
attribute [go_sem] Int.cast_ofNat_Int beq_self_eq_true Bool.false_and Bool.true_and Bool.and_false Bool.and_true Bool.false_or Bool.true_or Bool.or_false Bool.or_true Bool.not_not
@[go_sem] theorem beq_t (b : Bool) : (b == true) = b := by cases b <;> rfl
@[go_sem] theorem beq_f (b : Bool) : (b == false) = !b := by cases b <;> rfl
@[go_sem] theorem t_beq (b : Bool) : (true == b) = b := by cases b <;> rfl
@[go_sem] theorem f_beq (b : Bool) : (false == b) = !b := by cases b <;> rfl
@[go_sem] theorem cast_lit0 : ((0 : Nat) : Int) = 0 := rfl
@[go_sem] theorem cast_lit1 : ((1 : Nat) : Int) = 1 := rfl
theorem and_bd (a m : Int) (h0 : 0 ≤ m) (h1 : m < 9223372036854775808) : 0 ≤ bitV .and .i64 a m ∧ bitV .and .i64 a m ≤ m := by
  have hm : (BitVec.ofInt 64 m).toNat = m.toNat := by rw [BitVec.toNat_ofInt]; congr 1; omega
  have h := Nat.and_le_right (n := (BitVec.ofInt 64 a).toNat) (m := m.toNat)
  have e : (BitVec.ofInt 64 a &&& BitVec.ofInt 64 m).toNat = (BitVec.ofInt 64 a).toNat &&& m.toNat := by rw [BitVec.toNat_and, hm]
  show 0 ≤ IntKind.i64.wrap ((BitVec.ofInt 64 a &&& BitVec.ofInt 64 m).toNat : Int) ∧ _ ≤ m
  rw [e, wrap_i64 _ (by omega) (by omega)]
  show _ ∧ IntKind.i64.wrap ((BitVec.ofInt 64 a &&& BitVec.ofInt 64 m).toNat : Int) ≤ m
  rw [e, wrap_i64 _ (by omega) (by omega)]
  omega
theorem tmod_bd (a n : Int) (h : 0 < n) : -n < a.tmod n ∧ a.tmod n < n := ⟨Int.lt_tmod_of_pos _ h, Int.tmod_lt_of_pos _ h⟩
theorem tkind_1' {t : TypeId} (h : tkind P t = some 3) : P.underlying t = some .string := by
  unfold tkind at h
  cases hu : P.underlying t with
  | none => rw [hu] at h; simp at h
  | some d => rw [hu] at h; cases d <;> simp at h; rfl
theorem not_array_string {t : TypeId} (h : tkind P t = some 3) : ∀ ρ : Operand → Value, ∀ x lo hi mx, ∀ w, (Instr.sliceAt t (ρ x) lo hi mx).run P w = (Instr.slice t (ρ x) lo hi mx).run P w := by
  intro ρ x lo hi mx w
  simp [Instr.sliceAt, run_underlying (tkind_1' h)]
theorem r_slice_str_hi (t ty : TypeId) (s : ByteArray) (k : IntKind) (i : Int) (h : tkind P t = some 3) (h0 : 0 ≤ i) (h1 : i ≤ s.size) : PureRun P (.slice t (.const (.string s)) none (some (.const (.int k i))) none) ty (.string (s.extract 0 i.toNat)) := by
  refine ⟨fun ρ hg w => ?_⟩
  simp [execOp, mkOper, hg.1, Instr.sliceAt, Instr.slice, Instr.sliceBounds, Instr.sliceBound, asIntOf, run_underlying (tkind_1' h), h0, h1]
theorem r_slice_str_lo (t ty : TypeId) (s : ByteArray) (k : IntKind) (i : Int) (h : tkind P t = some 3) (h0 : 0 ≤ i) (h1 : i ≤ s.size) : PureRun P (.slice t (.const (.string s)) (some (.const (.int k i))) none none) ty (.string (s.extract i.toNat s.size)) := by
  refine ⟨fun ρ hg w => ?_⟩
  simp [execOp, mkOper, hg.1, Instr.sliceAt, Instr.slice, Instr.sliceBounds, Instr.sliceBound, asIntOf, run_underlying (tkind_1' h), h0, h1]
theorem r_slice_str_both (t ty : TypeId) (s : ByteArray) (k k' : IntKind) (i j : Int) (h : tkind P t = some 3) (h0 : 0 ≤ i) (h1 : i ≤ j) (h2 : j ≤ s.size) : PureRun P (.slice t (.const (.string s)) (some (.const (.int k i))) (some (.const (.int k' j))) none) ty (.string (s.extract i.toNat j.toNat)) := by
  refine ⟨fun ρ hg w => ?_⟩
  have h3 : 0 ≤ j := by omega
  have h4 : i ≤ (j.toNat : Int) := by omega
  simp [execOp, mkOper, hg.1, Instr.sliceAt, Instr.slice, Instr.sliceBounds, Instr.sliceBound, asIntOf, run_underlying (tkind_1' h), h0, h2, h3, h4]
  intro hc; exact absurd hc (by omega)
def slo (o cap l n : Nat) : Nat := if cap = l then o else o + l * n
theorem tslice_u {t : TypeId} {n : Nat} (h : tslice P t = some n) : ∃ e, P.underlying t = some (.slice e) ∧ tsize P e = some n := by
  unfold tslice at h
  cases hu : P.underlying t with
  | none => rw [hu] at h; simp at h
  | some d => rw [hu] at h; cases d <;> simp at h; exact ⟨_, rfl, h⟩
theorem slo_add (b o cap l n : Nat) : (if cap = l then some (⟨b, o, none⟩ : Addr) else some ((⟨b, o, none⟩ : Addr).add (l * n))) = some ⟨b, slo o cap l n, none⟩ := by
  unfold slo
  split
  · rfl
  · rw [add_mk]
theorem r_slice_hi (t ty : TypeId) (a : Option Addr) (len cap n : Nat) (k : IntKind) (i : Int) (h : tslice P t = some n) (h0 : 0 ≤ i) (h1 : i ≤ cap) : PureRun P (.slice t (.const (.slice a len cap)) none (some (.const (.int k i))) none) ty (.slice a i.toNat cap) := by
  obtain ⟨e, hu, hs⟩ := tslice_u h
  refine ⟨fun ρ hg w => ?_⟩
  cases a with
  | none => simp [execOp, mkOper, hg.1, Instr.sliceAt, Instr.slice, Instr.sliceBounds, Instr.sliceBound, asIntOf, run_underlying hu, run_size hs, h0, h1]
  | some a =>
    obtain ⟨b, o, sp⟩ := a
    simp [execOp, mkOper, hg.1, Instr.sliceAt, Instr.slice, Instr.sliceBounds, Instr.sliceBound, asIntOf, run_underlying hu, run_size hs, h0, h1, Addr.add]
theorem r_slice_lo (t ty : TypeId) (b o len cap n : Nat) (k : IntKind) (i : Int) (h : tslice P t = some n) (h0 : 0 ≤ i) (h1 : i ≤ len) : PureRun P (.slice t (.const (.slice (some ⟨b, o, none⟩) len cap)) (some (.const (.int k i))) none none) ty (.slice (some ⟨b, slo o cap i.toNat n, none⟩) (len - i.toNat) (cap - i.toNat)) := by
  obtain ⟨e, hu, hs⟩ := tslice_u h
  refine ⟨fun ρ hg w => ?_⟩
  simp [execOp, mkOper, hg.1, Instr.sliceAt, Instr.slice, Instr.sliceBounds, Instr.sliceBound, asIntOf, run_underlying hu, run_size hs, h0, h1, slo_add]
theorem r_slice_both (t ty : TypeId) (b o len cap n : Nat) (k k' : IntKind) (i j : Int) (h : tslice P t = some n) (h0 : 0 ≤ i) (h1 : i ≤ j) (h2 : j ≤ cap) : PureRun P (.slice t (.const (.slice (some ⟨b, o, none⟩) len cap)) (some (.const (.int k i))) (some (.const (.int k' j))) none) ty (.slice (some ⟨b, slo o cap i.toNat n, none⟩) (j.toNat - i.toNat) (cap - i.toNat)) := by
  obtain ⟨e, hu, hs⟩ := tslice_u h
  refine ⟨fun ρ hg w => ?_⟩
  have h3 : 0 ≤ j := by omega
  have h4 : i ≤ (j.toNat : Int) := by omega
  simp [execOp, mkOper, hg.1, Instr.sliceAt, Instr.slice, Instr.sliceBounds, Instr.sliceBound, asIntOf, run_underlying hu, run_size hs, h0, h2, h3, h4, slo_add]
  intro hc; exact absurd hc (by omega)
@[go_sem] theorem x_slice_str_hi (t ty : TypeId) (s : ByteArray) (k : IntKind) (i : Int) (K : Value → World → Prop) (w : World) (h : tkind P t = some 3) (h0 : 0 ≤ i) (h1 : i ≤ s.size) : OpX P (.slice t (.const (.string s)) none (some (.const (.int k i))) none) ty K w = K (.string (s.extract 0 i.toNat)) w := (r_slice_str_hi t ty s k i h h0 h1).op K w
@[go_sem] theorem p_slice_str_hi (t ty : TypeId) (s : ByteArray) (k : IntKind) (i : Int) (K : Value → Prop) (h : tkind P t = some 3) (h0 : 0 ≤ i) (h1 : i ≤ s.size) : PurX P (.slice t (.const (.string s)) none (some (.const (.int k i))) none) ty K () = K (.string (s.extract 0 i.toNat)) := (r_slice_str_hi t ty s k i h h0 h1).pur K
@[go_sem] theorem x_slice_str_lo (t ty : TypeId) (s : ByteArray) (k : IntKind) (i : Int) (K : Value → World → Prop) (w : World) (h : tkind P t = some 3) (h0 : 0 ≤ i) (h1 : i ≤ s.size) : OpX P (.slice t (.const (.string s)) (some (.const (.int k i))) none none) ty K w = K (.string (s.extract i.toNat s.size)) w := (r_slice_str_lo t ty s k i h h0 h1).op K w
@[go_sem] theorem p_slice_str_lo (t ty : TypeId) (s : ByteArray) (k : IntKind) (i : Int) (K : Value → Prop) (h : tkind P t = some 3) (h0 : 0 ≤ i) (h1 : i ≤ s.size) : PurX P (.slice t (.const (.string s)) (some (.const (.int k i))) none none) ty K () = K (.string (s.extract i.toNat s.size)) := (r_slice_str_lo t ty s k i h h0 h1).pur K
@[go_sem] theorem x_slice_str_both (t ty : TypeId) (s : ByteArray) (k k' : IntKind) (i j : Int) (K : Value → World → Prop) (w : World) (h : tkind P t = some 3) (h0 : 0 ≤ i) (h1 : i ≤ j) (h2 : j ≤ s.size) : OpX P (.slice t (.const (.string s)) (some (.const (.int k i))) (some (.const (.int k' j))) none) ty K w = K (.string (s.extract i.toNat j.toNat)) w := (r_slice_str_both t ty s k k' i j h h0 h1 h2).op K w
@[go_sem] theorem p_slice_str_both (t ty : TypeId) (s : ByteArray) (k k' : IntKind) (i j : Int) (K : Value → Prop) (h : tkind P t = some 3) (h0 : 0 ≤ i) (h1 : i ≤ j) (h2 : j ≤ s.size) : PurX P (.slice t (.const (.string s)) (some (.const (.int k i))) (some (.const (.int k' j))) none) ty K () = K (.string (s.extract i.toNat j.toNat)) := (r_slice_str_both t ty s k k' i j h h0 h1 h2).pur K
@[go_sem] theorem x_slice_hi (t ty : TypeId) (a : Option Addr) (len cap : Nat) (k : IntKind) (i : Int) (K : Value → World → Prop) (w : World) (h0 : 0 ≤ i) (h1 : i ≤ cap) : OpX P (.slice t (.const (.slice a len cap)) none (some (.const (.int k i))) none) ty K w = OrK (tslice P t) (fun _ => K (.slice a i.toNat cap) w) (OpX P (.slice t (.const (.slice a len cap)) none (some (.const (.int k i))) none) ty K w) () :=
  OrK_by (fun q h => (r_slice_hi t ty a len cap q k i h h0 h1).op K w) rfl
@[go_sem] theorem p_slice_hi (t ty : TypeId) (a : Option Addr) (len cap : Nat) (k : IntKind) (i : Int) (K : Value → Prop) (h0 : 0 ≤ i) (h1 : i ≤ cap) : PurX P (.slice t (.const (.slice a len cap)) none (some (.const (.int k i))) none) ty K () = OrK (tslice P t) (fun _ => K (.slice a i.toNat cap)) (PurX P (.slice t (.const (.slice a len cap)) none (some (.const (.int k i))) none) ty K ()) () :=
  OrK_by (fun q h => (r_slice_hi t ty a len cap q k i h h0 h1).pur K) rfl
@[go_sem] theorem x_slice_lo (t ty : TypeId) (b o len cap : Nat) (k : IntKind) (i : Int) (K : Value → World → Prop) (w : World) (h0 : 0 ≤ i) (h1 : i ≤ len) : OpX P (.slice t (.const (.slice (some ⟨b, o, none⟩) len cap)) (some (.const (.int k i))) none none) ty K w = OrK (tslice P t) (fun n => K (.slice (some ⟨b, slo o cap i.toNat n, none⟩) (len - i.toNat) (cap - i.toNat)) w) (OpX P (.slice t (.const (.slice (some ⟨b, o, none⟩) len cap)) (some (.const (.int k i))) none none) ty K w) () :=
  OrK_by (fun q h => (r_slice_lo t ty b o len cap q k i h h0 h1).op K w) rfl
@[go_sem] theorem p_slice_lo (t ty : TypeId) (b o len cap : Nat) (k : IntKind) (i : Int) (K : Value → Prop) (h0 : 0 ≤ i) (h1 : i ≤ len) : PurX P (.slice t (.const (.slice (some ⟨b, o, none⟩) len cap)) (some (.const (.int k i))) none none) ty K () = OrK (tslice P t) (fun n => K (.slice (some ⟨b, slo o cap i.toNat n, none⟩) (len - i.toNat) (cap - i.toNat))) (PurX P (.slice t (.const (.slice (some ⟨b, o, none⟩) len cap)) (some (.const (.int k i))) none none) ty K ()) () :=
  OrK_by (fun q h => (r_slice_lo t ty b o len cap q k i h h0 h1).pur K) rfl
@[go_sem] theorem x_slice_both (t ty : TypeId) (b o len cap : Nat) (k k' : IntKind) (i j : Int) (K : Value → World → Prop) (w : World) (h0 : 0 ≤ i) (h1 : i ≤ j) (h2 : j ≤ cap) : OpX P (.slice t (.const (.slice (some ⟨b, o, none⟩) len cap)) (some (.const (.int k i))) (some (.const (.int k' j))) none) ty K w = OrK (tslice P t) (fun n => K (.slice (some ⟨b, slo o cap i.toNat n, none⟩) (j.toNat - i.toNat) (cap - i.toNat)) w) (OpX P (.slice t (.const (.slice (some ⟨b, o, none⟩) len cap)) (some (.const (.int k i))) (some (.const (.int k' j))) none) ty K w) () :=
  OrK_by (fun q h => (r_slice_both t ty b o len cap q k k' i j h h0 h1 h2).op K w) rfl
@[go_sem] theorem p_slice_both (t ty : TypeId) (b o len cap : Nat) (k k' : IntKind) (i j : Int) (K : Value → Prop) (h0 : 0 ≤ i) (h1 : i ≤ j) (h2 : j ≤ cap) : PurX P (.slice t (.const (.slice (some ⟨b, o, none⟩) len cap)) (some (.const (.int k i))) (some (.const (.int k' j))) none) ty K () = OrK (tslice P t) (fun n => K (.slice (some ⟨b, slo o cap i.toNat n, none⟩) (j.toNat - i.toNat) (cap - i.toNat))) (PurX P (.slice t (.const (.slice (some ⟨b, o, none⟩) len cap)) (some (.const (.int k i))) (some (.const (.int k' j))) none) ty K ()) () :=
  OrK_by (fun q h => (r_slice_both t ty b o len cap q k k' i j h h0 h1 h2).pur K) rfl
end
end Lyc
namespace Lyc
open Go
section
variable {P : Program}
abbrev Ents := List (Int × Value × Nat)
def ents (kk : IntKind) (l : Ents) : Array MapEntry := (l.map fun x => (⟨.int kk x.1, x.2.1, x.2.2⟩ : MapEntry)).toArray
def lpos : Ents → Int → Nat → Option (Nat × Value)
  | [], _, _ => none
  | x :: l, k, i => if k = x.1 then some (i, x.2.1) else lpos l k (i + 1)
def lfind : Ents → Int → Option Value
  | [], _ => none
  | x :: l, k => if k = x.1 then some x.2.1 else lfind l k
def lput : Ents → Int → Value → Nat → Ents
  | [], k, v, c => [(k, v, c)]
  | x :: l, k, v, c => if k = x.1 then (k, v, x.2.2) :: l else x :: lput l k v c
def ldel : Ents → Int → Ents
  | [], _ => []
  | x :: l, k => if k = x.1 then l else x :: ldel l k
theorem lpos_find (l : Ents) (k : Int) (i : Nat) : (lpos l k i).map (·.2) = lfind l k := by
  induction l generalizing i with
  | nil => rfl
  | cons x l ih => unfold lpos lfind; split <;> simp [ih]
theorem findNow_ents (kk k2 : IntKind) (l : Ents) (k : Int) (i : Nat) : Instr.findNow (.int k2) (.int kk k) (l.map fun x => (⟨.int kk x.1, x.2.1, x.2.2⟩ : MapEntry)) i = some (lpos l k i) := by
  induction l generalizing i with
  | nil => rfl
  | cons x l ih =>
    simp only [List.map_cons, Instr.findNow, Instr.sameNow, lpos, if_true]
    by_cases h : k = x.1
    · simp [h]
    · have hb : (k == x.1) = false := by simpa using h
      simp [h, hb, ih]
theorem lpos_put {l : Ents} {k : Int} {j n : Nat} {u : Value} (h : lpos l k j = some (n, u)) (v : Value) (c : Nat) : j ≤ n ∧ n - j < l.length ∧ lput l k v c = l.modify (n - j) fun x => (k, v, x.2.2) := by
  induction l generalizing j with
  | nil => simp [lpos] at h
  | cons x l ih =>
    unfold lpos at h
    split at h
    · rename_i hk
      simp at h
      obtain ⟨rfl, -⟩ := h
      simp [lput, hk]
    · rename_i hk
      obtain ⟨h1, h2, h3⟩ := ih h
      refine ⟨by omega, by simp; omega, ?_⟩
      have : n - j = (n - (j + 1)) + 1 := by omega
      rw [this]
      simp [lput, hk, h3]
theorem lpos_del {l : Ents} {k : Int} {j n : Nat} {u : Value} (h : lpos l k j = some (n, u)) : j ≤ n ∧ n - j < l.length ∧ ldel l k = l.eraseIdx (n - j) := by
  induction l generalizing j with
  | nil => simp [lpos] at h
  | cons x l ih =>
    unfold lpos at h
    split at h
    · rename_i hk
      simp at h
      obtain ⟨rfl, -⟩ := h
      simp [ldel, hk]
    · rename_i hk
      obtain ⟨h1, h2, h3⟩ := ih h
      refine ⟨by omega, by simp; omega, ?_⟩
      have : n - j = (n - (j + 1)) + 1 := by omega
      rw [this]
      simp [ldel, hk, h3]
theorem lpos_none {l : Ents} {k : Int} {j : Nat} (h : lpos l k j = none) (v : Value) (c : Nat) : lput l k v c = l ++ [(k, v, c)] ∧ ldel l k = l := by
  induction l generalizing j with
  | nil => simp [lput, ldel]
  | cons x l ih =>
    unfold lpos at h
    split at h
    · simp at h
    · rename_i hk
      simp [lput, ldel, hk, ih h]
theorem lpos_key {l : Ents} {k : Int} {j n : Nat} {u : Value} (h : lpos l k j = some (n, u)) : ∃ c, l[n - j]? = some (k, u, c) := by
  induction l generalizing j with
  | nil => simp [lpos] at h
  | cons x l ih =>
    unfold lpos at h
    split at h
    · rename_i hk
      simp at h
      obtain ⟨rfl, rfl⟩ := h
      exact ⟨x.2.2, by simp [hk]⟩
    · obtain ⟨c, hc⟩ := ih h
      obtain ⟨h1, -, -⟩ := lpos_del h
      have : n - j = (n - (j + 1)) + 1 := by omega
      exact ⟨c, by rw [this]; simpa using hc⟩
theorem map_eraseIdx' {α β : Type} (f : α → β) (l : List α) (n : Nat) : (l.map f).eraseIdx n = (l.eraseIdx n).map f := by
  induction l generalizing n with
  | nil => rfl
  | cons x l ih => cases n <;> simp [ih]
def tmap (P : Program) (t : TypeId) : Option (IntKind × Value) := (P.underlying t).bind fun | .map k e => (tint P k).bind fun kk => (tzero P e).map fun z => (kk, z) | _ => none
theorem tmap_spec {t : TypeId} {kk : IntKind} {z : Value} (h : tmap P t = some (kk, z)) : ∃ k e, P.underlying t = some (.map k e) ∧ P.underlying k = some (.int kk) ∧ tzero P e = some z := by
  unfold tmap at h
  cases hu : P.underlying t with
  | none => rw [hu] at h; simp at h
  | some d =>
    rw [hu] at h
    cases d <;> first | (rename_i k e; dsimp only at h) | skip
    all_goals first | (simp at h; done) | skip
    rename_i k e
    cases hk : tint P k with
    | none => simp [hk] at h
    | some kk' =>
    cases hz : tzero P e with
    | none => simp [hk, hz] at h
    | some z' =>
    simp [hk, hz] at h
    obtain ⟨rfl, rfl⟩ := h
    unfold tint at hk
    cases hku : P.underlying k with
    | none => rw [hku] at hk; simp at hk
    | some d =>
      rw [hku] at hk
      cases d <;> simp at hk
      subst hk
      exact ⟨k, e, rfl, hku, hz⟩
theorem run_checkKey {k : TypeId} {kk : IntKind} (h : P.underlying k = some (.int kk)) (b : Bool) (n : Int) (w : World) : (Instr.checkKey b 10000 k (.int kk n)).run P w = .ok () w := by
  show (Instr.checkKey b (9999 + 1) k (.int kk n)).run P w = .ok () w
  unfold Instr.checkKey
  simp [run_underlying h]
theorem run_findKey {k : TypeId} {kk : IntKind} (h : P.underlying k = some (.int kk)) (l : Ents) (n : Int) (w : World) : (Instr.findKey k (.int kk n) (ents kk l).toList).run P w = .ok (lpos l n 0) w := by
  unfold Instr.findKey ents
  simp [run_underlying h, findNow_ents]
theorem run_getMap {r c : Nat} {es : Array MapEntry} {w : World} (hc : w.heap[r]? = some (.map es c)) : (getObj r).run P w = .ok (.map es c) w := by
  simp [getObj, Sem.run, hc]
theorem run_setMap {r c : Nat} {es : Array MapEntry} {o : Obj} {w : World} (hc : w.heap[r]? = some (.map es c)) : (setObj r o).run P w = .ok () (setBlk w r o) := by
  simp [setObj, Sem.run, setBlk, hc]
theorem r_makeMap {t ty : TypeId} (K : Value → World → Prop) (w : World) : OpX P (.makeMap t none) ty K w = K (.map (some w.heap.size)) (w.alloc (.map #[] 0)) := by
  exact OpX_ok fun ρ hg => by simp [execOp, mkOper, Instr.makeMap, newObj, Sem.run]
attribute [go_sem] r_makeMap
theorem look_ok {t ty : TypeId} {kk : IntKind} {z : Value} {r c : Nat} {l : Ents} {k : Int} {K : Value → World → Prop} {w : World} (ht : tmap P t = some (kk, z)) (hh : w.heap[r]? = some (.map (ents kk l) c)) :
    OpX P (.lookup t (.const (.map (some r))) (.const (.int kk k)) true) ty K w = K (.tuple #[(lfind l k).getD z, .bool (lfind l k).isSome]) w := by
  obtain ⟨kt, e, h1, h2, h3⟩ := tmap_spec ht
  refine OpX_ok fun ρ hg => ?_
  simp only [execOp, mkOper, hg.1, Instr.lookup]
  simp [run_underlying h1, run_getMap hh, run_checkKey h2, run_findKey h2, run_zero h3]
  rw [← lpos_find l k 0]
  cases hp : lpos l k 0 <;> simp [run_zero h3]
theorem look1_ok {t ty : TypeId} {kk : IntKind} {z : Value} {r c : Nat} {l : Ents} {k : Int} {K : Value → World → Prop} {w : World} (ht : tmap P t = some (kk, z)) (hh : w.heap[r]? = some (.map (ents kk l) c)) :
    OpX P (.lookup t (.const (.map (some r))) (.const (.int kk k)) false) ty K w = K ((lfind l k).getD z) w := by
  obtain ⟨kt, e, h1, h2, h3⟩ := tmap_spec ht
  refine OpX_ok fun ρ hg => ?_
  simp only [execOp, mkOper, hg.1, Instr.lookup]
  simp [run_underlying h1, run_getMap hh, run_checkKey h2, run_findKey h2, run_zero h3]
  rw [← lpos_find l k 0]
  cases hp : lpos l k 0 <;> simp [run_zero h3]
def putC (l : Ents) (k : Int) (c : Nat) : Nat := if (lfind l k).isSome then c else c + 1
theorem put_ok {t ty : TypeId} {kk : IntKind} {z : Value} {r c : Nat} {l : Ents} {k : Int} {v : Value} {K : Value → World → Prop} {w : World} (ht : tmap P t = some (kk, z)) (hh : w.heap[r]? = some (.map (ents kk l) c)) :
    OpX P (.mapUpdate t (.const (.map (some r))) (.const (.int kk k)) (.const v)) ty K w = K undef (setBlk w r (.map (ents kk (lput l k v c)) (putC l k c))) := by
  obtain ⟨kt, e, h1, h2, h3⟩ := tmap_spec ht
  refine OpX_skip fun ρ hg => ?_
  simp only [execOp, mkOper, hg.1, Instr.mapUpdate]
  simp [run_underlying h1, run_getMap hh, run_checkKey h2, run_findKey h2]
  have hf := lpos_find l k 0
  cases hp : lpos l k 0 with
  | none =>
    rw [hp] at hf
    obtain ⟨e1, -⟩ := lpos_none hp v c
    simp [run_setMap hh, putC, ← hf, e1, ents]
  | some x =>
    obtain ⟨n, u⟩ := x
    rw [hp] at hf
    obtain ⟨-, hn, e1⟩ := lpos_put hp v c
    obtain ⟨c0, hk⟩ := lpos_key hp
    have hkey : ((Option.map (fun x => x.key) (ents kk l)[n]?).getD (.int kk k)) = .int kk k := by
      simp [ents] at hk ⊢
      simp [hk]
    have hm : (ents kk l).modify n (fun e => { key := .int kk k, val := v, born := e.born }) = ents kk (lput l k v c) := by
      rw [e1]
      unfold ents
      apply Array.ext'
      simp only [Array.toList_modify, Nat.sub_zero]
      apply List.ext_getElem?
      intro i
      simp only [List.getElem?_modify, List.getElem?_map]
      by_cases hi : n = i <;> simp [hi] <;> cases l[i]? <;> rfl
    simp [hkey, Instr.keyThatStays, Instr.sameBits]
    rw [hm, run_setMap hh]
    simp [putC, ← hf]
theorem del_ok {t ty : TypeId} {ts : Array TypeId} {kk : IntKind} {z : Value} {r c : Nat} {l : Ents} {k : Int} {K : Value → World → Prop} {w : World} (ht : tmap P t = some (kk, z)) (hts : ts[0]? = some t) (hh : w.heap[r]? = some (.map (ents kk l) c)) :
    OpX P (.call { callee := .builtin .delete, args := #[.const (.map (some r)), .const (.int kk k)], argTypes := ts }) ty K w = K (.tuple #[]) (setBlk w r (.map (ents kk (ldel l k)) c)) := by
  obtain ⟨kt, e, h1, h2, h3⟩ := tmap_spec ht
  refine OpX_ok fun ρ hg => ?_
  simp only [execOp, mkOper]
  simp [resolve, invoke, builtin, Builtin.delete_, hg.1, hts, run_underlying h1, run_getMap hh, run_checkKey h2, run_findKey h2]
  cases hp : lpos l k 0 with
  | none =>
    obtain ⟨-, e1⟩ := lpos_none hp .nilIface 0
    simp [run_setMap hh, e1]
  | some x =>
    obtain ⟨n, u⟩ := x
    obtain ⟨-, hn, e1⟩ := lpos_del hp
    have hm : (ents kk l).eraseIdxIfInBounds n = ents kk (ldel l k) := by
      rw [e1]
      unfold ents
      simp only [Nat.sub_zero] at hn ⊢
      have hn' : n < ((l.map fun x => (⟨.int kk x.1, x.2.1, x.2.2⟩ : MapEntry)).toArray).size := by simpa using hn
      simp only [Array.eraseIdxIfInBounds, hn', dite_true]
      apply Array.ext'
      simp [map_eraseIdx']
    simp [hm, run_setMap hh]
theorem len_map_ok {t ty : TypeId} {ts : Array TypeId} {kk : IntKind} {z : Value} {r c : Nat} {l : Ents} {K : Value → World → Prop} {w : World} (ht : tmap P t = some (kk, z)) (hts : ts[0]? = some t) (hh : w.heap[r]? = some (.map (ents kk l) c)) :
    OpX P (.call { callee := .builtin .len, args := #[.const (.map (some r))], argTypes := ts }) ty K w = K (.int .i64 l.length) w := by
  obtain ⟨kt, e, h1, h2, h3⟩ := tmap_spec ht
  refine OpX_ok fun ρ hg => ?_
  simp only [execOp, mkOper]
  simp [resolve, invoke, builtin, Builtin.len_, hg.1, hts, run_underlying h1, run_getMap hh, goInt, ents]
theorem clear_ok {t ty : TypeId} {ts : Array TypeId} {kk : IntKind} {z : Value} {r c : Nat} {l : Ents} {K : Value → World → Prop} {w : World} (ht : tmap P t = some (kk, z)) (hts : ts[0]? = some t) (hh : w.heap[r]? = some (.map (ents kk l) c)) :
    OpX P (.call { callee := .builtin .clear, args := #[.const (.map (some r))], argTypes := ts }) ty K w = K (.tuple #[]) (setBlk w r (.map (ents kk []) c)) := by
  obtain ⟨kt, e, h1, h2, h3⟩ := tmap_spec ht
  refine OpX_ok fun ρ hg => ?_
  simp only [execOp, mkOper]
  simp [resolve, invoke, builtin, Builtin.clear_, hg.1, hts, run_underlying h1, run_getMap hh, run_setMap hh, ents]
theorem ents_inj {kk : IntKind} {l l' : Ents} (h : ents kk l = ents kk l') : l = l' := by
  unfold ents at h
  have h := List.toArray_inj h
  induction l generalizing l' with
  | nil => cases l' <;> simp at h ⊢
  | cons x l ih =>
    cases l' with
    | nil => simp at h
    | cons y l' =>
      simp only [List.map_cons, List.cons.injEq] at h
      obtain ⟨h1, h2⟩ := h
      obtain ⟨x1, x2, x3⟩ := x
      obtain ⟨y1, y2, y3⟩ := y
      simp at h1
      obtain ⟨rfl, rfl, rfl⟩ := h1
      rw [ih (by rw [h2]) h2]
noncomputable def unents (kk : IntKind) (x : Option Obj) : Option (Ents × Nat) := open Classical in if h : ∃ p : Ents × Nat, x = some (.map (ents kk p.1) p.2) then some h.choose else none
@[go_sem] theorem unents_some (kk : IntKind) (l : Ents) (c : Nat) : unents kk (some (.map (ents kk l) c)) = some (l, c) := by
  unfold unents
  have h : ∃ p : Ents × Nat, some (Obj.map (ents kk l) c) = some (.map (ents kk p.1) p.2) := ⟨(l, c), rfl⟩
  rw [dif_pos h]
  have := h.choose_spec
  generalize h.choose = p at this
  simp at this
  obtain ⟨h1, h2⟩ := this
  rw [ents_inj h1, h2]
attribute [go_sem] Option.isSome_none Option.getD_some Option.getD_none
@[go_sem] theorem unents_new (kk : IntKind) (c : Nat) : unents kk (some (.map #[] c)) = some ([], c) := unents_some kk [] c
theorem unents_spec {kk : IntKind} {x : Option Obj} {p : Ents × Nat} (h : unents kk x = some p) : x = some (.map (ents kk p.1) p.2) := by
  unfold unents at h
  split at h
  · rename_i hh
    simp at h
    rw [← h]
    exact hh.choose_spec
  · simp at h
def tmapZ (P : Program) (t : TypeId) (kk : IntKind) : Option Value := (tmap P t).bind fun p => if p.1 = kk then some p.2 else none
theorem tmapZ_spec {t : TypeId} {kk : IntKind} {z : Value} (h : tmapZ P t kk = some z) : tmap P t = some (kk, z) := by
  unfold tmapZ at h
  cases ht : tmap P t with
  | none => rw [ht] at h; simp at h
  | some p =>
    obtain ⟨a, b⟩ := p
    rw [ht] at h
    simp at h
    rw [h.1, h.2]
@[go_sem] theorem x_lookup (t ty : TypeId) (kk : IntKind) (r : Nat) (k : Int) (K : Value → World → Prop) (w : World) :
    OpX P (.lookup t (.const (.map (some r))) (.const (.int kk k)) true) ty K w =
      OrK (tmapZ P t kk) (fun z => OrK (unents kk w.heap[r]?) (fun p => K (.tuple #[(lfind p.1 k).getD z, .bool (lfind p.1 k).isSome]) w) (OpX P (.lookup t (.const (.map (some r))) (.const (.int kk k)) true) ty K w) ()) (OpX P (.lookup t (.const (.map (some r))) (.const (.int kk k)) true) ty K w) () :=
  OrK_by (fun z hz => OrK_by (fun p hp => look_ok (tmapZ_spec hz) (unents_spec hp)) rfl) rfl
@[go_sem] theorem x_lookup1 (t ty : TypeId) (kk : IntKind) (r : Nat) (k : Int) (K : Value → World → Prop) (w : World) :
    OpX P (.lookup t (.const (.map (some r))) (.const (.int kk k)) false) ty K w =
      OrK (tmapZ P t kk) (fun z => OrK (unents kk w.heap[r]?) (fun p => K ((lfind p.1 k).getD z) w) (OpX P (.lookup t (.const (.map (some r))) (.const (.int kk k)) false) ty K w) ()) (OpX P (.lookup t (.const (.map (some r))) (.const (.int kk k)) false) ty K w) () :=
  OrK_by (fun z hz => OrK_by (fun p hp => look1_ok (tmapZ_spec hz) (unents_spec hp)) rfl) rfl
@[go_sem] theorem x_mapUpdate (t ty : TypeId) (kk : IntKind) (r : Nat) (k : Int) (v : Value) (K : Value → World → Prop) (w : World) :
    OpX P (.mapUpdate t (.const (.map (some r))) (.const (.int kk k)) (.const v)) ty K w =
      OrK (tmapZ P t kk) (fun _ => OrK (unents kk w.heap[r]?) (fun p => K undef (setBlk w r (.map (ents kk (lput p.1 k v p.2)) (putC p.1 k p.2)))) (OpX P (.mapUpdate t (.const (.map (some r))) (.const (.int kk k)) (.const v)) ty K w) ()) (OpX P (.mapUpdate t (.const (.map (some r))) (.const (.int kk k)) (.const v)) ty K w) () :=
  OrK_by (fun z hz => OrK_by (fun p hp => put_ok (tmapZ_spec hz) (unents_spec hp)) rfl) rfl
@[go_sem] theorem x_delete' (t t' ty : TypeId) (kk : IntKind) (r : Nat) (k : Int) (K : Value → World → Prop) (w : World) :
    OpX P (.call { callee := .builtin .delete, args := #[.const (.map (some r)), .const (.int kk k)], argTypes := #[t, t'] }) ty K w =
      OrK (tmapZ P t kk) (fun _ => OrK (unents kk w.heap[r]?) (fun p => K (.tuple #[]) (setBlk w r (.map (ents kk (ldel p.1 k)) p.2))) (OpX P (.call { callee := .builtin .delete, args := #[.const (.map (some r)), .const (.int kk k)], argTypes := #[t, t'] }) ty K w) ()) (OpX P (.call { callee := .builtin .delete, args := #[.const (.map (some r)), .const (.int kk k)], argTypes := #[t, t'] }) ty K w) () :=
  OrK_by (fun z hz => OrK_by (fun p hp => del_ok (tmapZ_spec hz) rfl (unents_spec hp)) rfl) rfl
def tmapK (P : Program) (t : TypeId) : Option IntKind := (tmap P t).map (·.1)
theorem tmapK_spec {t : TypeId} {kk : IntKind} (h : tmapK P t = some kk) : ∃ z, tmap P t = some (kk, z) := by
  unfold tmapK at h
  simp at h
  exact h
@[go_sem] theorem x_len_map (t ty : TypeId) (r : Nat) (K : Value → World → Prop) (w : World) :
    OpX P (.call { callee := .builtin .len, args := #[.const (.map (some r))], argTypes := #[t] }) ty K w =
      OrK (tmapK P t) (fun kk => OrK (unents kk w.heap[r]?) (fun p => K (.int .i64 p.1.length) w) (OpX P (.call { callee := .builtin .len, args := #[.const (.map (some r))], argTypes := #[t] }) ty K w) ()) (OpX P (.call { callee := .builtin .len, args := #[.const (.map (some r))], argTypes := #[t] }) ty K w) () :=
  OrK_by (fun kk hk => OrK_by (fun p hp => by obtain ⟨z, hz⟩ := tmapK_spec hk; exact len_map_ok hz rfl (unents_spec hp)) rfl) rfl
@[go_sem] theorem rd_len_map (t ty : TypeId) (r : Nat) (K : Value → Prop) (w : World) :
    RdX P (.call { callee := .builtin .len, args := #[.const (.map (some r))], argTypes := #[t] }) ty K w =
      OrK (tmapK P t) (fun kk => OrK (unents kk w.heap[r]?) (fun p => K (.int .i64 p.1.length)) (RdX P (.call { callee := .builtin .len, args := #[.const (.map (some r))], argTypes := #[t] }) ty K w) ()) (RdX P (.call { callee := .builtin .len, args := #[.const (.map (some r))], argTypes := #[t] }) ty K w) () := by
  refine OrK_by (fun kk hk => OrK_by (fun p hp => ?_) rfl) rfl
  obtain ⟨z, hz⟩ := tmapK_spec hk
  have hh := unents_spec hp
  obtain ⟨kt, e, h1, h2, h3⟩ := tmap_spec hz
  refine RdX_ok fun ρ hg => ?_
  simp only [execOp, mkOper]
  simp [resolve, invoke, builtin, Builtin.len_, hg.1, run_underlying h1, run_getMap hh, goInt, ents]
@[go_sem] theorem x_clear_map (t ty : TypeId) (r : Nat) (K : Value → World → Prop) (w : World) :
    OpX P (.call { callee := .builtin .clear, args := #[.const (.map (some r))], argTypes := #[t] }) ty K w =
      OrK (tmapK P t) (fun kk => OrK (unents kk w.heap[r]?) (fun p => K (.tuple #[]) (setBlk w r (.map (ents kk []) p.2))) (OpX P (.call { callee := .builtin .clear, args := #[.const (.map (some r))], argTypes := #[t] }) ty K w) ()) (OpX P (.call { callee := .builtin .clear, args := #[.const (.map (some r))], argTypes := #[t] }) ty K w) () :=
  OrK_by (fun kk hk => OrK_by (fun p hp => by obtain ⟨z, hz⟩ := tmapK_spec hk; exact clear_ok hz rfl (unents_spec hp)) rfl) rfl
end
end Lyc
namespace Lyc
open Go
section
variable {P : Program}
theorem chg_of_grown {w w' : World} {row : Option Nat} (h : w.grownBy w' row) : Chg row.toList w w' :=
  ⟨h.os, h.tape, h.output, h.size, fun b hb hn => h.block b hb (by cases row <;> simp_all)⟩
def tapp (P : Program) (t : TypeId) : Option (TypeId × Nat × Nat) :=
  (P.underlying t).bind fun
    | .slice e => (P.info? e).bind fun i => i.zero.bind fun z => if z.cells.size = i.size ∧ 0 < i.size then some (e, i.size, i.bytes) else none
    | _ => none
theorem tapp_spec {t e : TypeId} {m by_ : Nat} (h : tapp P t = some (e, m, by_)) : P.underlying t = some (.slice e) ∧ ∃ i z, P.info? e = some i ∧ i.zero = some z ∧ i.size = m ∧ i.bytes = by_ ∧ z.cells.size = m ∧ 0 < m := by
  unfold tapp at h
  cases hu : P.underlying t with
  | none => rw [hu] at h; simp at h
  | some d =>
    rw [hu] at h
    cases d <;> first | (rename_i e'; dsimp only at h) | skip
    all_goals first | (simp at h; done) | skip
    rename_i e'
    cases hi : P.info? e' with
    | none => simp [hi] at h
    | some i =>
      cases hz : i.zero with
      | none => simp [hi, hz] at h
      | some z =>
        simp only [hi, hz, Option.bind_some] at h
        split at h
        · rename_i hc
          simp at h
          obtain ⟨rfl, rfl, rfl⟩ := h
          exact ⟨rfl, i, z, hi, hz, rfl, rfl, hc.1, hc.2⟩
        · simp at h
theorem app_own {t ty e : TypeId} {m by_ base : Nat} {v : Value} {n : Nat} {xs : List Value} {b o k c : Nat} {news : List Value} {K : Value → World → Prop} {w : World}
    (ht : tapp P t = some (e, m, by_)) (hown : w.ownsRow base e m v n xs) (hl : news.length = k * m) (hnews : ∀ j u, news[j]? = some u → cellAt w.heap[b]? (o + j) = some u) (h1 : okCells news = true)
    (h63 : n + k ≤ maxLen) (hbytes : (n + k) * by_ ≤ 140737488355328) (hbase : base ≤ w.heap.size)
    (hk : ∀ v' w', w'.ownsRow base e m v' (n + k) (xs ++ news) → Chg v.ownBlock.toList w w' → (v' = .slice none 0 0 ↔ v = .slice none 0 0 ∧ k = 0) → K v' w') :
    OpX P (.call { callee := .builtin .append, args := #[.const v, .const (.slice (some ⟨b, o, none⟩) k c)], argTypes := #[t, t] }) ty K w := by
  obtain ⟨hu, i, z, hi, hz, hs, hby, hzs, hsz⟩ := tapp_spec ht
  obtain ⟨v', w', hr, h2, h3, h4⟩ := run_append_own (P := P) w base t ty e i z m by_ hu hi hz hs hby hzs hsz v n xs hown ⟨b, o, none⟩ k c news hl (fun j u hj => by rw [add_mk, cell?_at]; exact hnews j u hj) (by simpa [okCells] using h1) h63 hbytes hbase
  rw [OpX_ok (v := v') (w' := w') fun ρ hg => by simp [execOp, mkOper, resolve, invoke, builtin, hg.1, hr]]
  exact hk _ _ h2 (chg_of_grown h3) h4
def zrow (z : List Value) : Nat → List Value
  | 0 => []
  | n + 1 => z ++ zrow z n
@[go_sem] theorem zrow_zero (z : List Value) : zrow z 0 = [] := rfl
@[go_sem] theorem zrow_succ (z : List Value) (n : Nat) : zrow z (n + 1) = z ++ zrow z n := rfl
theorem length_zrow (z : List Value) (n : Nat) : (zrow z n).length = n * z.length := by
  induction n with
  | zero => simp [zrow]
  | succ n ih => rw [zrow_succ, List.length_append, ih, Nat.add_mul]; omega
theorem zrow_get (z : List Value) (n i : Nat) (h : i < n * z.length) : (zrow z n)[i]? = z[i % z.length]? := by
  induction n generalizing i with
  | zero => omega
  | succ n ih =>
    rw [zrow_succ]
    by_cases hi : i < z.length
    · rw [List.getElem?_append_left hi, Nat.mod_eq_of_lt hi]
    · rw [List.getElem?_append_right (by omega), ih (i - z.length) (by rw [Nat.add_mul] at h; omega)]
      rw [Nat.mod_eq_sub_mod (show i ≥ z.length by omega)]
theorem zrow_eq (z : Array Value) (n s : Nat) (hs : z.size = s) (h0 : 0 < s) : (Array.range (n * s)).map (fun i => z[i % z.size]!) = (zrow z.toList n).toArray := by
  subst hs
  apply Array.ext_getElem?
  intro i
  have e2 : (zrow z.toList n).toArray[i]? = (zrow z.toList n)[i]? := by simp
  rw [e2]
  by_cases hi : i < n * z.size
  · have hm : i % z.size < z.size := Nat.mod_lt _ h0
    rw [zrow_get _ _ _ (by rw [Array.length_toList]; exact hi)]
    simp [hi, hm]
  · rw [Array.getElem?_eq_none (by simpa using hi), List.getElem?_eq_none (by rw [length_zrow, Array.length_toList]; omega)]
def tbs (P : Program) (t : TypeId) : Option (TypeId × Nat × List Value) :=
  (P.underlying t).bind fun
    | .slice e => (P.info? e).bind fun i => i.zero.bind fun z => if z.cells.size = i.size ∧ 0 < i.size then some (e, i.size, z.cells.toList) else none
    | _ => none
theorem tbs_spec {t e : TypeId} {m : Nat} {zs : List Value} (h : tbs P t = some (e, m, zs)) : P.underlying t = some (.slice e) ∧ ∃ i z, P.info? e = some i ∧ i.zero = some z ∧ i.size = m ∧ z.cells.toList = zs ∧ z.cells.size = m ∧ 0 < m := by
  unfold tbs at h
  cases hu : P.underlying t with
  | none => rw [hu] at h; simp at h
  | some d =>
    rw [hu] at h
    cases d <;> first | (rename_i e'; dsimp only at h) | skip
    all_goals first | (simp at h; done) | skip
    rename_i e'
    cases hi : P.info? e' with
    | none => simp [hi] at h
    | some i =>
      cases hz : i.zero with
      | none => simp [hi, hz] at h
      | some z =>
        simp only [hi, hz, Option.bind_some] at h
        split at h
        · rename_i hc
          simp at h
          obtain ⟨rfl, rfl, rfl⟩ := h
          exact ⟨rfl, i, z, hi, hz, rfl, rfl, hc.1, hc.2⟩
        · simp at h
def bplaces (m : Nat) : Nat → Nat → List (Nat × Nat)
  | 0, _ => []
  | n + 1, o => (o, m) :: bplaces m n (o + m)
@[go_sem] theorem bplaces_zero (m o : Nat) : bplaces m 0 o = [] := rfl
@[go_sem] theorem bplaces_succ (m n o : Nat) : bplaces m (n + 1) o = (o, m) :: bplaces m n (o + m) := rfl
theorem bplaces_get (m : Nat) : ∀ (n o i : Nat) (x : Nat × Nat), (bplaces m n o)[i]? = some x → some (o + i * m, m) = some x
  | 0, o, i, x, h => by simp [bplaces] at h
  | n + 1, o, 0, x, h => by simpa [bplaces] using h
  | n + 1, o, i + 1, x, h => by
    have := bplaces_get m n (o + m) i x (by simpa [bplaces] using h)
    rw [← this, Nat.add_mul]; congr 2; omega
@[go_sem] theorem x_buildSlice (t ty : TypeId) (n : Nat) (parts : List (Nat × Operand)) (K : Value → World → Prop) (w : World) (hn : 0 < n) (hn2 : n ≤ 1000) :
    OpX P (.buildSlice t n parts.toArray) ty K w = OrK ((tbs P t).bind fun q => if q.2.1 ≤ 1000 then (partV parts).bind fun vs => (fillL (bplaces q.2.1 n 0) (zrow q.2.2 n).toArray vs).map fun c => (q.1, c) else none) (fun r => K (.slice (some ⟨w.heap.size, 0, none⟩) n n) (w.alloc (.cells r.2 r.1))) (OpX P (.buildSlice t n parts.toArray) ty K w) () := by
  refine OrK_by (fun r h => ?_) rfl
  obtain ⟨⟨e, m, zs⟩, hq, h⟩ := Option.bind_eq_some_iff.1 h
  dsimp only at h
  split at h
  · rename_i hm
    obtain ⟨vs, hv, h⟩ := Option.bind_eq_some_iff.1 h
    obtain ⟨c, hf, rfl⟩ := Option.map_eq_some_iff.1 h
    obtain ⟨hu, i, z, hi, hz, hs, hzs, hzn, h0⟩ := tbs_spec hq
    subst hs
    have hle : n * i.size ≤ 1000 * 1000 := Nat.mul_le_mul hn2 hm
    have hpos : 0 < n * i.size := Nat.mul_pos hn h0
    refine OpX_ok fun ρ hg => ?_
    have hfill := fill_eq (fun j => some (j * i.size, i.size)) (bplaces i.size n 0) (fun j x hx => by simpa using bplaces_get _ _ _ _ _ hx) vs _ c hf
    rw [← hzs, ← zrow_eq z.cells n i.size hzn h0] at hfill
    have hp := partV_spec hg hv
    have hr := run_buildSlice (P := P) w t e n (vs.toArray) c i z hu hi hz (by omega) (by omega) (by simpa using hfill)
    simp only [execOp, mkOper, List.map_toArray, hp]
    rw [Sem.run_bind, hr]
    rfl
  · simp at h
def tmk (P : Program) (t : TypeId) : Option (TypeId × Nat × List Value × Nat) := (tbs P t).bind fun q => (tbytes P q.1).map fun b => (q.1, q.2.1, q.2.2, b)
theorem make_ok {t ty e : TypeId} {m b : Nat} {zs : List Value} {kl kc : IntKind} {l c : Int} {K : Value → World → Prop} {w : World} (ht : tmk P t = some (e, m, zs, b)) (h0 : 0 ≤ l) (hlc : l ≤ c)
    (hcells : c.toNat * m ≤ 16777216) (hbytes : (b : Int) * c ≤ 281474976710656) (h63 : c ≤ 9223372036854775807) :
    OpX P (.makeSlice t (.const (.int kl l)) (.const (.int kc c))) ty K w = K (.slice (some ⟨w.heap.size, 0, none⟩) l.toNat c.toNat) (w.alloc (.cells (zrow zs c.toNat).toArray e)) := by
  obtain ⟨⟨e', m', zs'⟩, hq, h⟩ := Option.bind_eq_some_iff.1 ht
  obtain ⟨b', hb0, h⟩ := Option.map_eq_some_iff.1 h
  simp only [Prod.mk.injEq] at h
  obtain ⟨rfl, rfl, rfl, rfl⟩ := h
  obtain ⟨hu, i, z, hi, hz, hs, hzs, hzn, hm⟩ := tbs_spec hq
  have hb : i.bytes = b' := by
    unfold tbytes at hb0
    rw [hi] at hb0
    simpa using hb0
  subst hs; subst hb
  have hr := run_makeSlice (P := P) (w := w) t e' i z hu hi hz kl kc l c h0 hlc hcells hbytes h63
  have e1 : madeCells z.cells (c.toNat * i.size) = (zrow zs' c.toNat).toArray := by
    rw [← hzs, ← zrow_eq z.cells c.toNat i.size hzn hm]
    rfl
  rw [e1] at hr
  refine OpX_ok fun ρ hg => ?_
  simp [execOp, mkOper, hg.1, hr]
theorem copy_ok {t t' ty : TypeId} {m : Nat} {b o dl dc b' o' sl sc : Nat} {cs : List Value} {x' : Obj} {K : Value → World → Prop} {w : World} (ht : tslice P t = some m) (hl : cs.length = min sl dl * m)
    (hsrc : ∀ j u, cs[j]? = some u → cellAt w.heap[b']? (o' + j) = some u) (hok : okCells cs = true) (hput : putAt w.heap[b]? o cs = some x') :
    OpX P (.call { callee := .builtin .copy, args := #[.const (.slice (some ⟨b, o, none⟩) dl dc), .const (.slice (some ⟨b', o', none⟩) sl sc)], argTypes := #[t, t'] }) ty K w = K (.int .i64 (min sl dl : Nat)) (setBlk w b x') := by
  obtain ⟨e, hu, hs⟩ := tslice_u ht
  have hf := run_firstCells_some (P := P) w m (min sl dl) ⟨b', o', none⟩ sl sc cs hl (fun j u hj => by rw [add_mk, cell?_at]; exact hsrc j u hj)
  have hst := run_storeV (P := P) hput hok
  refine OpX_ok fun ρ hg => ?_
  have hm : Nat.min sl dl = min sl dl := rfl
  simp [execOp, mkOper, resolve, invoke, builtin, hg.1, Builtin.copy_, run_underlying hu, run_size hs, Builtin.lenOf, goInt, hm, hf, hst]
end
end Lyc
namespace Lyc
open Go
section
variable {P : Program} {α : Type}
attribute [go_sem] Nat.mul_one
def tagOk : Option TypeId → TypeId → Bool
  | none, _ => true
  | some e, e' => Nat.beq e e'
theorem tagOk_some {e e' : TypeId} (h : tagOk (some e) e' = true) : e' = e := (Nat.eq_of_beq_eq_true h).symm
structure Sx (w : World) (e : Option TypeId) (f : α → List Value) (a : Option Addr) (l : List α) : Prop where
  at_ : l ≠ [] → ∃ b o c e' fr pre post, a = some ⟨b, o, none⟩ ∧ w.heap[b]? = some (.cells c e' fr) ∧ tagOk e e' = true ∧ c = (pre ++ l.flatMap f ++ post).toArray ∧ pre.length = o
theorem Sx.nil (w : World) (e : Option TypeId) (f : α → List Value) (a : Option Addr) : Sx w e f a [] := ⟨fun h => absurd rfl h⟩
theorem Sx.untag {w : World} {e : Option TypeId} {f : α → List Value} {a : Option Addr} {l : List α} (h : Sx w e f a l) : Sx w none f a l :=
  ⟨fun hl => let ⟨b, o, c, e', fr, pre, post, h1, h2, _, h4⟩ := h.at_ hl; ⟨b, o, c, e', fr, pre, post, h1, h2, rfl, h4⟩⟩
theorem Sx.chg {w w' : World} {e : Option TypeId} {f : α → List Value} {a : Option Addr} {l : List α} {F : List Nat} (h : Sx w e f a l) (hc : Chg F w w') (hF : ∀ b o, a = some ⟨b, o, none⟩ → l ≠ [] → b ∉ F) : Sx w' e f a l :=
  ⟨fun hl => let ⟨b, o, c, e', fr, pre, post, h1, h2, h3, h4⟩ := h.at_ hl; ⟨b, o, c, e', fr, pre, post, h1, hc.keep h2 (hF b o h1 hl), h3, h4⟩⟩
theorem Sx.chg0 {w w' : World} {e : Option TypeId} {f : α → List Value} {a : Option Addr} {l : List α} (h : Sx w e f a l) (hc : Chg [] w w') : Sx w' e f a l := h.chg hc (by simp)
theorem Sx.lt {w : World} {e : Option TypeId} {f : α → List Value} {a : Option Addr} {l : List α} (h : Sx w e f a l) (hl : l ≠ []) {b o : Nat} (ha : a = some ⟨b, o, none⟩) : b < w.heap.size := by
  obtain ⟨b', o', c, e', fr, pre, post, h1, h2, _⟩ := h.at_ hl
  rw [ha] at h1; cases h1
  exact lt_of_heap h2
theorem Sx.low {w w' : World} {e : Option TypeId} {f : α → List Value} {a : Option Addr} {l : List α} {F : List Nat} (h : Sx w e f a l) (hc : Chg F w w') (hF : ∀ x ∈ F, w.heap.size ≤ x) : Sx w' e f a l :=
  h.chg hc fun b o ha hl hm => absurd (hF b hm) (by have := h.lt hl ha; omega)
theorem Sx.ne {w : World} {e : TypeId} {f : α → List Value} {a : Option Addr} {l : List α} (h : Sx w (some e) f a l) {b o : Nat} (ha : a = some ⟨b, o, none⟩) (hl : l ≠ []) {b' : Nat} {c : Array Value} {e' : TypeId} {fr : Nat × Nat} (hb : w.heap[b']? = some (.cells c e' fr)) (hne : Nat.beq e' e = false) : b ≠ b' := by
  obtain ⟨b2, o2, c2, e2, fr2, pre, post, h1, h2, h3, _⟩ := h.at_ hl
  rw [ha] at h1; cases h1
  rintro rfl
  rw [hb] at h2; cases h2
  rw [tagOk_some h3] at hne
  simp at hne
theorem flat_get {f : α → List Value} {m : Nat} (hf : ∀ x, (f x).length = m) : ∀ (l : List α) (i : Nat) (x : α), l[i]? = some x → ∃ pre post, l.flatMap f = pre ++ f x ++ post ∧ pre.length = i * m
  | [], i, x, h => by simp at h
  | y :: l, 0, x, h => by simp at h; subst h; exact ⟨[], l.flatMap f, by simp, by simp⟩
  | y :: l, i + 1, x, h => by
    obtain ⟨pre, post, h1, h2⟩ := flat_get hf l i x (by simpa using h)
    exact ⟨f y ++ pre, post, by simp [h1], by rw [List.length_append, hf, h2, Nat.add_mul]; omega⟩
theorem flat_len {f : α → List Value} {m : Nat} (hf : ∀ x, (f x).length = m) (l : List α) : (l.flatMap f).length = l.length * m := by
  induction l with
  | nil => simp
  | cons x l ih => simp [hf, ih, Nat.add_mul]; omega
theorem aggAt_mid (pre xs post : List Value) (e : TypeId) (fr : Nat × Nat) (o n : Nat) (ho : pre.length = o) (hn : xs.length = n) : aggAt (some (.cells (pre ++ xs ++ post).toArray e fr)) o n = some xs.toArray := by
  subst ho; subst hn
  rw [aggAt_cells, if_pos (by simp)]
  simp [List.extract_toArray]
theorem aggAt_cell {x : Option Obj} {o n : Nat} {c : Array Value} (h : aggAt x o n = some c) (j : Nat) (hj : j < n) : cellAt x (o + j) = c[j]? := by
  cases x with
  | none => simp [aggAt] at h
  | some x =>
    cases x with
    | cells cs e fr =>
      rw [aggAt_cells] at h
      split at h
      · rename_i hle
        cases h
        rw [cellAt_cells, Array.getElem?_extract_of_lt (by omega)]
        simp [show o + j < cs.size by omega]
      · simp at h
    | _ => simp [aggAt] at h
theorem Sx.get {w : World} {e : Option TypeId} {f : α → List Value} {a : Option Addr} {l : List α} {m : Nat} (h : Sx w e f a l) (hf : ∀ x, (f x).length = m) {i : Nat} {x : α} (hi : l[i]? = some x) :
    ∃ b o, a = some ⟨b, o, none⟩ ∧ b < w.heap.size ∧ aggAt w.heap[b]? (o + i * m) m = some (f x).toArray := by
  have hl : l ≠ [] := by rintro rfl; simp at hi
  obtain ⟨b, o, c, e', fr, pre, post, h1, h2, h3, h4, h5⟩ := h.at_ hl
  refine ⟨b, o, h1, lt_of_heap h2, ?_⟩
  obtain ⟨p, q, h6, h7⟩ := flat_get hf l i x hi
  rw [h2, h4, h6]
  have : pre ++ (p ++ f x ++ q) ++ post = (pre ++ p) ++ f x ++ (q ++ post) := by simp
  rw [this]
  exact aggAt_mid _ _ _ _ _ _ _ (by simp [h5, h7]) (hf x)
theorem Sx.get1 {w : World} {e : Option TypeId} {f : α → List Value} {g : α → Value} {a : Option Addr} {l : List α} (h : Sx w e f a l) (hf : ∀ x, f x = [g x]) {i : Nat} {x : α} (hi : l[i]? = some x) :
    ∃ b o, a = some ⟨b, o, none⟩ ∧ b < w.heap.size ∧ cellAt w.heap[b]? (o + i) = some (g x) := by
  obtain ⟨b, o, h1, h2, h3⟩ := h.get (m := 1) (fun x => by simp [hf]) hi
  refine ⟨b, o, h1, h2, ?_⟩
  have := aggAt_cell h3 0 (by omega)
  simp only [Nat.mul_one, Nat.add_zero] at this
  rw [this, hf]; rfl
theorem Sx.sub {w : World} {e : Option TypeId} {f : α → List Value} {b o : Nat} {l : List α} {m : Nat} (h : Sx w e f (some ⟨b, o, none⟩) l) (hf : ∀ x, (f x).length = m) (i n : Nat) (a : Option Addr) (ha : n = 0 ∨ l.length ≤ i ∨ a = some ⟨b, o + i * m, none⟩) : Sx w e f a ((l.drop i).take n) := by
  refine ⟨fun hl => ?_⟩
  have hi : i < l.length ∧ n ≠ 0 := by
    constructor
    · apply Nat.lt_of_not_le; intro hle; apply hl; rw [List.drop_eq_nil_of_le hle]; simp
    · rintro rfl; simp at hl
  have ha : a = some ⟨b, o + i * m, none⟩ := by rcases ha with h | h | h <;> first | exact h | omega
  subst ha
  have hl' : l ≠ [] := by rintro rfl; simp at hi
  obtain ⟨b', o', c, e', fr, pre, post, h1, h2, h3, h4, h5⟩ := h.at_ hl'
  cases h1
  refine ⟨b, o + i * m, c, e', fr, pre ++ (l.take i).flatMap f, ((l.drop i).drop n).flatMap f ++ post, rfl, h2, h3, ?_, ?_⟩
  · rw [h4]
    congr 1
    have e1 : l.flatMap f = (l.take i).flatMap f ++ ((l.drop i).take n).flatMap f ++ ((l.drop i).drop n).flatMap f := by
      rw [← List.flatMap_append, ← List.flatMap_append, List.append_assoc, List.take_append_drop, List.take_append_drop]
    rw [e1]; simp
  · simp only [List.length_append, h5, flat_len hf, List.length_take]
    rw [Nat.min_eq_left (by omega)]
theorem Sx.cell {w : World} {e : Option TypeId} {f : α → List Value} {b o : Nat} {l : List α} (h : Sx w e f (some ⟨b, o, none⟩) l) : ∀ j u, (l.flatMap f)[j]? = some u → cellAt w.heap[b]? (o + j) = some u := by
  intro j u hj
  have hl : l ≠ [] := by rintro rfl; simp at hj
  obtain ⟨b', o', c, e', fr, pre, post, h1, h2, h3, h4, h5⟩ := h.at_ hl
  cases h1
  rw [h2, h4, cellAt_cells]
  have hj' := (List.getElem?_eq_some_iff.1 hj).1
  rw [List.getElem?_toArray, List.append_assoc, List.getElem?_append_right (by omega), List.getElem?_append_left (by omega)]
  rw [← hj]; congr 1; omega
def Ox (base : Nat) (w : World) (e : TypeId) (m : Nat) (f : α → List Value) (v : Value) (l : List α) : Prop := w.ownsRow base e m v l.length (l.flatMap f)
section
variable {base : Nat} {w w' : World} {e : TypeId} {m : Nat} {f : α → List Value} {v : Value} {l : List α}
theorem Ox.nil (base : Nat) (w : World) (e : TypeId) (m : Nat) (f : α → List Value) : Ox base w e m f (.slice none 0 0) [] := World.ownsRow_nil w base e m
theorem Ox.form (h : Ox base w e m f v l) : ∃ a cap, v = .slice a l.length cap ∧ l.length ≤ cap ∧ Sx w (some e) f a l ∧ (∀ b, some b = v.ownBlock → base ≤ b ∧ b < w.heap.size) ∧ (l ≠ [] → ∃ g, a = some ⟨g, 0, none⟩ ∧ base ≤ g ∧ g < w.heap.size) := by
  have hlt : ∀ b, some b = v.ownBlock → base ≤ b ∧ b < w.heap.size := fun b hb => h.lt b hb.symm
  obtain ⟨hl, h⟩ := h
  rcases h with ⟨rfl, h0⟩ | ⟨g, cap, cur, rfl, hb, hg, hn, hm, hs, ht⟩
  · have : l = [] := List.eq_nil_of_length_eq_zero h0
    subst this
    exact ⟨none, 0, rfl, Nat.le_refl _, Sx.nil .., by simp [Value.ownBlock], by simp⟩
  · refine ⟨some ⟨g, 0, none⟩, cap, rfl, hn, ⟨fun _ => ⟨g, 0, cur, e, (0, 0), [], cur.toList.drop (l.length * m), rfl, hg, by simp [tagOk], ?_, rfl⟩⟩, hlt, fun _ => ⟨g, rfl, hb, lt_of_heap hg⟩⟩
    rw [← ht]; simp
theorem Ox.addr {a : Option Addr} {n c : Nat} (h : Ox base w e m f (.slice a n c) l) : a = none ∨ ∃ b o, a = some ⟨b, o, none⟩ := by
  obtain ⟨hl1, h⟩ := h
  rcases h with ⟨hv, h0⟩ | ⟨g, cap, cur, hv, hb, hg, hn, hm, hs, ht⟩
  · rw [Value.slice.injEq] at hv; exact .inl hv.1
  · rw [Value.slice.injEq] at hv; exact .inr ⟨g, 0, hv.1⟩
theorem Ox.blk (h : Ox base w e m f v l) (hl : l ≠ []) : ∃ nb cap sp, v = .slice (some ⟨nb, 0, none⟩) l.length cap ∧ l.length ≤ cap ∧ base ≤ nb ∧ w.heap[nb]? = some (.cells (l.flatMap f ++ sp).toArray e) := by
  obtain ⟨hl1, h⟩ := h
  rcases h with ⟨rfl, h0⟩ | ⟨g, cap, cur, rfl, hb, hg, hn, hm, hs, ht⟩
  · exact absurd (List.eq_nil_of_length_eq_zero h0) hl
  · refine ⟨g, cap, cur.toList.drop (l.length * m), rfl, hn, hb, ?_⟩
    rw [hg, ← ht]; simp
theorem Ox.chg {F : List Nat} (h : Ox base w e m f v l) (hc : Chg F w w') (hF : ∀ b, some b = v.ownBlock → b ∉ F) : Ox base w' e m f v l := by
  obtain ⟨hl, h⟩ := h
  refine ⟨hl, ?_⟩
  rcases h with h | ⟨g, cap, cur, rfl, hb, hg, hn, hm, hs, ht⟩
  · exact .inl h
  · exact .inr ⟨g, cap, cur, rfl, hb, hc.keep hg (hF g rfl), hn, hm, hs, ht⟩
theorem Ox.off (h : Ox base w e m f v l) {t : Nat} {c : Array Value} {e' : TypeId} {fr : Nat × Nat} (ht : w.heap[t]? = some (.cells c e' fr)) (hne : Nat.beq e' e = false) : v.ownBlock ≠ some t := by
  obtain ⟨hl, ho⟩ := h
  rcases ho with ⟨hv, -⟩ | ⟨g, cap, cur, hv, -, hg, -⟩
  · rw [hv]; simp [Value.ownBlock]
  · rw [hv]
    simp only [Value.ownBlock, ne_eq, Option.some.injEq]
    rintro rfl
    rw [ht] at hg
    simp only [Option.some.injEq, Obj.cells.injEq] at hg
    rw [hg.2.1, Nat.beq_refl] at hne
    simp at hne
theorem Ox.own_ge (h : Ox base w e m f v l) : ∀ x ∈ v.ownBlock.toList, base ≤ x := by
  obtain ⟨a, cap, hv, -, -, hb, -⟩ := h.form
  intro x hx
  exact (hb x (by cases hv' : v.ownBlock with | none => rw [hv'] at hx; simp at hx | some y => rw [hv'] at hx; simp at hx; rw [hx])).1
theorem Ox.chg0 (h : Ox base w e m f v l) (hc : Chg [] w w') : Ox base w' e m f v l := h.chg hc (by simp)
theorem Ox.low {F : List Nat} (h : Ox base w e m f v l) (hc : Chg F w w') (hF : ∀ x ∈ F, x < base) : Ox base w' e m f v l :=
  h.chg hc fun b hb hm => absurd (hF b hm) (by have := h.lt b hb.symm; omega)
theorem Ox.base_le (h : Ox base w e m f v l) {base' : Nat} (hb : base' ≤ base) : Ox base' w e m f v l := by
  obtain ⟨hl, h⟩ := h
  refine ⟨hl, ?_⟩
  rcases h with h | ⟨g, cap, cur, h1, h2, h3⟩
  · exact .inl h
  · exact .inr ⟨g, cap, cur, h1, by omega, h3⟩
theorem own_chg {w0 : World} {F : List Nat} (h : Ox w0.heap.size w e m f v l) (hc : Chg F w0 w) (hc' : Chg v.ownBlock.toList w w') : Chg F w0 w' :=
  hc.trans hc' fun x hx => .inr (h.lt x (by cases hv : v.ownBlock <;> simp_all)).1
theorem own_chg' {w0 : World} {F : List Nat} {b0 : Nat} (h : Ox b0 w e m f v l) (h0 : w0.heap.size ≤ b0) (hc : Chg F w0 w) (hc' : Chg v.ownBlock.toList w w') : Chg F w0 w' :=
  own_chg (h.base_le h0) hc hc'
end
theorem okCells_flat {f : α → List Value} (hok : ∀ x, okCells (f x) = true) (l : List α) : okCells (l.flatMap f) = true := by
  induction l with
  | nil => rfl
  | cons x l ih => rw [List.flatMap_cons]; simp only [okCells, List.all_append, Bool.and_eq_true]; exact ⟨hok x, ih⟩
theorem app_x {t ty e : TypeId} {m by_ base : Nat} {f : α → List Value} {v : Value} {l l2 : List α} {a : Option Addr} {k c : Nat} {e' : Option TypeId} {K : Value → World → Prop} {w : World}
    (ht : tapp P t = some (e, m, by_)) (hf : ∀ x, (f x).length = m) (hok : ∀ x, okCells (f x) = true) (h : Ox base w e m f v l) (hs : Sx w e' f a l2) (hk : k = l2.length)
    (hb : l.length + l2.length ≤ 1000000000) (hby : by_ ≤ 100000) (hbase : base ≤ w.heap.size)
    (hK : ∀ v' w', Ox base w' e m f v' (l ++ l2) → Chg v.ownBlock.toList w w' → (v'.ownBlock = v.ownBlock ∨ v'.ownBlock = some w.heap.size) → K v' w') :
    OpX P (.call { callee := .builtin .append, args := #[.const v, .const (.slice a k c)], argTypes := #[t, t] }) ty K w := by
  subst hk
  have hml : (1000000000 : Nat) ≤ maxLen := by simp [maxLen]
  by_cases hl : l2 = []
  · subst hl
    rw [List.append_nil] at hK
    cases a with
    | some a =>
      obtain ⟨hu, i, z, hi, hz, hs', hby', hzs, hsz⟩ := tapp_spec ht
      have hr := run_append_own_at (P := P) w base t ty e i z m by_ hu hi hz hs' hby' hzs hsz v l.length _ h a 0 c [] (by simp) (by simp) (by simp) (by omega) (by
        have := Nat.mul_le_mul (show l.length + 0 ≤ 1000000000 by simp at hb; omega) hby; omega) hbase
      obtain ⟨v', w', hr, h2, h3, _, h4⟩ := hr
      rw [OpX_ok (v := v') (w' := w') fun ρ hg => by simp [execOp, mkOper, resolve, invoke, builtin, hg.1, hr]]
      exact hK _ _ (by unfold Ox; rw [List.append_nil] at h2; exact h2) (chg_of_grown h3) h4
    | none =>
      obtain ⟨hu, i, z, hi, hz, hs', hby', hzs, hsz⟩ := tapp_spec ht
      have hr : (Builtin.append_ #[t, t] ty #[v, .slice none 0 c]).run P w = .ok v w := by
        rcases h.2 with ⟨rfl, hn⟩ | ⟨g, cap, cur, rfl, hb', hg, hn, hm, hs'', htk⟩
        · have : l = [] := List.eq_nil_of_length_eq_zero hn
          subst this
          simp [Builtin.append_, run_underlying hu, Go.sizeOf, typeInfo, hi, Builtin.lenOf, Builtin.firstCells]
        · have hst : ∀ a : Addr, (storeCells a []).run P w = .ok () w := fun a => by simp [storeCells]
          simp [Builtin.append_, run_underlying hu, Go.sizeOf, typeInfo, hi, Builtin.lenOf, Builtin.firstCells, hn, hst]
      rw [OpX_ok (v := v) (w' := w) fun ρ hg => by simp [execOp, mkOper, resolve, invoke, builtin, hg.1, hr]]
      exact hK _ _ h (Chg.refl _ _) (.inl rfl)
  · obtain ⟨b, o, c', e2, fr, pre, post, h1, h2, h3, h4, h5⟩ := hs.at_ hl
    subst h1
    obtain ⟨hu, i, z, hi, hz, hs', hby', hzs, hsz⟩ := tapp_spec ht
    have hnews : ∀ j u, (l2.flatMap f)[j]? = some u → w.cell? ((⟨b, o, none⟩ : Addr).add j) = some u := by
      intro j u hj
      rw [add_mk, cell?_at, h2, h4, cellAt_cells]
      have hj' := (List.getElem?_eq_some_iff.1 hj).1
      rw [List.getElem?_toArray, List.append_assoc, List.getElem?_append_right (by omega), List.getElem?_append_left (by omega)]
      rw [← hj]; congr 1; omega
    obtain ⟨v', w', hr, h6, h7, _, h8⟩ := run_append_own_at (P := P) w base t ty e i z m by_ hu hi hz hs' hby' hzs hsz v l.length _ h ⟨b, o, none⟩ l2.length c (l2.flatMap f) (flat_len hf l2) hnews (fun u hu => List.all_eq_true.1 (okCells_flat hok l2) u hu) (by omega) (Nat.le_trans (Nat.mul_le_mul hb hby) (by omega)) hbase
    rw [OpX_ok (v := v') (w' := w') fun ρ hg => by simp [execOp, mkOper, resolve, invoke, builtin, hg.1, hr]]
    refine hK v' w' ?_ (chg_of_grown h7) h8
    unfold Ox
    rw [List.flatMap_append, List.length_append]
    exact h6
theorem Sx.built {w : World} {e : TypeId} {f : α → List Value} {l : List α} {c : List Value} {b : Nat} (h : w.heap[b]? = some (.cells c.toArray e)) (hc : c = l.flatMap f) : Sx w (some e) f (some ⟨b, 0, none⟩) l :=
  ⟨fun _ => ⟨b, 0, _, e, (0, 0), [], [], rfl, h, by simp [tagOk], by simp [hc], rfl⟩⟩
theorem Ox.built {w : World} {base : Nat} {e : TypeId} {m : Nat} {f : α → List Value} {l : List α} {c : List Value} {b n cap : Nat} (h : w.heap[b]? = some (.cells c.toArray e (0, 0))) (hf : ∀ x, (f x).length = m) (hb : base ≤ b) (hn : n = l.length) (hcap : cap = n) (hml : n ≤ 1000000000) (hc : c = l.flatMap f) : Ox base w e m f (.slice (some ⟨b, 0, none⟩) n cap) l := by
  subst hn; subst hcap; subst hc
  have h9 : (1000000000 : Nat) ≤ maxLen := by simp [maxLen]
  exact ⟨flat_len hf l, .inr ⟨b, l.length, _, rfl, hb, h, Nat.le_refl _, by omega, by simp [flat_len hf], List.take_of_length_le (by rw [flat_len hf]; exact Nat.le_refl _)⟩⟩
theorem take_next {β : Type} {l : List β} {k : Nat} (h : k < l.length) : l.take (k + 1) = l.take k ++ [l[k]] := by rw [List.take_add_one, List.getElem?_eq_getElem h]; rfl
theorem spl_mid (pre xs ys post : List Value) (o : Nat) (ho : pre.length = o) (hl : ys.length = xs.length) : spl (pre ++ xs ++ post).toArray o ys = (pre ++ ys ++ post).toArray := by
  subst ho
  unfold spl
  simp [hl]
theorem putAt_mid (pre xs ys post : List Value) (e : TypeId) (o : Nat) (ho : pre.length = o) (hl : ys.length = xs.length) : putAt (some (.cells (pre ++ xs ++ post).toArray e (0, 0))) o ys = some (.cells (pre ++ ys ++ post).toArray e) := by
  rw [putAt_cells, if_pos (by simp; omega), spl_mid pre xs ys post o ho hl]
theorem flat_set {f : α → List Value} {m : Nat} (hf : ∀ x, (f x).length = m) : ∀ (l : List α) (i : Nat) (x y : α), l[i]? = some x → ∃ pre post, l.flatMap f = pre ++ f x ++ post ∧ pre.length = i * m ∧ (l.set i y).flatMap f = pre ++ f y ++ post
  | [], i, x, y, h => by simp at h
  | z :: l, 0, x, y, h => by simp at h; subst h; exact ⟨[], l.flatMap f, by simp, by simp, by simp⟩
  | z :: l, i + 1, x, y, h => by
    obtain ⟨pre, post, h1, h2, h3⟩ := flat_set hf l i x y (by simpa using h)
    exact ⟨f z ++ pre, post, by simp [h1], by rw [List.length_append, hf, h2, Nat.add_mul]; omega, by simp [h3]⟩
theorem Ox.put {base : Nat} {w : World} {e : TypeId} {m : Nat} {f : α → List Value} {v : Value} {l : List α} (h : Ox base w e m f v l) (hf : ∀ x, (f x).length = m) {i : Nat} (hi : i < l.length) (y : α) :
    ∃ g cap x', v = .slice (some ⟨g, 0, none⟩) l.length cap ∧ base ≤ g ∧ g < w.heap.size ∧ putAt w.heap[g]? (i * m) (f y) = some x' ∧ Ox base (setBlk w g x') e m f v (l.set i y) := by
  obtain ⟨hl, h⟩ := h
  rcases h with ⟨rfl, h0⟩ | ⟨g, cap, cur, rfl, hb, hg, hn, hm, hs, ht⟩
  · omega
  · obtain ⟨pre, post, h1, h2, h3⟩ := flat_set hf l i l[i] y (by simp [hi])
    have hcur : cur = (pre ++ f l[i] ++ (post ++ cur.toList.drop (l.length * m))).toArray := by
      have e1 : cur.toList = l.flatMap f ++ cur.toList.drop (l.length * m) := by rw [← ht]; simp
      apply Array.ext'
      rw [h1] at e1
      simpa using e1
    have hp := putAt_mid pre (f l[i]) (f y) (post ++ cur.toList.drop (l.length * m)) e (i * m) h2 (by simp [hf])
    rw [← hcur] at hp
    refine ⟨g, cap, _, rfl, hb, lt_of_heap hg, (by rw [hg]; exact hp), ?_⟩
    refine ⟨by simp [flat_len hf], .inr ⟨g, cap, _, by simp, hb, heap_set_same _ _ _ _ rfl (lt_of_heap hg), by simpa using hn, hm, ?_, ?_⟩⟩
    · have := congrArg Array.size hcur
      simp [hf] at this
      simp [hf]
      omega
    · have hlen : (pre ++ f y ++ post).length = (l.set i y).length * m := by rw [← h3, flat_len hf]
      show (pre ++ f y ++ (post ++ cur.toList.drop (l.length * m))).take _ = _
      rw [h3, ← List.append_assoc, List.take_append_of_le_length (by omega), List.take_of_length_le (by omega)]
theorem zrow_flat {f : α → List Value} {z : α} {zs : List Value} (hz : f z = zs) (n : Nat) : zrow zs n = (List.replicate n z).flatMap f := by
  induction n with
  | zero => rfl
  | succ n ih => rw [zrow_succ, List.replicate_succ, List.flatMap_cons, hz, ih]
theorem make_x {t ty e : TypeId} {m by_ base : Nat} {zs : List Value} {f : α → List Value} (z : α) {n : Nat} {K : Value → World → Prop} {w : World} (ht : tmk P t = some (e, m, zs, by_)) (hf : ∀ x, (f x).length = m) (hz : f z = zs)
    (hn : n ≤ 100000) (hm : m ≤ 100) (hby : by_ ≤ 100000) (hbase : base ≤ w.heap.size)
    (hK : ∀ w', w' = w.alloc (.cells (zrow zs n).toArray e) → Ox base w' e m f (.slice (some ⟨w.heap.size, 0, none⟩) n n) (List.replicate n z) → K (.slice (some ⟨w.heap.size, 0, none⟩) n n) w') :
    OpX P (.makeSlice t (.const (.int .i64 n)) (.const (.int .i64 n))) ty K w := by
  have h1 : n * m ≤ 100000 * 100 := Nat.mul_le_mul hn hm
  have h2 : (by_ : Int) * (n : Int) ≤ 100000 * 100000 := by
    have := Nat.mul_le_mul hby hn
    rw [← Int.natCast_mul]; omega
  rw [make_ok ht (by omega) (Int.le_refl _) (by simpa using Nat.le_trans h1 (by omega)) (by omega) (by omega)]
  simp only [Int.toNat_natCast]
  refine hK _ rfl (Ox.built (c := zrow zs n) (heap_alloc_new _ _ _ rfl) hf hbase (by simp) rfl (by omega) (zrow_flat hz n))
theorem make_0 {t ty e : TypeId} {m by_ base : Nat} {zs : List Value} {f : α → List Value} {n : Int} {K : Value → World → Prop} {w : World} (ht : tmk P t = some (e, m, zs, by_)) (hzs : zs.length = m)
    (h0 : 0 ≤ n) (hn : n ≤ 100000) (hm : m ≤ 100) (hby : by_ ≤ 100000) (hbase : base ≤ w.heap.size)
    (hK : ∀ w', w' = w.alloc (.cells (zrow zs n.toNat).toArray e) → Ox base w' e m f (.slice (some ⟨w.heap.size, 0, none⟩) 0 n.toNat) [] → K (.slice (some ⟨w.heap.size, 0, none⟩) 0 n.toNat) w') :
    OpX P (.makeSlice t (.const (.int .i64 0)) (.const (.int .i64 n))) ty K w := by
  obtain ⟨k, rfl⟩ := Int.eq_ofNat_of_zero_le h0
  have h1 : k * m ≤ 100000 * 100 := Nat.mul_le_mul (by omega) hm
  have h2 : (by_ : Int) * (k : Int) ≤ 100000 * 100000 := by
    have := Nat.mul_le_mul hby (show k ≤ 100000 by omega)
    rw [← Int.natCast_mul]; omega
  have hml : (1000000000 : Nat) ≤ maxLen := by simp [maxLen]
  rw [make_ok ht (Int.le_refl _) (by omega) (by simpa using Nat.le_trans h1 (by omega)) (by omega) (by omega)]
  exact hK _ rfl (World.ownsRow_made w _ _ hbase (by simp; omega) (by simp [length_zrow, hzs]))
theorem copy_x {t t' ty e : TypeId} {m base : Nat} {f : α → List Value} {v : Value} {l l2 : List α} {a : Option Addr} {k c : Nat} {e' : Option TypeId} {K : Value → World → Prop} {w : World}
    (ht : tslice P t = some m) (hf : ∀ x, (f x).length = m) (hok : ∀ x, okCells (f x) = true) (h : Ox base w e m f v l) (hs : Sx w e' f a l2) (hk : k = l2.length) (hlen : l2.length = l.length)
    (hK : ∀ w', Ox base w' e m f v l2 → Chg v.ownBlock.toList w w' → K (.int .i64 l2.length) w') :
    OpX P (.call { callee := .builtin .copy, args := #[.const v, .const (.slice a k c)], argTypes := #[t, t'] }) ty K w := by
  subst hk
  obtain ⟨e0, hu, hsz⟩ := tslice_u ht
  by_cases hl : l2 = []
  · subst hl
    have hl0 : l = [] := List.eq_nil_of_length_eq_zero hlen.symm
    subst hl0
    obtain ⟨a', cap, rfl, _⟩ := h.form
    have hst : ∀ a : Addr, (storeCells a []).run P w = .ok () w := fun a => by simp [storeCells]
    have hr : ((execOp (fun | .const v => v | .global g => .pointer (some ⟨g, 0, none⟩) | .func f => .func (.func f) #[] #[] | .tmp _ => undef) (mkOper (.call { callee := .builtin .copy, args := #[.const (.slice a' 0 cap), .const (.slice a 0 c)], argTypes := #[t, t'] }) ty)).run P w) = .ok (.value (.int .i64 0)) w := by
      have hlc : ∀ a : Addr, (loadCells a 0).run P w = .ok #[] w := fun a => by simp [loadCells, loadCellsFrom]
      cases a <;> cases a' <;> simp [execOp, mkOper, resolve, invoke, builtin, Builtin.copy_, run_underlying hu, run_size hsz, Builtin.lenOf, goInt, Builtin.firstCells, hst, hlc]
    rw [OpX_ok (v := .int .i64 0) (w' := w) fun ρ hg => by
      have hlc : ∀ a : Addr, (loadCells a 0).run P w = .ok #[] w := fun a => by simp [loadCells, loadCellsFrom]
      cases a <;> cases a' <;> simp [execOp, mkOper, resolve, invoke, builtin, hg.1, Builtin.copy_, run_underlying hu, run_size hsz, Builtin.lenOf, goInt, Builtin.firstCells, hst, hlc]]
    exact hK w h (Chg.refl _ _)
  · obtain ⟨b, o, c', e2, fr, pre, post, h1, h2, h3, h4, h5⟩ := hs.at_ hl
    subst h1
    have h0 := h
    obtain ⟨hl1, h⟩ := h
    rcases h with ⟨rfl, h9⟩ | ⟨g, cap, cur, rfl, hb, hg, hn, hm, hsz', htk⟩
    · exact absurd (List.eq_nil_of_length_eq_zero (by omega)) hl
    · have hcur : cur.toList = l.flatMap f ++ cur.toList.drop (l.length * m) := by rw [← htk]; simp
      have hp := putAt_mid [] (l.flatMap f) (l2.flatMap f) (cur.toList.drop (l.length * m)) e 0 rfl (by rw [flat_len hf, flat_len hf, hlen])
      rw [List.nil_append, ← hcur] at hp
      have hmin : min l2.length l.length = l2.length := by omega
      rw [copy_ok (cs := l2.flatMap f) (x' := _) ht (by rw [flat_len hf, hmin]) ?_ (okCells_flat hok l2) (by rw [hg]; exact hp)]
      · rw [hmin]
        refine hK _ ⟨flat_len hf l2, .inr ⟨g, cap, _, by rw [hlen], hb, heap_set_same _ _ _ _ rfl (lt_of_heap hg), by omega, hm, ?_, ?_⟩⟩ ((Chg.refl _ _).set _ _ (by simp [Value.ownBlock]))
        · have := congrArg List.length hcur
          simp [flat_len hf] at this
          simp [flat_len hf, hlen]
          omega
        · simp [flat_len hf]
      · intro j u hj
        rw [h2, h4, cellAt_cells]
        have hj' := (List.getElem?_eq_some_iff.1 hj).1
        rw [List.getElem?_toArray, List.append_assoc, List.getElem?_append_right (by omega), List.getElem?_append_left (by omega)]
        rw [← hj]; congr 1; omega
end
end Lyc
namespace Lyc
open Go Go.ChangeShapes Go.WideShapes Go.ChangeAt Go.RowKit Go.Deep
def intF (n : Int) : List Value := [.int .i64 n]
theorem intF_len (n : Int) : (intF n).length = 1 := rfl
theorem intF_ok (n : Int) : okCells (intF n) = true := rfl
section
variable {α : Type}
theorem Sx.of_sla {w : World} {a : Option Addr} {len cap m : Nat} {f : α → List Value} {g : Nat → α} (hf : ∀ x, (f x).length = m) (hm : 0 < m) (h : SlA w (.slice a len cap) len m fun i => f (g i)) : Sx w none f a ((List.range len).map g) := by
  obtain ⟨a', cap', hv, h⟩ := h
  rw [Value.slice.injEq] at hv
  obtain ⟨rfl, -, -⟩ := hv
  refine ⟨fun hl => ?_⟩
  have hlen : 0 < len := by
    cases len with
    | zero => simp at hl
    | succ n => omega
  obtain ⟨b, o, ha, hb, h0⟩ := h 0 hlen
  subst ha
  cases hc : w.heap[b]? with
  | none => rw [hc] at h0; simp [aggAt] at h0
  | some x =>
    cases x with
    | cells c e fr =>
      have key : ∀ n, n ≤ len → (c.toList.drop o).take (n * m) = ((List.range n).map g).flatMap f ∧ (n = 0 ∨ o + n * m ≤ c.size) := by
        intro n
        induction n with
        | zero => intro _; simp
        | succ n ih =>
          intro hn
          obtain ⟨ih, -⟩ := ih (by omega)
          obtain ⟨b', o', ha', -, h1⟩ := h n (by omega)
          cases ha'
          rw [hc, aggAt_cells] at h1
          split at h1
          · rename_i hle
            have e1 : (c.toList.drop (o + n * m)).take m = f (g n) := by
              have h2 := Option.some.inj h1
              have h3 := congrArg Array.toList h2
              simp at h3
              exact h3
            refine ⟨?_, .inr (by rw [Nat.add_mul]; omega)⟩
            rw [Nat.add_mul, Nat.one_mul, List.take_add, ih, List.drop_drop, e1, List.range_succ]
            simp
          · simp at h1
      obtain ⟨k1, k2⟩ := key len (Nat.le_refl _)
      have k2 : o + len * m ≤ c.size := by rcases k2 with h | h <;> omega
      refine ⟨b, o, c, e, fr, c.toList.take o, c.toList.drop (o + len * m), rfl, hc, rfl, ?_, by simp; omega⟩
      apply Array.ext'
      rw [← k1]
      simp only [List.append_assoc]
      rw [← List.drop_drop, List.take_append_drop, List.take_append_drop]
    | _ => rw [hc] at h0; simp [aggAt] at h0
end
section
variable {H : Type} {enc : TypeId × Value → H} {P : Program} {w : World} {base : Nat} {held : Bool}
theorem sx_ints_at {a : Addr} {len : Nat} {zs : List Int} (cap : Nat) (hz : len ≤ zs.length) (h : ∀ i, i < zs.length → w.cell? (a.add i) = some (.int .i64 (zs.getD i 0))) : Sx w none intF (some a) (zs.take len) := by
  obtain ⟨g, hg⟩ := sla_of (w := w) (a := a) (len := len) (cap := cap) (m := 1) intF (by omega) (fun _ => rfl) (fun i hi => ⟨zs.getD i 0, fun j hj => by
    have : j = 0 := by omega
    subst this
    have := h i (by omega)
    simpa [intF] using this⟩)
  have h1 := Sx.of_sla (f := intF) intF_len (by omega) hg
  have e : (List.range len).map g = zs.take len := by
    apply List.ext_getElem?
    intro i
    rw [List.getElem?_map, List.getElem?_take]
    by_cases hi : i < len
    · rw [List.getElem?_range hi, if_pos hi, List.getElem?_eq_getElem (by omega)]
      obtain ⟨a', cap', hv, hg⟩ := hg
      rw [Value.slice.injEq] at hv
      obtain ⟨rfl, -, -⟩ := hv
      obtain ⟨b, o, ha, -, hag⟩ := hg i hi
      cases ha
      have h2 := h i (by omega)
      rw [add_mk, cell?_at] at h2
      have h3 := aggAt_cell hag 0 (by omega)
      simp only [Nat.mul_one, Nat.add_zero] at h3
      rw [h2] at h3
      simp [intF] at h3
      simp only [Option.map_some, Option.some.injEq]
      rw [← h3]
      simp [show i < zs.length by omega]
    · rw [List.getElem?_eq_none (by simp; omega), if_neg hi]
      rfl
  rw [e] at h1
  exact h1
theorem open_intl {spare : Nat → Bool} {b0 : Nat} {t e : TypeId} {v : Value} {d : DataW H} {p : List MemPlace} (ht : P.underlying t = some (.slice e)) (he : P.underlying e = some (.int .i64)) (hc : P.cellsOf e = 1) (hv : Value.okWide P w .any b0 t v) (h : DataW.Trod enc P w base spare held t v d p) :
    ∃ (a : Option Addr) (l : List Int) (cap : Nat), v = .slice a l.length cap ∧ Sx w none intF a l ∧ l.length ≤ maxLen := by
  obtain ⟨fuel, h⟩ := h
  obtain ⟨a, len, cap, rfl⟩ := okWide_slice ht hv
  rcases open_ints ht he hc h with ⟨h0, -⟩ | ⟨a', len', cap', zs, hcs, -, hl, hm, hz, -, hcell, -⟩
  · simp [Value.cells] at h0
    obtain ⟨rfl, rfl, rfl⟩ := h0
    exact ⟨none, [], 0, rfl, Sx.nil _ _ _ _, by simp⟩
  · simp [Value.cells] at hcs
    obtain ⟨rfl, rfl, rfl⟩ := hcs
    have hzl : len ≤ zs.length := by rw [hz]; split <;> omega
    refine ⟨some a', zs.take len, cap, by simp [Nat.min_eq_left hzl], sx_ints_at cap hzl hcell, by simp; omega⟩
theorem open_intcell {spare : Nat → Bool} {fuel : Nat} {t e : TypeId} {v : Value} {y : DataW H × List MemPlace} (ht : P.underlying t = some (.slice e)) (he : P.underlying e = some (.int .i64)) (hc : P.cellsOf e = 1) (h : DataW.trod enc P w base spare held fuel t [v] = some y) :
    ∃ (a : Option Addr) (l : List Int) (cap : Nat), v = .slice a l.length cap ∧ Sx w none intF a l ∧ l.length ≤ maxLen := by
  rcases open_ints ht he hc h with ⟨h0, -⟩ | ⟨a', len', cap', zs, hcs, -, hl, hm, hz, -, hcell, -⟩
  · simp at h0
    subst h0
    exact ⟨none, [], 0, rfl, Sx.nil _ _ _ _, by simp⟩
  · simp at hcs
    subst hcs
    have hzl : len' ≤ zs.length := by rw [hz]; split <;> omega
    refine ⟨some a', zs.take len', cap', by simp [Nat.min_eq_left hzl], sx_ints_at cap' hzl hcell, by simp; omega⟩
theorem open_intarr {spare : Nat → Bool} {b0 n : Nat} {t e : TypeId} {v : Value} {d : DataW H} {p : List MemPlace} (ht : P.underlying t = some (.array n e)) (he : P.underlying e = some (.int .i64)) (hc : P.cellsOf e = 1) (hn : P.cellsOf t = n) (hv : Value.okWide P w .any b0 t v) (h : DataW.Trod enc P w base spare held t v d p) :
    ∃ l : List Int, v = .agg (l.map (Value.int .i64)).toArray ∧ l.length = n := by
  obtain ⟨fuel, h⟩ := h
  simp only [Value.okWide, ht] at hv
  obtain ⟨cs, rfl, hsz, -⟩ := hv
  obtain ⟨l0⟩ := cs
  rw [hn] at hsz
  have hsz' : l0.length = n := hsz
  obtain ⟨xs, m, -, -, -, hxl, hf⟩ := DataW.trod_array ht h
  have hall : ∀ i, i < n → ∃ k : Int, l0[i]? = some (.int .i64 k) := by
    intro i hi
    have h1 := hf i hi
    rw [hc, List.getElem?_eq_getElem (by omega)] at h1
    obtain ⟨k, hk, -⟩ := DataW.trod_int he h1
    have hk' : (l0.drop (i * 1)).take 1 = [Value.int .i64 k] := hk
    refine ⟨k, ?_⟩
    rw [Nat.mul_one, List.drop_eq_getElem_cons (show i < l0.length by omega), List.take_succ_cons, List.take_zero, List.cons.injEq] at hk'
    rw [List.getElem?_eq_getElem (by omega), hk'.1]
  have : ∀ (l : List Value), (∀ i, i < l.length → ∃ k : Int, l[i]? = some (.int .i64 k)) → ∃ z : List Int, l = z.map (Value.int .i64) := by
    intro l
    induction l with
    | nil => intro _; exact ⟨[], rfl⟩
    | cons v l ih =>
      intro h
      obtain ⟨k, hk⟩ := h 0 (by simp)
      obtain ⟨z, hz⟩ := ih (fun i hi => by have := h (i + 1) (by simp; omega); simpa using this)
      simp at hk
      exact ⟨k :: z, by simp [hk, hz]⟩
  obtain ⟨z, hz⟩ := this l0 (by rw [hsz']; exact hall)
  exact ⟨z, by rw [hz], by rw [← hsz', hz]; simp⟩
structure IRow where
  a : Option Addr
  cap : Nat
  zs : List Int
def IRow.f (r : IRow) : List Value := [.slice r.a r.zs.length r.cap]
theorem open_introws {b0 : Nat} {t e q : TypeId} {v : Value} {d : DataW H} {p : List MemPlace} (ht : P.underlying t = some (.slice e)) (he : P.underlying e = some (.slice q)) (hq : P.underlying q = some (.int .i64)) (ce : P.cellsOf e = 1) (cq : P.cellsOf q = 1) (hv : Value.okWide P w .any b0 t v) (h : DataW.Trod enc P w base (fun _ => true) held t v d p) :
    ∃ (a : Option Addr) (l : List IRow) (cap : Nat), v = .slice a l.length cap ∧ Sx w none IRow.f a l ∧ l.length ≤ maxLen ∧ ∀ r ∈ l, Sx w none intF r.a r.zs ∧ r.zs.length ≤ maxLen := by
  obtain ⟨fuel, h⟩ := h
  obtain ⟨a, len, cap, rfl⟩ := okWide_slice ht hv
  rcases open_int_rows ht he hq ce cq h with ⟨h0, -⟩ | ⟨a', len', cap', A, L, C, Z, hcs, -, hl, hm, -, hr⟩
  · simp [Value.cells] at h0
    obtain ⟨rfl, rfl, rfl⟩ := h0
    exact ⟨none, [], 0, rfl, Sx.nil _ _ _ _, by simp, by simp⟩
  · simp [Value.cells] at hcs
    obtain ⟨rfl, rfl, rfl⟩ := hcs
    let mk : Nat → IRow := fun r => ⟨A r, C r, (Z r).take (L r)⟩
    have hmk : ∀ r, r < cap → (mk r).f = [.slice (A r) (L r) (C r)] := by
      intro r hrc
      obtain ⟨-, h2, -, h4, -⟩ := hr r hrc
      simp only [mk, IRow.f, List.length_take]
      rw [Nat.min_eq_left (by omega)]
    obtain ⟨g, hg⟩ := sla_of (w := w) (a := a') (len := len) (cap := cap) (m := 1) (fun v : Value => [v]) (by omega) (fun _ => rfl) (fun i hi => ⟨.slice (A i) (L i) (C i), fun j hj => by
      have : j = 0 := by omega
      subst this
      simpa using (hr i (by omega)).1⟩)
    have hg' : SlA w (.slice (some a') len cap) len 1 fun i => (mk i).f := by
      obtain ⟨a2, cap2, hv2, hg⟩ := hg
      refine ⟨a2, cap2, hv2, fun i hi => ?_⟩
      obtain ⟨b, o, ha, hb, hag⟩ := hg i hi
      refine ⟨b, o, ha, hb, ?_⟩
      rw [hag]
      show some [g i].toArray = some (mk i).f.toArray
      rw [hmk i (by omega)]
      rw [Value.slice.injEq] at hv2
      obtain ⟨rfl, -, -⟩ := hv2
      cases ha
      have h2 := (hr i (by omega)).1
      rw [add_mk, cell?_at] at h2
      have h3 := aggAt_cell hag 0 (by omega)
      simp only [Nat.mul_one, Nat.add_zero] at h3
      rw [h2] at h3
      simp at h3
      rw [← h3]
    refine ⟨some a', (List.range len).map mk, cap, by simp, Sx.of_sla (m := 1) (fun _ => rfl) (by omega) hg', by rw [List.length_map, List.length_range]; exact Nat.le_trans hl hm, ?_⟩
    intro r hrm
    obtain ⟨i, hi, rfl⟩ := List.mem_map.1 hrm
    have hi := List.mem_range.1 hi
    obtain ⟨-, h2, h3, h4, -, h6, h7⟩ := hr i (by omega)
    refine ⟨?_, by simp only [mk, List.length_take]; omega⟩
    show Sx w none intF (A i) ((Z i).take (L i))
    cases hA : A i with
    | none =>
      have := h6 hA
      have hL : L i = 0 := by omega
      rw [hL, List.take_zero]
      exact Sx.nil _ _ _ _
    | some ad =>
      exact sx_ints_at (C i) (by omega) fun j hj => (h7 ad hA).2 j (by omega)
end
end Lyc
namespace Lyc
open Go Go.ChangeShapes Go.WideShapes Go.ChangeAt Go.RowKit Go.Deep
section
variable {H : Type} {enc : TypeId × Value → H} {P : Program} {w : World} {base : Nat} {spare : Nat → Bool} {held : Bool}
theorem open_things_at {α : Type} {t e : TypeId} {m fuel : Nat} {cs : List Value} {x : DataW H × List MemPlace} (f : α → List Value) (ok : α → Prop) (ht : P.underlying t = some (.slice e)) (hC : P.cellsOf e = m) (hm : 0 < m) (hf : ∀ x, (f x).length = m)
    (each : ∀ (n : Nat) (cs : List Value) (y : DataW H × List MemPlace), DataW.trod enc P w base spare held n e cs = some y → ∃ x, cs = f x ∧ ok x)
    (h : DataW.trod enc P w base spare held fuel t cs = some x) :
    ∃ (a : Option Addr) (l : List α) (cap : Nat), cs = [.slice a l.length cap] ∧ Sx w none f a l ∧ l.length ≤ cap ∧ l.length ≤ maxLen ∧ ∀ x ∈ l, ok x := by
  rcases open_slice ht h with h0 | ⟨a, len, cap, k, n, D, Pl, hcs, hb, hl, hcap, hk, hx, hi⟩
  · exact ⟨none, [], 0, h0.1, Sx.nil _ _ _ _, by simp, by simp, by simp⟩
  · have hlk : len ≤ k := by rw [hk]; split <;> omega
    have each' : ∀ i, i < len → ∃ x, ok x ∧ ∀ j, j < m → w.cell? (a.add (i * m + j)) = (f x)[j]? := by
      intro i hil
      obtain ⟨cs', hc, ht'⟩ := hi i (by omega)
      obtain ⟨x, rfl, hx⟩ := each _ _ _ ht'
      obtain ⟨_, hcl, hat⟩ := World.cells?_some hc
      rw [hC] at hat
      refine ⟨x, hx, fun j hj => ?_⟩
      rw [← Go.Deep.add_add]
      exact hat j hj
    cases len with
    | zero => exact ⟨some a, [], cap, hcs, Sx.nil _ _ _ _, by simp, by simp, by simp⟩
    | succ len =>
      obtain ⟨x0, hx0, -⟩ := each' 0 (by omega)
      let β := { x : α // ok x }
      letI : Inhabited β := ⟨⟨x0, hx0⟩⟩
      obtain ⟨g, hg⟩ := sla_of (w := w) (a := a) (len := len + 1) (cap := cap) (fun x : β => f x.1) hm (fun x => hf x.1) (fun i hi => let ⟨x, hx, hc⟩ := each' i hi; ⟨⟨x, hx⟩, hc⟩)
      have hs := Sx.of_sla (f := fun x : β => f x.1) (fun x => hf x.1) hm hg
      refine ⟨some a, ((List.range (len + 1)).map g).map Subtype.val, cap, by simpa using hcs, ⟨fun hl => ?_⟩, by simp; omega, by simp; omega, ?_⟩
      · obtain ⟨b, o, c, e', fr, pre, post, h1, h2, h3, h4, h5⟩ := hs.at_ (by simp [List.range_succ])
        exact ⟨b, o, c, e', fr, pre, post, h1, h2, h3, by rw [h4]; simp only [List.flatMap_map], h5⟩
      · intro x hx
        obtain ⟨y, -, rfl⟩ := List.mem_map.1 hx
        exact y.2
theorem open_things {α : Type} {b0 : Nat} {t e : TypeId} {v : Value} {d : DataW H} {p : List MemPlace} {m : Nat} (f : α → List Value) (ok : α → Prop) (ht : P.underlying t = some (.slice e)) (hC : P.cellsOf e = m) (hm : 0 < m) (hf : ∀ x, (f x).length = m)
    (each : ∀ (n : Nat) (cs : List Value) (y : DataW H × List MemPlace), DataW.trod enc P w base spare held n e cs = some y → ∃ x, cs = f x ∧ ok x)
    (hv : Value.okWide P w .any b0 t v) (h : DataW.Trod enc P w base spare held t v d p) :
    ∃ (a : Option Addr) (l : List α) (cap : Nat), v = .slice a l.length cap ∧ Sx w none f a l ∧ l.length ≤ cap ∧ l.length ≤ maxLen ∧ ∀ x ∈ l, ok x := by
  obtain ⟨fuel, h⟩ := h
  obtain ⟨a0, len0, cap0, rfl⟩ := okWide_slice ht hv
  obtain ⟨a, l, cap, h1, h2⟩ := open_things_at f ok ht hC hm hf each h
  simp only [Value.cells, List.cons.injEq, Value.slice.injEq, and_true] at h1
  obtain ⟨rfl, rfl, rfl⟩ := h1
  exact ⟨_, l, _, rfl, h2⟩
theorem trod_int_in {k : IntKind} {t : TypeId} {fuel : Nat} {cs : List Value} {x : DataW H × List MemPlace} (ht : P.underlying t = some (.int k)) (h : DataW.trod enc P w base spare held fuel t cs = some x) : ∃ n, cs = [.int k n] ∧ k.min ≤ n ∧ n ≤ k.max := by
  obtain ⟨n, h1, -, h3⟩ := DataW.trod_int ht h
  simp only [Lit.wf, Bool.and_eq_true, decide_eq_true_eq] at h3
  exact ⟨n, h1, h3⟩
theorem field_of {t : TypeId} {fuel : Nat} {cs : List Value} {x : DataW H × List MemPlace} {fs : Array Field} (ht : P.underlying t = some (.struct fs)) (h : DataW.trod enc P w base spare held fuel t cs = some x) (i : Nat) (f : Field) (hi : fs[i]? = some f) {ft off sz : Nat} (e1 : f.type = ft) (e2 : f.offset = off) (e3 : P.cellsOf ft = sz) :
    ∃ n y, DataW.trod enc P w base spare held n ft ((cs.drop off).take sz) = some y := by
  obtain ⟨ys, n, -, -, -, hl, hf⟩ := DataW.trod_struct ht h
  have := hf i f hi
  have hlt := (Array.getElem?_eq_some_iff.1 hi).1
  rw [List.getElem?_eq_getElem (by omega)] at this
  subst e1; subst e2; subst e3
  exact ⟨n, _, this⟩
theorem drop_step {l p : List Value} {o k : Nat} (h : (l.drop o).take k = p) : l.drop o = p ++ l.drop (o + k) := by
  rw [← h, ← List.drop_drop, List.take_append_drop]
theorem trod_arr {α : Type} {t e : TypeId} {n fuel : Nat} {cs : List Value} {x : DataW H × List MemPlace} (f : α → Value) (ok : α → Prop) (ht : P.underlying t = some (.array n e)) (hC : P.cellsOf e = 1) (hn : P.cellsOf t = n)
    (each : ∀ (n : Nat) (cs : List Value) (y : DataW H × List MemPlace), DataW.trod enc P w base spare held n e cs = some y → ∃ x, cs = [f x] ∧ ok x)
    (h : DataW.trod enc P w base spare held fuel t cs = some x) : ∃ l : List α, cs = l.map f ∧ l.length = n ∧ ∀ x ∈ l, ok x := by
  obtain ⟨xs, m, -, -, hl, hxl, hf⟩ := DataW.trod_array ht h
  rw [hn] at hl
  have hall : ∀ i, i < cs.length → ∃ x, cs[i]? = some (f x) ∧ ok x := by
    intro i hi
    have h1 := hf i (by omega)
    rw [hC, List.getElem?_eq_getElem (by omega)] at h1
    obtain ⟨x, hx, ho⟩ := each _ _ _ h1
    rw [Nat.mul_one, List.drop_eq_getElem_cons hi, List.take_succ_cons, List.take_zero, List.cons.injEq] at hx
    exact ⟨x, by rw [List.getElem?_eq_getElem hi, hx.1], ho⟩
  have key : ∀ cs : List Value, (∀ i, i < cs.length → ∃ x, cs[i]? = some (f x) ∧ ok x) → ∃ l : List α, cs = l.map f ∧ ∀ x ∈ l, ok x := by
    intro cs
    induction cs with
    | nil => intro _; exact ⟨[], rfl, by simp⟩
    | cons v cs ih =>
      intro h
      obtain ⟨x, hx, ho⟩ := h 0 (by simp)
      obtain ⟨l, hl, hlo⟩ := ih (fun i hi => by simpa using h (i + 1) (by simp; omega))
      simp at hx
      refine ⟨x :: l, by simp [hx, hl], ?_⟩
      intro y hy
      rcases List.mem_cons.1 hy with rfl | hy
      · exact ho
      · exact hlo y hy
  obtain ⟨l, h1, h2⟩ := key cs hall
  exact ⟨l, h1, by rw [← hl, h1, List.length_map], h2⟩
end
end Lyc
namespace Lyc
open Go
def DrewW (M : World → Prop) (w : WK M) : Prop := M w.drew
@[go_sem] theorem DrewW_go (M : World → Prop) (w : World) : DrewW M w = M w.drew := rfl
theorem calls_of_def {P : Program} {f : FuncId} {fn : Func} {K : Value → World → Prop} {w : World} (args : List Value) (hs : Hints) (hm : P.follows .mixedOrders = true) (hf : P.funcs[f]? = some fn)
    (hb : fn.body.isSome = true) (hN : (wfc fn.ntmps (fn.body.getD .skip) && Nat.ble fn.ntmps DK) = true) (ha : Nat.ble args.length fn.ntmps = true) {X : Prop} (hX : X = tr P true hs (fn.body.getD .skip) 0 (retQ P fn.results.toList K) (enterD args) w) (h : X) :
    Calls P f args.toArray w (retK K) := by
  cases hc : fn.body with
  | none => rw [hc] at hb; simp at hb
  | some c =>
    have e : fn.body.getD .skip = c := by rw [hc]; rfl
    rw [e] at hN hX
    simp only [Bool.and_eq_true] at hN
    exact calls_of_tr hm hf hc hN.1 (Nat.le_of_ble_eq_true hN.2) (Nat.le_of_ble_eq_true ha) (hX ▸ h)
end Lyc
namespace Go.Proofs.Ytjfembffjjijaaa
open Lyc Go
theorem mixed : Try.prog.follows .mixedOrders = true := by kernel_rfl
@[go_sem] def xL (t : TypeId) (a : Value) (k : Value → World → Prop) (w : WK k) : Prop := OpX Try.prog (.load t (.const a)) t k w
@[go_sem] def xS (t : TypeId) (a b : Value) (r : World → Prop) (w : WK r) : Prop := OpX Try.prog (.store t (.const a) (.const b)) 0 (fun _ => r) w
@[go_sem] def xF (t : TypeId) (a : Value) (i : Nat) (k : Value → World → Prop) (w : WK k) : Prop := OpX Try.prog (.fieldAddr t (.const a) i) 0 k w
@[go_sem] def xI (t : TypeId) (a b : Value) (k : Value → World → Prop) (w : WK k) : Prop := OpX Try.prog (.indexAddr t (.const a) (.const b)) 0 k w
@[go_sem] def xB (t : TypeId) (a : Value) (k : Value → World → Prop) (w : WK k) : Prop := OpX Try.prog (.box t (.const a)) 0 k w
@[go_sem] def xA (t : TypeId) (k : Value → World → Prop) (w : WK k) : Prop := OpX Try.prog (.alloc t) 0 k w
@[go_sem] def xE (a : Value) (i : Nat) (t : TypeId) (k : Value → World → Prop) (w : WK k) : Prop := OpX Try.prog (.extract (.const a) i) t k w
@[go_sem] def xN (t : TypeId) (a : Value) (k : Value → World → Prop) (w : WK k) : Prop := OpX Try.prog (.unOp .not t (.const a)) t k w
@[go_sem] def xC (f : FuncId) (l : List Operand) (ts : List TypeId) (t : TypeId) (k : Value → World → Prop) (w : WK k) : Prop := OpX Try.prog (.call { callee := .value (.func f), args := l.toArray, argTypes := ts.toArray }) t k w
@[go_sem] def xU (a : Value) (t : TypeId) (k : Value → World → Prop) (w : WK k) : Prop := OpX Try.prog (.call { callee := .builtin .len, args := #[.const a], argTypes := #[t] }) 3 k w
@[go_sem] def xO (op : BinOp) (t : TypeId) (a b : Value) (k : Value → World → Prop) (w : WK k) : Prop := BinX Try.prog op t a b k w
@[go_sem] def xW (v : Value) (A B : World → Prop) (w : WK2 A B) : Prop := BrW v (A w) (B w) ()
@[go_sem] def xX (_ : World) : Prop := False
@[go_sem] def qP (op : BinOp) (t : TypeId) (a b : Value) (k : Value → World → Prop) (w : WK k) : Prop := PurB Try.prog op t a b (fun v => k v w) ()
@[go_sem] def qR (op : BinOp) (t : TypeId) (a b : Value) (k : Value → World → Prop) (w : WK k) : Prop := RdB Try.prog op t a b (fun v => k v w) w
@[go_sem] def qY (op : BinOp) (t : TypeId) (a b v : Value) (w : World) : Prop := YldB Try.prog op t a b v w
@[go_sem] def qL (t : TypeId) (a : Value) (k : Value → World → Prop) (w : WK k) : Prop := RdX Try.prog (.load t (.const a)) t (fun v => k v w) w
@[go_sem] def qZ (t : TypeId) (a v : Value) (w : World) : Prop := Yld Try.prog (.load t (.const a)) t v w
@[go_sem] def qF (t : TypeId) (a : Value) (i : Nat) (k : Value → World → Prop) (w : WK k) : Prop := PurX Try.prog (.fieldAddr t (.const a) i) 0 (fun v => k v w) ()
@[go_sem] def xP (op : Op) (t : TypeId) (k : Value → World → Prop) (w : WK k) : Prop := PurX Try.prog op t (fun v => k v w) ()
@[go_sem] def xR (op : Op) (t : TypeId) (k : Value → World → Prop) (w : WK k) : Prop := RdX Try.prog op t (fun v => k v w) w
@[go_sem] def xY (op : Op) (t : TypeId) (v : Value) (w : World) : Prop := Yld Try.prog op t v w
@[go_sem] def xT (A B : World → Prop) (w : WK2 A B) : Prop := A w ∧ B w
@[go_sem] def xD (t : TypeId) (a : Value) (k : Value → World → Prop) (w : WK k) : Prop := LdR Try.prog t a k w
abbrev Lk (n : FuncId) (args : Array Value) (f : (Value → World → Prop) → World → Prop) : Prop :=
  ∀ {R : Value → World → Prop} {w : World}, (∀ K : Value → World → Prop, (∀ v w', R v w' → K v w') → f K w) → Calls Try.prog n args w (retK R)
theorem lk {n : FuncId} {fn : Func} {f : (Value → World → Prop) → World → Prop} (args : List Value) (hs : Hints) (hf : Try.prog.funcs[n]? = some fn)
    (hb : (fn.body.isSome && (wfc fn.ntmps (fn.body.getD .skip) && Nat.ble fn.ntmps DK) && Nat.ble args.length fn.ntmps) = true)
    (hX : ∀ (K : Value → World → Prop) (w : World), f K w = tr Try.prog true hs (fn.body.getD .skip) 0 (retQ Try.prog fn.results.toList K) (enterD args) w) : Lk n args.toArray f := by
  intro R w h
  rw [Bool.and_eq_true, Bool.and_eq_true] at hb
  exact calls_of_def args hs mixed hf hb.1.1 hb.1.2 hb.2 (hX R w) (h R fun _ _ h => h)
theorem bd {n : FuncId} {fn : Func} (hf : Try.prog.funcs[n]? = some fn) (hb : (fn.body.isNone || fn.name == "runtime.NumGoroutine") = false) : Bodied Try.prog n := by
  rw [Bool.or_eq_false_iff] at hb
  exact ⟨fn, hf, hb.1, hb.2⟩
end Go.Proofs.Ytjfembffjjijaaa
namespace Lyc
open Go
section
variable {P : Program}
def tflatF (P : Program) : List Field → Option (List (Nat × Nat))
  | [] => some []
  | f :: fs => if f.name = "_" then none else (tkind P f.type).bind fun k => (tagg P f.type).bind fun b => bif b then none else if k = 8 ∨ k = 9 ∨ k = 3 then (tflatF P fs).map ((f.offset, k) :: ·) else none
def tflat (P : Program) (t : TypeId) : Option (List (Nat × Nat)) :=
  (P.underlying t).bind fun | .struct fs => if P.stoodInHeld t || P.eqGuardType P.depth t then none else tflatF P fs.toList | _ => none
end
end Lyc
namespace Go.Proofs.Ytjfembffjjijaaa
open Lyc Go
set_option maxRecDepth 100000
@[go_sem] theorem ty0z : tzero Try.prog 0 = some (.tuple #[]) := by kernel_rfl
@[go_sem] theorem ty0 : tkind Try.prog 0 = some 0 ∧ tsize Try.prog 0 = some 1 ∧ tbytes Try.prog 0 = some 0 ∧ tagg Try.prog 0 = some false := by and_intros <;> kernel_rfl
@[go_sem] theorem ty1z : tzero Try.prog 1 = some (.nilFunc) := by kernel_rfl
@[go_sem] theorem ty1 : tkind Try.prog 1 = some 11 ∧ tsize Try.prog 1 = some 1 ∧ tbytes Try.prog 1 = some 8 ∧ tagg Try.prog 1 = some false := by and_intros <;> kernel_rfl
@[go_sem] theorem ty2z : tzero Try.prog 2 = some (.int .i64 0) := by kernel_rfl
@[go_sem] theorem ty2 : tkind Try.prog 2 = some 8 ∧ tsize Try.prog 2 = some 1 ∧ tbytes Try.prog 2 = some 8 ∧ tagg Try.prog 2 = some false ∧ tint Try.prog 2 = some .i64 := by and_intros <;> kernel_rfl
@[go_sem] theorem ty3z : tzero Try.prog 3 = some (.int .i64 0) := by kernel_rfl
@[go_sem] theorem ty3 : tkind Try.prog 3 = some 8 ∧ tsize Try.prog 3 = some 1 ∧ tbytes Try.prog 3 = some 8 ∧ tagg Try.prog 3 = some false ∧ tint Try.prog 3 = some .i64 := by and_intros <;> kernel_rfl
@[go_sem] theorem ty4z : tzero Try.prog 4 = some (.bool false) := by kernel_rfl
@[go_sem] theorem ty4 : tkind Try.prog 4 = some 9 ∧ tsize Try.prog 4 = some 1 ∧ tbytes Try.prog 4 = some 1 ∧ tagg Try.prog 4 = some false := by and_intros <;> kernel_rfl
@[go_sem] theorem ty5z : tzero Try.prog 5 = some (.int .u8 0) := by kernel_rfl
@[go_sem] theorem ty5 : tkind Try.prog 5 = some 8 ∧ tsize Try.prog 5 = some 1 ∧ tbytes Try.prog 5 = some 1 ∧ tagg Try.prog 5 = some false ∧ tint Try.prog 5 = some .u8 := by and_intros <;> kernel_rfl
@[go_sem] theorem ty6z : tzero Try.prog 6 = some (.int .u8 0) := by kernel_rfl
@[go_sem] theorem ty6 : tkind Try.prog 6 = some 8 ∧ tsize Try.prog 6 = some 1 ∧ tbytes Try.prog 6 = some 1 ∧ tagg Try.prog 6 = some false ∧ tint Try.prog 6 = some .u8 := by and_intros <;> kernel_rfl
@[go_sem] theorem ty7z : tzero Try.prog 7 = some (.agg #[.int .i64 0, .int .i64 0, .bool false, .int .u8 0]) := by kernel_rfl
@[go_sem] theorem ty7 : tkind Try.prog 7 = some 7 ∧ tsize Try.prog 7 = some 4 ∧ tbytes Try.prog 7 = some 24 ∧ tagg Try.prog 7 = some true ∧ tsizeA Try.prog 7 = some 4 ∧ tfield Try.prog 7 0 = some (0, 1) ∧ tfo Try.prog 7 0 = some 0 ∧ tfield Try.prog 7 1 = some (1, 1) ∧ tfo Try.prog 7 1 = some 1 ∧ tfield Try.prog 7 2 = some (2, 1) ∧ tfo Try.prog 7 2 = some 2 ∧ tfield Try.prog 7 3 = some (3, 1) ∧ tfo Try.prog 7 3 = some 3 ∧ tfields Try.prog 7 = some [(0, 1), (1, 1), (2, 1), (3, 1)] := by and_intros <;> kernel_rfl
@[go_sem] theorem ty8z : tzero Try.prog 8 = some (.agg #[.int .i64 0, .int .i64 0, .bool false, .int .u8 0]) := by kernel_rfl
@[go_sem] theorem ty8 : tkind Try.prog 8 = some 7 ∧ tsize Try.prog 8 = some 4 ∧ tbytes Try.prog 8 = some 24 ∧ tagg Try.prog 8 = some true ∧ tsizeA Try.prog 8 = some 4 ∧ tfield Try.prog 8 0 = some (0, 1) ∧ tfo Try.prog 8 0 = some 0 ∧ tfield Try.prog 8 1 = some (1, 1) ∧ tfo Try.prog 8 1 = some 1 ∧ tfield Try.prog 8 2 = some (2, 1) ∧ tfo Try.prog 8 2 = some 2 ∧ tfield Try.prog 8 3 = some (3, 1) ∧ tfo Try.prog 8 3 = some 3 ∧ tfields Try.prog 8 = some [(0, 1), (1, 1), (2, 1), (3, 1)] := by and_intros <;> kernel_rfl
@[go_sem] theorem ty9z : tzero Try.prog 9 = some (.string ⟨#[]⟩) := by kernel_rfl
@[go_sem] theorem ty9 : tkind Try.prog 9 = some 3 ∧ tsize Try.prog 9 = some 1 ∧ tbytes Try.prog 9 = some 16 ∧ tagg Try.prog 9 = some false := by and_intros <;> kernel_rfl
@[go_sem] theorem ty10z : tzero Try.prog 10 = some (.string ⟨#[]⟩) := by kernel_rfl
@[go_sem] theorem ty10 : tkind Try.prog 10 = some 3 ∧ tsize Try.prog 10 = some 1 ∧ tbytes Try.prog 10 = some 16 ∧ tagg Try.prog 10 = some false := by and_intros <;> kernel_rfl
@[go_sem] theorem ty11z : tzero Try.prog 11 = some (.string ⟨#[]⟩) := by kernel_rfl
@[go_sem] theorem ty11 : tkind Try.prog 11 = some 3 ∧ tsize Try.prog 11 = some 1 ∧ tbytes Try.prog 11 = some 16 ∧ tagg Try.prog 11 = some false := by and_intros <;> kernel_rfl
@[go_sem] theorem ty12z : tzero Try.prog 12 = some (.int .u64 0) := by kernel_rfl
@[go_sem] theorem ty12 : tkind Try.prog 12 = some 8 ∧ tsize Try.prog 12 = some 1 ∧ tbytes Try.prog 12 = some 8 ∧ tagg Try.prog 12 = some false ∧ tint Try.prog 12 = some .u64 := by and_intros <;> kernel_rfl
@[go_sem] theorem ty13z : tzero Try.prog 13 = some (.agg #[.string ⟨#[]⟩, .int .u64 0]) := by kernel_rfl
@[go_sem] theorem ty13 : tkind Try.prog 13 = some 7 ∧ tsize Try.prog 13 = some 2 ∧ tbytes Try.prog 13 = some 24 ∧ tagg Try.prog 13 = some true ∧ tsizeA Try.prog 13 = some 2 ∧ tfield Try.prog 13 0 = some (0, 1) ∧ tfo Try.prog 13 0 = some 0 ∧ tfield Try.prog 13 1 = some (1, 1) ∧ tfo Try.prog 13 1 = some 1 ∧ tfields Try.prog 13 = some [(0, 1), (1, 1)] := by and_intros <;> kernel_rfl
@[go_sem] theorem ty14z : tzero Try.prog 14 = some (.agg #[.string ⟨#[]⟩, .int .u64 0]) := by kernel_rfl
@[go_sem] theorem ty14 : tkind Try.prog 14 = some 7 ∧ tsize Try.prog 14 = some 2 ∧ tbytes Try.prog 14 = some 24 ∧ tagg Try.prog 14 = some true ∧ tsizeA Try.prog 14 = some 2 ∧ tfield Try.prog 14 0 = some (0, 1) ∧ tfo Try.prog 14 0 = some 0 ∧ tfield Try.prog 14 1 = some (1, 1) ∧ tfo Try.prog 14 1 = some 1 ∧ tfields Try.prog 14 = some [(0, 1), (1, 1)] := by and_intros <;> kernel_rfl
@[go_sem] theorem ty15z : tzero Try.prog 15 = some (.pointer none) := by kernel_rfl
@[go_sem] theorem ty15 : tkind Try.prog 15 = some 4 ∧ tsize Try.prog 15 = some 1 ∧ tbytes Try.prog 15 = some 8 ∧ tagg Try.prog 15 = some false ∧ telem Try.prog 15 = some 136 := by and_intros <;> kernel_rfl
@[go_sem] theorem ty16z : tzero Try.prog 16 = some (.pointer none) := by kernel_rfl
@[go_sem] theorem ty16 : tkind Try.prog 16 = some 4 ∧ tsize Try.prog 16 = some 1 ∧ tbytes Try.prog 16 = some 8 ∧ tagg Try.prog 16 = some false ∧ telem Try.prog 16 = some 139 := by and_intros <;> kernel_rfl
@[go_sem] theorem ty17z : tzero Try.prog 17 = some (.pointer none) := by kernel_rfl
@[go_sem] theorem ty17 : tkind Try.prog 17 = some 4 ∧ tsize Try.prog 17 = some 1 ∧ tbytes Try.prog 17 = some 8 ∧ tagg Try.prog 17 = some false ∧ telem Try.prog 17 = some 148 := by and_intros <;> kernel_rfl
@[go_sem] theorem ty18z : tzero Try.prog 18 = some (.agg #[.pointer none]) := by kernel_rfl
@[go_sem] theorem ty18 : tkind Try.prog 18 = some 7 ∧ tsize Try.prog 18 = some 1 ∧ tbytes Try.prog 18 = some 8 ∧ tagg Try.prog 18 = some true ∧ tsizeA Try.prog 18 = some 1 ∧ tfield Try.prog 18 0 = some (0, 1) ∧ tfo Try.prog 18 0 = some 0 ∧ tfields Try.prog 18 = some [(0, 1)] := by and_intros <;> kernel_rfl
@[go_sem] theorem ty19z : tzero Try.prog 19 = some (.agg #[.pointer none]) := by kernel_rfl
@[go_sem] theorem ty19 : tkind Try.prog 19 = some 7 ∧ tsize Try.prog 19 = some 1 ∧ tbytes Try.prog 19 = some 8 ∧ tagg Try.prog 19 = some true ∧ tsizeA Try.prog 19 = some 1 ∧ tfield Try.prog 19 0 = some (0, 1) ∧ tfo Try.prog 19 0 = some 0 ∧ tfields Try.prog 19 = some [(0, 1)] := by and_intros <;> kernel_rfl
@[go_sem] theorem ty20z : tzero Try.prog 20 = some (.nilIface) := by kernel_rfl
@[go_sem] theorem ty20 : tkind Try.prog 20 = some 10 ∧ tsize Try.prog 20 = some 1 ∧ tbytes Try.prog 20 = some 16 ∧ tagg Try.prog 20 = some false := by and_intros <;> kernel_rfl
@[go_sem] theorem ty21z : tzero Try.prog 21 = some (.int .i32 0) := by kernel_rfl
@[go_sem] theorem ty21 : tkind Try.prog 21 = some 8 ∧ tsize Try.prog 21 = some 1 ∧ tbytes Try.prog 21 = some 4 ∧ tagg Try.prog 21 = some false ∧ tint Try.prog 21 = some .i32 := by and_intros <;> kernel_rfl
@[go_sem] theorem ty22z : tzero Try.prog 22 = some (.agg #[.int .i64 0, .int .i64 0]) := by kernel_rfl
@[go_sem] theorem ty22 : tkind Try.prog 22 = some 7 ∧ tsize Try.prog 22 = some 2 ∧ tbytes Try.prog 22 = some 16 ∧ tagg Try.prog 22 = some true ∧ tsizeA Try.prog 22 = some 2 ∧ tfield Try.prog 22 0 = some (0, 1) ∧ tfo Try.prog 22 0 = some 0 ∧ tfield Try.prog 22 1 = some (1, 1) ∧ tfo Try.prog 22 1 = some 1 ∧ tfields Try.prog 22 = some [(0, 1), (1, 1)] := by and_intros <;> kernel_rfl
@[go_sem] theorem ty23z : tzero Try.prog 23 = some (.agg #[.int .i64 0, .int .i64 0]) := by kernel_rfl
@[go_sem] theorem ty23 : tkind Try.prog 23 = some 7 ∧ tsize Try.prog 23 = some 2 ∧ tbytes Try.prog 23 = some 16 ∧ tagg Try.prog 23 = some true ∧ tflat Try.prog 23 = some [(0, 8), (1, 8)] ∧ tsizeA Try.prog 23 = some 2 ∧ tfield Try.prog 23 0 = some (0, 1) ∧ tfo Try.prog 23 0 = some 0 ∧ tfield Try.prog 23 1 = some (1, 1) ∧ tfo Try.prog 23 1 = some 1 ∧ tfields Try.prog 23 = some [(0, 1), (1, 1)] := by and_intros <;> kernel_rfl
@[go_sem] theorem ty24z : tzero Try.prog 24 = some (.slice none 0 0) := by kernel_rfl
@[go_sem] theorem ty24sl : tslice Try.prog 24 = some 1 := by kernel_rfl
@[go_sem] theorem ty24ap : tapp Try.prog 24 = some (21, 1, 4) := by kernel_rfl
@[go_sem] theorem ty24mk : tmk Try.prog 24 = some (21, 1, [.int .i32 0], 4) := by kernel_rfl
@[go_sem] theorem ty24 : tkind Try.prog 24 = some 1 ∧ tsize Try.prog 24 = some 1 ∧ tbytes Try.prog 24 = some 24 ∧ tagg Try.prog 24 = some false ∧ tbs Try.prog 24 = some (21, 1, [.int .i32 0]) ∧ telem Try.prog 24 = some 21 := by and_intros <;> kernel_rfl
@[go_sem] theorem ty25z : tzero Try.prog 25 = some (.nilFunc) := by kernel_rfl
@[go_sem] theorem ty25 : tkind Try.prog 25 = some 11 ∧ tsize Try.prog 25 = some 1 ∧ tbytes Try.prog 25 = some 8 ∧ tagg Try.prog 25 = some false := by and_intros <;> kernel_rfl
@[go_sem] theorem ty26z : tzero Try.prog 26 = some (.tuple #[.int .i64 0, .int .i64 0]) := by kernel_rfl
@[go_sem] theorem ty26 : tkind Try.prog 26 = some 0 ∧ tsize Try.prog 26 = some 1 ∧ tbytes Try.prog 26 = some 0 ∧ tagg Try.prog 26 = some false := by and_intros <;> kernel_rfl
@[go_sem] theorem ty27z : tzero Try.prog 27 = some (.nilFunc) := by kernel_rfl
@[go_sem] theorem ty27 : tkind Try.prog 27 = some 11 ∧ tsize Try.prog 27 = some 1 ∧ tbytes Try.prog 27 = some 8 ∧ tagg Try.prog 27 = some false := by and_intros <;> kernel_rfl
@[go_sem] theorem ty28z : tzero Try.prog 28 = some (.pointer none) := by kernel_rfl
@[go_sem] theorem ty28 : tkind Try.prog 28 = some 4 ∧ tsize Try.prog 28 = some 1 ∧ tbytes Try.prog 28 = some 8 ∧ tagg Try.prog 28 = some false ∧ telem Try.prog 28 = some 65 := by and_intros <;> kernel_rfl
@[go_sem] theorem ty29z : tzero Try.prog 29 = some (.nilFunc) := by kernel_rfl
@[go_sem] theorem ty29 : tkind Try.prog 29 = some 11 ∧ tsize Try.prog 29 = some 1 ∧ tbytes Try.prog 29 = some 8 ∧ tagg Try.prog 29 = some false := by and_intros <;> kernel_rfl
@[go_sem] theorem ty30z : tzero Try.prog 30 = some (.nilFunc) := by kernel_rfl
@[go_sem] theorem ty30 : tkind Try.prog 30 = some 11 ∧ tsize Try.prog 30 = some 1 ∧ tbytes Try.prog 30 = some 8 ∧ tagg Try.prog 30 = some false := by and_intros <;> kernel_rfl
@[go_sem] theorem ty31z : tzero Try.prog 31 = some (.slice none 0 0) := by kernel_rfl
@[go_sem] theorem ty31sl : tslice Try.prog 31 = some 13 := by kernel_rfl
@[go_sem] theorem ty31ap : tapp Try.prog 31 = some (35, 13, 88) := by kernel_rfl
@[go_sem] theorem ty31mk : tmk Try.prog 31 = some (35, 13, [.int .i64 0, .int .i32 0, .int .u8 0, .int .u8 0, .int .i64 0, .int .i64 0, .int .i64 0, .int .i64 0, .int .i64 0, .int .i64 0, .int .i64 0, .int .i64 0, .int .i64 0], 88) := by kernel_rfl
@[go_sem] theorem ty31 : tkind Try.prog 31 = some 1 ∧ tsize Try.prog 31 = some 1 ∧ tbytes Try.prog 31 = some 24 ∧ tagg Try.prog 31 = some false ∧ tbs Try.prog 31 = some (35, 13, [.int .i64 0, .int .i32 0, .int .u8 0, .int .u8 0, .int .i64 0, .int .i64 0, .int .i64 0, .int .i64 0, .int .i64 0, .int .i64 0, .int .i64 0, .int .i64 0, .int .i64 0]) ∧ telem Try.prog 31 = some 35 := by and_intros <;> kernel_rfl
@[go_sem] theorem ty32z : tzero Try.prog 32 = some (.nilFunc) := by kernel_rfl
@[go_sem] theorem ty32 : tkind Try.prog 32 = some 11 ∧ tsize Try.prog 32 = some 1 ∧ tbytes Try.prog 32 = some 8 ∧ tagg Try.prog 32 = some false := by and_intros <;> kernel_rfl
@[go_sem] theorem ty33z : tzero Try.prog 33 = some (.agg #[.int .i64 0, .int .i64 0, .int .i64 0, .int .i64 0, .int .i64 0, .int .i64 0, .int .i64 0, .int .i64 0]) := by kernel_rfl
@[go_sem] theorem ty33 : tkind Try.prog 33 = some 2 ∧ tsize Try.prog 33 = some 8 ∧ tbytes Try.prog 33 = some 64 ∧ tagg Try.prog 33 = some true ∧ tarr Try.prog 33 = some (8, 1) ∧ tsizeA Try.prog 33 = some 8 ∧ telem Try.prog 33 = some 3 ∧ tlen Try.prog 33 = some 8 := by and_intros <;> kernel_rfl
@[go_sem] theorem ty34z : tzero Try.prog 34 = some (.agg #[.int .i64 0, .int .i32 0, .int .u8 0, .int .u8 0, .int .i64 0, .int .i64 0, .int .i64 0, .int .i64 0, .int .i64 0, .int .i64 0, .int .i64 0, .int .i64 0, .int .i64 0]) := by kernel_rfl
@[go_sem] theorem ty34 : tkind Try.prog 34 = some 7 ∧ tsize Try.prog 34 = some 13 ∧ tbytes Try.prog 34 = some 88 ∧ tagg Try.prog 34 = some true ∧ tsizeA Try.prog 34 = some 13 ∧ tfield Try.prog 34 0 = some (0, 1) ∧ tfo Try.prog 34 0 = some 0 ∧ tfield Try.prog 34 1 = some (1, 1) ∧ tfo Try.prog 34 1 = some 1 ∧ tfield Try.prog 34 2 = some (2, 1) ∧ tfo Try.prog 34 2 = some 2 ∧ tfield Try.prog 34 3 = some (3, 1) ∧ tfo Try.prog 34 3 = some 3 ∧ tfield Try.prog 34 4 = some (4, 1) ∧ tfo Try.prog 34 4 = some 4 ∧ tfield Try.prog 34 5 = some (5, 8) ∧ tfo Try.prog 34 5 = some 5 ∧ tfields Try.prog 34 = some [(0, 1), (1, 1), (2, 1), (3, 1), (4, 1), (5, 8)] := by and_intros <;> kernel_rfl
@[go_sem] theorem ty35z : tzero Try.prog 35 = some (.agg #[.int .i64 0, .int .i32 0, .int .u8 0, .int .u8 0, .int .i64 0, .int .i64 0, .int .i64 0, .int .i64 0, .int .i64 0, .int .i64 0, .int .i64 0, .int .i64 0, .int .i64 0]) := by kernel_rfl
@[go_sem] theorem ty35 : tkind Try.prog 35 = some 7 ∧ tsize Try.prog 35 = some 13 ∧ tbytes Try.prog 35 = some 88 ∧ tagg Try.prog 35 = some true ∧ tsizeA Try.prog 35 = some 13 ∧ tfield Try.prog 35 0 = some (0, 1) ∧ tfo Try.prog 35 0 = some 0 ∧ tfield Try.prog 35 1 = some (1, 1) ∧ tfo Try.prog 35 1 = some 1 ∧ tfield Try.prog 35 2 = some (2, 1) ∧ tfo Try.prog 35 2 = some 2 ∧ tfield Try.prog 35 3 = some (3, 1) ∧ tfo Try.prog 35 3 = some 3 ∧ tfield Try.prog 35 4 = some (4, 1) ∧ tfo Try.prog 35 4 = some 4 ∧ tfield Try.prog 35 5 = some (5, 8) ∧ tfo Try.prog 35 5 = some 5 ∧ tfields Try.prog 35 = some [(0, 1), (1, 1), (2, 1), (3, 1), (4, 1), (5, 8)] := by and_intros <;> kernel_rfl
@[go_sem] theorem ty36z : tzero Try.prog 36 = some (.tuple #[.int .i64 0, .int .i64 0, .bool false]) := by kernel_rfl
@[go_sem] theorem ty36 : tkind Try.prog 36 = some 0 ∧ tsize Try.prog 36 = some 1 ∧ tbytes Try.prog 36 = some 0 ∧ tagg Try.prog 36 = some false := by and_intros <;> kernel_rfl
@[go_sem] theorem ty37z : tzero Try.prog 37 = some (.nilFunc) := by kernel_rfl
@[go_sem] theorem ty37 : tkind Try.prog 37 = some 11 ∧ tsize Try.prog 37 = some 1 ∧ tbytes Try.prog 37 = some 8 ∧ tagg Try.prog 37 = some false := by and_intros <;> kernel_rfl
@[go_sem] theorem ty38z : tzero Try.prog 38 = some (.agg #[.int .i32 0, .int .u8 0, .int .u8 0, .int .u8 0]) := by kernel_rfl
@[go_sem] theorem ty38 : tkind Try.prog 38 = some 7 ∧ tsize Try.prog 38 = some 4 ∧ tbytes Try.prog 38 = some 8 ∧ tagg Try.prog 38 = some true ∧ tsizeA Try.prog 38 = some 4 ∧ tfield Try.prog 38 0 = some (0, 1) ∧ tfo Try.prog 38 0 = some 0 ∧ tfield Try.prog 38 1 = some (1, 1) ∧ tfo Try.prog 38 1 = some 1 ∧ tfield Try.prog 38 2 = some (2, 1) ∧ tfo Try.prog 38 2 = some 2 ∧ tfield Try.prog 38 3 = some (3, 1) ∧ tfo Try.prog 38 3 = some 3 ∧ tfields Try.prog 38 = some [(0, 1), (1, 1), (2, 1), (3, 1)] := by and_intros <;> kernel_rfl
@[go_sem] theorem ty39z : tzero Try.prog 39 = some (.agg #[.int .i32 0, .int .u8 0, .int .u8 0, .int .u8 0]) := by kernel_rfl
@[go_sem] theorem ty39 : tkind Try.prog 39 = some 7 ∧ tsize Try.prog 39 = some 4 ∧ tbytes Try.prog 39 = some 8 ∧ tagg Try.prog 39 = some true ∧ tflat Try.prog 39 = some [(0, 8), (1, 8), (2, 8), (3, 8)] ∧ tsizeA Try.prog 39 = some 4 ∧ tfield Try.prog 39 0 = some (0, 1) ∧ tfo Try.prog 39 0 = some 0 ∧ tfield Try.prog 39 1 = some (1, 1) ∧ tfo Try.prog 39 1 = some 1 ∧ tfield Try.prog 39 2 = some (2, 1) ∧ tfo Try.prog 39 2 = some 2 ∧ tfield Try.prog 39 3 = some (3, 1) ∧ tfo Try.prog 39 3 = some 3 ∧ tfields Try.prog 39 = some [(0, 1), (1, 1), (2, 1), (3, 1)] := by and_intros <;> kernel_rfl
@[go_sem] theorem ty40z : tzero Try.prog 40 = some (.nilFunc) := by kernel_rfl
@[go_sem] theorem ty40 : tkind Try.prog 40 = some 11 ∧ tsize Try.prog 40 = some 1 ∧ tbytes Try.prog 40 = some 8 ∧ tagg Try.prog 40 = some false := by and_intros <;> kernel_rfl
@[go_sem] theorem ty41z : tzero Try.prog 41 = some (.nilFunc) := by kernel_rfl
@[go_sem] theorem ty41 : tkind Try.prog 41 = some 11 ∧ tsize Try.prog 41 = some 1 ∧ tbytes Try.prog 41 = some 8 ∧ tagg Try.prog 41 = some false := by and_intros <;> kernel_rfl
@[go_sem] theorem ty42z : tzero Try.prog 42 = some (.slice none 0 0) := by kernel_rfl
@[go_sem] theorem ty42sl : tslice Try.prog 42 = some 1 := by kernel_rfl
@[go_sem] theorem ty42ap : tapp Try.prog 42 = some (3, 1, 8) := by kernel_rfl
@[go_sem] theorem ty42mk : tmk Try.prog 42 = some (3, 1, [.int .i64 0], 8) := by kernel_rfl
@[go_sem] theorem ty42 : tkind Try.prog 42 = some 1 ∧ tsize Try.prog 42 = some 1 ∧ tbytes Try.prog 42 = some 24 ∧ tagg Try.prog 42 = some false ∧ tbs Try.prog 42 = some (3, 1, [.int .i64 0]) ∧ telem Try.prog 42 = some 3 := by and_intros <;> kernel_rfl
@[go_sem] theorem ty43z : tzero Try.prog 43 = some (.slice none 0 0) := by kernel_rfl
@[go_sem] theorem ty43sl : tslice Try.prog 43 = some 1 := by kernel_rfl
@[go_sem] theorem ty43ap : tapp Try.prog 43 = some (45, 1, 24) := by kernel_rfl
@[go_sem] theorem ty43mk : tmk Try.prog 43 = some (45, 1, [.slice none 0 0], 24) := by kernel_rfl
@[go_sem] theorem ty43 : tkind Try.prog 43 = some 1 ∧ tsize Try.prog 43 = some 1 ∧ tbytes Try.prog 43 = some 24 ∧ tagg Try.prog 43 = some false ∧ tbs Try.prog 43 = some (45, 1, [.slice none 0 0]) ∧ telem Try.prog 43 = some 45 := by and_intros <;> kernel_rfl
@[go_sem] theorem ty44z : tzero Try.prog 44 = some (.nilFunc) := by kernel_rfl
@[go_sem] theorem ty44 : tkind Try.prog 44 = some 11 ∧ tsize Try.prog 44 = some 1 ∧ tbytes Try.prog 44 = some 8 ∧ tagg Try.prog 44 = some false := by and_intros <;> kernel_rfl
@[go_sem] theorem ty45z : tzero Try.prog 45 = some (.slice none 0 0) := by kernel_rfl
@[go_sem] theorem ty45sl : tslice Try.prog 45 = some 4 := by kernel_rfl
@[go_sem] theorem ty45ap : tapp Try.prog 45 = some (39, 4, 8) := by kernel_rfl
@[go_sem] theorem ty45mk : tmk Try.prog 45 = some (39, 4, [.int .i32 0, .int .u8 0, .int .u8 0, .int .u8 0], 8) := by kernel_rfl
@[go_sem] theorem ty45 : tkind Try.prog 45 = some 1 ∧ tsize Try.prog 45 = some 1 ∧ tbytes Try.prog 45 = some 24 ∧ tagg Try.prog 45 = some false ∧ tbs Try.prog 45 = some (39, 4, [.int .i32 0, .int .u8 0, .int .u8 0, .int .u8 0]) ∧ telem Try.prog 45 = some 39 := by and_intros <;> kernel_rfl
@[go_sem] theorem ty46z : tzero Try.prog 46 = some (.nilFunc) := by kernel_rfl
@[go_sem] theorem ty46 : tkind Try.prog 46 = some 11 ∧ tsize Try.prog 46 = some 1 ∧ tbytes Try.prog 46 = some 8 ∧ tagg Try.prog 46 = some false := by and_intros <;> kernel_rfl
@[go_sem] theorem ty47z : tzero Try.prog 47 = some (.agg #[.int .i64 0, .int .i64 0, .slice none 0 0]) := by kernel_rfl
@[go_sem] theorem ty47 : tkind Try.prog 47 = some 7 ∧ tsize Try.prog 47 = some 3 ∧ tbytes Try.prog 47 = some 40 ∧ tagg Try.prog 47 = some true ∧ tsizeA Try.prog 47 = some 3 ∧ tfield Try.prog 47 0 = some (0, 1) ∧ tfo Try.prog 47 0 = some 0 ∧ tfield Try.prog 47 1 = some (1, 1) ∧ tfo Try.prog 47 1 = some 1 ∧ tfield Try.prog 47 2 = some (2, 1) ∧ tfo Try.prog 47 2 = some 2 ∧ tfields Try.prog 47 = some [(0, 1), (1, 1), (2, 1)] := by and_intros <;> kernel_rfl
@[go_sem] theorem ty48z : tzero Try.prog 48 = some (.agg #[.int .i64 0, .int .i64 0, .slice none 0 0]) := by kernel_rfl
@[go_sem] theorem ty48 : tkind Try.prog 48 = some 7 ∧ tsize Try.prog 48 = some 3 ∧ tbytes Try.prog 48 = some 40 ∧ tagg Try.prog 48 = some true ∧ tsizeA Try.prog 48 = some 3 ∧ tfield Try.prog 48 0 = some (0, 1) ∧ tfo Try.prog 48 0 = some 0 ∧ tfield Try.prog 48 1 = some (1, 1) ∧ tfo Try.prog 48 1 = some 1 ∧ tfield Try.prog 48 2 = some (2, 1) ∧ tfo Try.prog 48 2 = some 2 ∧ tfields Try.prog 48 = some [(0, 1), (1, 1), (2, 1)] := by and_intros <;> kernel_rfl
@[go_sem] theorem ty49z : tzero Try.prog 49 = some (.nilFunc) := by kernel_rfl
@[go_sem] theorem ty49 : tkind Try.prog 49 = some 11 ∧ tsize Try.prog 49 = some 1 ∧ tbytes Try.prog 49 = some 8 ∧ tagg Try.prog 49 = some false := by and_intros <;> kernel_rfl
@[go_sem] theorem ty50z : tzero Try.prog 50 = some (.nilFunc) := by kernel_rfl
@[go_sem] theorem ty50 : tkind Try.prog 50 = some 11 ∧ tsize Try.prog 50 = some 1 ∧ tbytes Try.prog 50 = some 8 ∧ tagg Try.prog 50 = some false := by and_intros <;> kernel_rfl
@[go_sem] theorem ty51z : tzero Try.prog 51 = some (.nilFunc) := by kernel_rfl
@[go_sem] theorem ty51 : tkind Try.prog 51 = some 11 ∧ tsize Try.prog 51 = some 1 ∧ tbytes Try.prog 51 = some 8 ∧ tagg Try.prog 51 = some false := by and_intros <;> kernel_rfl
@[go_sem] theorem ty52z : tzero Try.prog 52 = some (.nilFunc) := by kernel_rfl
@[go_sem] theorem ty52 : tkind Try.prog 52 = some 11 ∧ tsize Try.prog 52 = some 1 ∧ tbytes Try.prog 52 = some 8 ∧ tagg Try.prog 52 = some false := by and_intros <;> kernel_rfl
@[go_sem] theorem ty53z : tzero Try.prog 53 = some (.nilFunc) := by kernel_rfl
@[go_sem] theorem ty53 : tkind Try.prog 53 = some 11 ∧ tsize Try.prog 53 = some 1 ∧ tbytes Try.prog 53 = some 8 ∧ tagg Try.prog 53 = some false := by and_intros <;> kernel_rfl
@[go_sem] theorem ty54z : tzero Try.prog 54 = some (.nilFunc) := by kernel_rfl
@[go_sem] theorem ty54 : tkind Try.prog 54 = some 11 ∧ tsize Try.prog 54 = some 1 ∧ tbytes Try.prog 54 = some 8 ∧ tagg Try.prog 54 = some false := by and_intros <;> kernel_rfl
@[go_sem] theorem ty55z : tzero Try.prog 55 = some (.nilFunc) := by kernel_rfl
@[go_sem] theorem ty55 : tkind Try.prog 55 = some 11 ∧ tsize Try.prog 55 = some 1 ∧ tbytes Try.prog 55 = some 8 ∧ tagg Try.prog 55 = some false := by and_intros <;> kernel_rfl
@[go_sem] theorem ty56z : tzero Try.prog 56 = some (.slice none 0 0) := by kernel_rfl
@[go_sem] theorem ty56sl : tslice Try.prog 56 = some 1 := by kernel_rfl
@[go_sem] theorem ty56ap : tapp Try.prog 56 = some (9, 1, 16) := by kernel_rfl
@[go_sem] theorem ty56mk : tmk Try.prog 56 = some (9, 1, [.string ⟨#[]⟩], 16) := by kernel_rfl
@[go_sem] theorem ty56 : tkind Try.prog 56 = some 1 ∧ tsize Try.prog 56 = some 1 ∧ tbytes Try.prog 56 = some 24 ∧ tagg Try.prog 56 = some false ∧ tbs Try.prog 56 = some (9, 1, [.string ⟨#[]⟩]) ∧ telem Try.prog 56 = some 9 := by and_intros <;> kernel_rfl
@[go_sem] theorem ty57z : tzero Try.prog 57 = some (.nilFunc) := by kernel_rfl
@[go_sem] theorem ty57 : tkind Try.prog 57 = some 11 ∧ tsize Try.prog 57 = some 1 ∧ tbytes Try.prog 57 = some 8 ∧ tagg Try.prog 57 = some false := by and_intros <;> kernel_rfl
@[go_sem] theorem ty58z : tzero Try.prog 58 = some (.nilFunc) := by kernel_rfl
@[go_sem] theorem ty58 : tkind Try.prog 58 = some 11 ∧ tsize Try.prog 58 = some 1 ∧ tbytes Try.prog 58 = some 8 ∧ tagg Try.prog 58 = some false := by and_intros <;> kernel_rfl
@[go_sem] theorem ty59z : tzero Try.prog 59 = some (.agg #[.int .i64 0, .int .i64 0, .slice none 0 0, .int .i64 0, .int .i64 0, .slice none 0 0]) := by kernel_rfl
@[go_sem] theorem ty59 : tkind Try.prog 59 = some 2 ∧ tsize Try.prog 59 = some 6 ∧ tbytes Try.prog 59 = some 80 ∧ tagg Try.prog 59 = some true ∧ tarr Try.prog 59 = some (2, 3) ∧ tsizeA Try.prog 59 = some 6 ∧ telem Try.prog 59 = some 48 ∧ tlen Try.prog 59 = some 2 := by and_intros <;> kernel_rfl
@[go_sem] theorem ty60z : tzero Try.prog 60 = some (.agg #[.int .i64 0, .int .i64 0, .int .i32 0, .int .u8 0, .int .u8 0, .int .u8 0]) := by kernel_rfl
@[go_sem] theorem ty60 : tkind Try.prog 60 = some 7 ∧ tsize Try.prog 60 = some 6 ∧ tbytes Try.prog 60 = some 24 ∧ tagg Try.prog 60 = some true ∧ tsizeA Try.prog 60 = some 6 ∧ tfield Try.prog 60 0 = some (0, 1) ∧ tfo Try.prog 60 0 = some 0 ∧ tfield Try.prog 60 1 = some (1, 1) ∧ tfo Try.prog 60 1 = some 1 ∧ tfield Try.prog 60 2 = some (2, 4) ∧ tfo Try.prog 60 2 = some 2 ∧ tfields Try.prog 60 = some [(0, 1), (1, 1), (2, 4)] := by and_intros <;> kernel_rfl
@[go_sem] theorem ty61z : tzero Try.prog 61 = some (.agg #[.int .i64 0, .int .i64 0, .int .i32 0, .int .u8 0, .int .u8 0, .int .u8 0]) := by kernel_rfl
@[go_sem] theorem ty61 : tkind Try.prog 61 = some 7 ∧ tsize Try.prog 61 = some 6 ∧ tbytes Try.prog 61 = some 24 ∧ tagg Try.prog 61 = some true ∧ tsizeA Try.prog 61 = some 6 ∧ tfield Try.prog 61 0 = some (0, 1) ∧ tfo Try.prog 61 0 = some 0 ∧ tfield Try.prog 61 1 = some (1, 1) ∧ tfo Try.prog 61 1 = some 1 ∧ tfield Try.prog 61 2 = some (2, 4) ∧ tfo Try.prog 61 2 = some 2 ∧ tfields Try.prog 61 = some [(0, 1), (1, 1), (2, 4)] := by and_intros <;> kernel_rfl
@[go_sem] theorem ty62z : tzero Try.prog 62 = some (.agg #[.int .i64 0, .int .i64 0, .int .i32 0, .int .u8 0, .int .u8 0, .int .u8 0, .int .i64 0, .int .i64 0, .int .i32 0, .int .u8 0, .int .u8 0, .int .u8 0]) := by kernel_rfl
@[go_sem] theorem ty62 : tkind Try.prog 62 = some 2 ∧ tsize Try.prog 62 = some 12 ∧ tbytes Try.prog 62 = some 48 ∧ tagg Try.prog 62 = some true ∧ tarr Try.prog 62 = some (2, 6) ∧ tsizeA Try.prog 62 = some 12 ∧ telem Try.prog 62 = some 61 ∧ tlen Try.prog 62 = some 2 := by and_intros <;> kernel_rfl
@[go_sem] theorem ty63z : tzero Try.prog 63 = some (.agg #[.bool false, .bool false, .bool false, .bool false, .bool false, .bool false, .bool false, .bool false, .bool false, .bool false, .bool false, .bool false, .bool false, .bool false, .bool false, .bool false, .bool false, .bool false, .bool false, .bool false, .bool false, .bool false, .bool false, .bool false, .bool false, .bool false, .bool false, .bool false, .bool false, .bool false, .bool false, .bool false, .bool false, .bool false, .bool false, .bool false, .bool false, .bool false, .bool false, .bool false, .bool false, .bool false, .bool false, .bool false, .bool false, .bool false, .bool false, .bool false, .bool false, .bool false, .bool false, .bool false, .bool false, .bool false, .bool false, .bool false, .bool false, .bool false, .bool false, .bool false, .bool false, .bool false, .bool false, .bool false, .bool false, .bool false, .bool false, .bool false, .bool false, .bool false, .bool false, .bool false, .bool false, .bool false, .bool false, .bool false, .bool false, .bool false, .bool false, .bool false, .bool false, .bool false, .bool false, .bool false, .bool false, .bool false, .bool false, .bool false, .bool false, .bool false, .bool false, .bool false, .bool false, .bool false, .bool false, .bool false, .bool false, .bool false, .bool false, .bool false, .bool false, .bool false, .bool false, .bool false, .bool false, .bool false, .bool false, .bool false, .bool false, .bool false, .bool false, .bool false, .bool false, .bool false, .bool false, .bool false, .bool false, .bool false, .bool false, .bool false, .bool false, .bool false, .bool false, .bool false, .bool false, .bool false, .bool false, .bool false, .bool false, .bool false, .bool false, .bool false, .bool false, .bool false, .bool false, .bool false, .bool false, .bool false, .bool false, .bool false, .bool false, .bool false, .bool false, .bool false, .bool false, .bool false, .bool false, .bool false, .bool false, .bool false, .bool false, .bool false, .bool false, .bool false, .bool false, .bool false, .bool false, .bool false, .bool false, .bool false, .bool false, .bool false, .bool false, .bool false, .bool false, .bool false, .bool false, .bool false, .bool false, .bool false, .bool false, .bool false, .bool false, .bool false, .bool false, .bool false, .bool false, .bool false, .bool false, .bool false, .bool false, .bool false, .bool false, .bool false, .bool false, .bool false, .bool false, .bool false, .bool false, .bool false, .bool false, .bool false, .bool false, .bool false, .bool false, .bool false, .bool false, .bool false, .bool false, .bool false]) := by kernel_rfl
@[go_sem] theorem ty63 : tkind Try.prog 63 = some 2 ∧ tsize Try.prog 63 = some 200 ∧ tbytes Try.prog 63 = some 200 ∧ tagg Try.prog 63 = some true ∧ tarr Try.prog 63 = some (200, 1) ∧ tsizeA Try.prog 63 = some 200 ∧ telem Try.prog 63 = some 4 ∧ tlen Try.prog 63 = some 200 := by and_intros <;> kernel_rfl
@[go_sem] theorem ty64z : tzero Try.prog 64 = some (.agg #[.int .i64 0, .int .i64 0, .int .i64 0, .int .i64 0, .slice none 0 0, .int .i64 0, .int .i64 0, .slice none 0 0, .int .i64 0, .int .i64 0, .int .i32 0, .int .u8 0, .int .u8 0, .int .u8 0, .int .i64 0, .int .i64 0, .int .i32 0, .int .u8 0, .int .u8 0, .int .u8 0, .int .i64 0, .int .i64 0, .int .i64 0, .int .i32 0, .int .u8 0, .int .u8 0, .int .u8 0, .int .i64 0, .int .i64 0, .bool false, .bool false, .bool false, .bool false, .bool false, .bool false, .bool false, .bool false, .bool false, .bool false, .bool false, .bool false, .bool false, .bool false, .bool false, .bool false, .bool false, .bool false, .bool false, .bool false, .bool false, .bool false, .bool false, .bool false, .bool false, .bool false, .bool false, .bool false, .bool false, .bool false, .bool false, .bool false, .bool false, .bool false, .bool false, .bool false, .bool false, .bool false, .bool false, .bool false, .bool false, .bool false, .bool false, .bool false, .bool false, .bool false, .bool false, .bool false, .bool false, .bool false, .bool false, .bool false, .bool false, .bool false, .bool false, .bool false, .bool false, .bool false, .bool false, .bool false, .bool false, .bool false, .bool false, .bool false, .bool false, .bool false, .bool false, .bool false, .bool false, .bool false, .bool false, .bool false, .bool false, .bool false, .bool false, .bool false, .bool false, .bool false, .bool false, .bool false, .bool false, .bool false, .bool false, .bool false, .bool false, .bool false, .bool false, .bool false, .bool false, .bool false, .bool false, .bool false, .bool false, .bool false, .bool false, .bool false, .bool false, .bool false, .bool false, .bool false, .bool false, .bool false, .bool false, .bool false, .bool false, .bool false, .bool false, .bool false, .bool false, .bool false, .bool false, .bool false, .bool false, .bool false, .bool false, .bool false, .bool false, .bool false, .bool false, .bool false, .bool false, .bool false, .bool false, .bool false, .bool false, .bool false, .bool false, .bool false, .bool false, .bool false, .bool false, .bool false, .bool false, .bool false, .bool false, .bool false, .bool false, .bool false, .bool false, .bool false, .bool false, .bool false, .bool false, .bool false, .bool false, .bool false, .bool false, .bool false, .bool false, .bool false, .bool false, .bool false, .bool false, .bool false, .bool false, .bool false, .bool false, .bool false, .bool false, .bool false, .bool false, .bool false, .bool false, .bool false, .bool false, .bool false, .bool false, .bool false, .bool false, .bool false, .bool false, .bool false, .bool false, .bool false, .bool false, .bool false, .bool false, .bool false, .bool false, .bool false, .bool false, .bool false, .bool false, .bool false, .bool false, .bool false, .bool false, .bool false, .bool false, .bool false, .bool false, .bool false, .bool false, .bool false, .bool false, .bool false, .bool false, .bool false, .bool false, .bool false, .bool false, .bool false, .bool false, .slice none 0 0]) := by kernel_rfl
@[go_sem] theorem ty64 : tkind Try.prog 64 = some 7 ∧ tsize Try.prog 64 = some 233 ∧ tbytes Try.prog 64 = some 424 ∧ tagg Try.prog 64 = some true ∧ tsizeA Try.prog 64 = some 233 ∧ tfield Try.prog 64 0 = some (0, 1) ∧ tfo Try.prog 64 0 = some 0 ∧ tfield Try.prog 64 1 = some (1, 1) ∧ tfo Try.prog 64 1 = some 1 ∧ tfield Try.prog 64 2 = some (2, 6) ∧ tfo Try.prog 64 2 = some 2 ∧ tfield Try.prog 64 3 = some (8, 12) ∧ tfo Try.prog 64 3 = some 8 ∧ tfield Try.prog 64 4 = some (20, 1) ∧ tfo Try.prog 64 4 = some 20 ∧ tfield Try.prog 64 5 = some (21, 6) ∧ tfo Try.prog 64 5 = some 21 ∧ tfield Try.prog 64 6 = some (27, 1) ∧ tfo Try.prog 64 6 = some 27 ∧ tfield Try.prog 64 7 = some (28, 1) ∧ tfo Try.prog 64 7 = some 28 ∧ tfield Try.prog 64 8 = some (29, 200) ∧ tfo Try.prog 64 8 = some 29 ∧ tfield Try.prog 64 9 = some (229, 1) ∧ tfo Try.prog 64 9 = some 229 ∧ tfield Try.prog 64 10 = some (230, 1) ∧ tfo Try.prog 64 10 = some 230 ∧ tfield Try.prog 64 11 = some (231, 1) ∧ tfo Try.prog 64 11 = some 231 ∧ tfield Try.prog 64 12 = some (232, 1) ∧ tfo Try.prog 64 12 = some 232 ∧ tfields Try.prog 64 = some [(0, 1), (1, 1), (2, 6), (8, 12), (20, 1), (21, 6), (27, 1), (28, 1), (29, 200), (229, 1), (230, 1), (231, 1), (232, 1)] := by and_intros <;> kernel_rfl
@[go_sem] theorem ty65z : tzero Try.prog 65 = some (.agg #[.int .i64 0, .int .i64 0, .int .i64 0, .int .i64 0, .slice none 0 0, .int .i64 0, .int .i64 0, .slice none 0 0, .int .i64 0, .int .i64 0, .int .i32 0, .int .u8 0, .int .u8 0, .int .u8 0, .int .i64 0, .int .i64 0, .int .i32 0, .int .u8 0, .int .u8 0, .int .u8 0, .int .i64 0, .int .i64 0, .int .i64 0, .int .i32 0, .int .u8 0, .int .u8 0, .int .u8 0, .int .i64 0, .int .i64 0, .bool false, .bool false, .bool false, .bool false, .bool false, .bool false, .bool false, .bool false, .bool false, .bool false, .bool false, .bool false, .bool false, .bool false, .bool false, .bool false, .bool false, .bool false, .bool false, .bool false, .bool false, .bool false, .bool false, .bool false, .bool false, .bool false, .bool false, .bool false, .bool false, .bool false, .bool false, .bool false, .bool false, .bool false, .bool false, .bool false, .bool false, .bool false, .bool false, .bool false, .bool false, .bool false, .bool false, .bool false, .bool false, .bool false, .bool false, .bool false, .bool false, .bool false, .bool false, .bool false, .bool false, .bool false, .bool false, .bool false, .bool false, .bool false, .bool false, .bool false, .bool false, .bool false, .bool false, .bool false, .bool false, .bool false, .bool false, .bool false, .bool false, .bool false, .bool false, .bool false, .bool false, .bool false, .bool false, .bool false, .bool false, .bool false, .bool false, .bool false, .bool false, .bool false, .bool false, .bool false, .bool false, .bool false, .bool false, .bool false, .bool false, .bool false, .bool false, .bool false, .bool false, .bool false, .bool false, .bool false, .bool false, .bool false, .bool false, .bool false, .bool false, .bool false, .bool false, .bool false, .bool false, .bool false, .bool false, .bool false, .bool false, .bool false, .bool false, .bool false, .bool false, .bool false, .bool false, .bool false, .bool false, .bool false, .bool false, .bool false, .bool false, .bool false, .bool false, .bool false, .bool false, .bool false, .bool false, .bool false, .bool false, .bool false, .bool false, .bool false, .bool false, .bool false, .bool false, .bool false, .bool false, .bool false, .bool false, .bool false, .bool false, .bool false, .bool false, .bool false, .bool false, .bool false, .bool false, .bool false, .bool false, .bool false, .bool false, .bool false, .bool false, .bool false, .bool false, .bool false, .bool false, .bool false, .bool false, .bool false, .bool false, .bool false, .bool false, .bool false, .bool false, .bool false, .bool false, .bool false, .bool false, .bool false, .bool false, .bool false, .bool false, .bool false, .bool false, .bool false, .bool false, .bool false, .bool false, .bool false, .bool false, .bool false, .bool false, .bool false, .bool false, .bool false, .bool false, .bool false, .bool false, .bool false, .bool false, .bool false, .bool false, .bool false, .bool false, .bool false, .bool false, .bool false, .bool false, .bool false, .bool false, .bool false, .bool false, .slice none 0 0]) := by kernel_rfl
@[go_sem] theorem ty65 : tkind Try.prog 65 = some 7 ∧ tsize Try.prog 65 = some 233 ∧ tbytes Try.prog 65 = some 424 ∧ tagg Try.prog 65 = some true ∧ tsizeA Try.prog 65 = some 233 ∧ tfield Try.prog 65 0 = some (0, 1) ∧ tfo Try.prog 65 0 = some 0 ∧ tfield Try.prog 65 1 = some (1, 1) ∧ tfo Try.prog 65 1 = some 1 ∧ tfield Try.prog 65 2 = some (2, 6) ∧ tfo Try.prog 65 2 = some 2 ∧ tfield Try.prog 65 3 = some (8, 12) ∧ tfo Try.prog 65 3 = some 8 ∧ tfield Try.prog 65 4 = some (20, 1) ∧ tfo Try.prog 65 4 = some 20 ∧ tfield Try.prog 65 5 = some (21, 6) ∧ tfo Try.prog 65 5 = some 21 ∧ tfield Try.prog 65 6 = some (27, 1) ∧ tfo Try.prog 65 6 = some 27 ∧ tfield Try.prog 65 7 = some (28, 1) ∧ tfo Try.prog 65 7 = some 28 ∧ tfield Try.prog 65 8 = some (29, 200) ∧ tfo Try.prog 65 8 = some 29 ∧ tfield Try.prog 65 9 = some (229, 1) ∧ tfo Try.prog 65 9 = some 229 ∧ tfield Try.prog 65 10 = some (230, 1) ∧ tfo Try.prog 65 10 = some 230 ∧ tfield Try.prog 65 11 = some (231, 1) ∧ tfo Try.prog 65 11 = some 231 ∧ tfield Try.prog 65 12 = some (232, 1) ∧ tfo Try.prog 65 12 = some 232 ∧ tfields Try.prog 65 = some [(0, 1), (1, 1), (2, 6), (8, 12), (20, 1), (21, 6), (27, 1), (28, 1), (29, 200), (229, 1), (230, 1), (231, 1), (232, 1)] := by and_intros <;> kernel_rfl
@[go_sem] theorem ty66z : tzero Try.prog 66 = some (.nilFunc) := by kernel_rfl
@[go_sem] theorem ty66 : tkind Try.prog 66 = some 11 ∧ tsize Try.prog 66 = some 1 ∧ tbytes Try.prog 66 = some 8 ∧ tagg Try.prog 66 = some false := by and_intros <;> kernel_rfl
@[go_sem] theorem ty67z : tzero Try.prog 67 = some (.nilFunc) := by kernel_rfl
@[go_sem] theorem ty67 : tkind Try.prog 67 = some 11 ∧ tsize Try.prog 67 = some 1 ∧ tbytes Try.prog 67 = some 8 ∧ tagg Try.prog 67 = some false := by and_intros <;> kernel_rfl
@[go_sem] theorem ty68z : tzero Try.prog 68 = some (.pointer none) := by kernel_rfl
@[go_sem] theorem ty68 : tkind Try.prog 68 = some 4 ∧ tsize Try.prog 68 = some 1 ∧ tbytes Try.prog 68 = some 8 ∧ tagg Try.prog 68 = some false ∧ telem Try.prog 68 = some 70 := by and_intros <;> kernel_rfl
@[go_sem] theorem ty69z : tzero Try.prog 69 = some (.agg #[.int .i64 0, .int .i64 0, .int .i32 0, .int .u8 0, .int .u8 0, .int .i64 0, .int .i64 0, .int .i64 0, .int .i64 0, .int .i64 0, .int .i64 0, .int .i64 0, .int .i64 0, .int .i64 0, .bool false]) := by kernel_rfl
@[go_sem] theorem ty69 : tkind Try.prog 69 = some 7 ∧ tsize Try.prog 69 = some 15 ∧ tbytes Try.prog 69 = some 104 ∧ tagg Try.prog 69 = some true ∧ tsizeA Try.prog 69 = some 15 ∧ tfield Try.prog 69 0 = some (0, 1) ∧ tfo Try.prog 69 0 = some 0 ∧ tfield Try.prog 69 1 = some (1, 13) ∧ tfo Try.prog 69 1 = some 1 ∧ tfield Try.prog 69 2 = some (14, 1) ∧ tfo Try.prog 69 2 = some 14 ∧ tfields Try.prog 69 = some [(0, 1), (1, 13), (14, 1)] := by and_intros <;> kernel_rfl
@[go_sem] theorem ty70z : tzero Try.prog 70 = some (.agg #[.int .i64 0, .int .i64 0, .int .i32 0, .int .u8 0, .int .u8 0, .int .i64 0, .int .i64 0, .int .i64 0, .int .i64 0, .int .i64 0, .int .i64 0, .int .i64 0, .int .i64 0, .int .i64 0, .bool false]) := by kernel_rfl
@[go_sem] theorem ty70 : tkind Try.prog 70 = some 7 ∧ tsize Try.prog 70 = some 15 ∧ tbytes Try.prog 70 = some 104 ∧ tagg Try.prog 70 = some true ∧ tsizeA Try.prog 70 = some 15 ∧ tfield Try.prog 70 0 = some (0, 1) ∧ tfo Try.prog 70 0 = some 0 ∧ tfield Try.prog 70 1 = some (1, 13) ∧ tfo Try.prog 70 1 = some 1 ∧ tfield Try.prog 70 2 = some (14, 1) ∧ tfo Try.prog 70 2 = some 14 ∧ tfields Try.prog 70 = some [(0, 1), (1, 13), (14, 1)] := by and_intros <;> kernel_rfl
@[go_sem] theorem ty71z : tzero Try.prog 71 = some (.nilFunc) := by kernel_rfl
@[go_sem] theorem ty71 : tkind Try.prog 71 = some 11 ∧ tsize Try.prog 71 = some 1 ∧ tbytes Try.prog 71 = some 8 ∧ tagg Try.prog 71 = some false := by and_intros <;> kernel_rfl
@[go_sem] theorem ty72z : tzero Try.prog 72 = some (.nilFunc) := by kernel_rfl
@[go_sem] theorem ty72 : tkind Try.prog 72 = some 11 ∧ tsize Try.prog 72 = some 1 ∧ tbytes Try.prog 72 = some 8 ∧ tagg Try.prog 72 = some false := by and_intros <;> kernel_rfl
@[go_sem] theorem ty73z : tzero Try.prog 73 = some (.nilFunc) := by kernel_rfl
@[go_sem] theorem ty73 : tkind Try.prog 73 = some 11 ∧ tsize Try.prog 73 = some 1 ∧ tbytes Try.prog 73 = some 8 ∧ tagg Try.prog 73 = some false := by and_intros <;> kernel_rfl
@[go_sem] theorem ty74z : tzero Try.prog 74 = some (.nilFunc) := by kernel_rfl
@[go_sem] theorem ty74 : tkind Try.prog 74 = some 11 ∧ tsize Try.prog 74 = some 1 ∧ tbytes Try.prog 74 = some 8 ∧ tagg Try.prog 74 = some false := by and_intros <;> kernel_rfl
@[go_sem] theorem ty75z : tzero Try.prog 75 = some (.nilFunc) := by kernel_rfl
@[go_sem] theorem ty75 : tkind Try.prog 75 = some 11 ∧ tsize Try.prog 75 = some 1 ∧ tbytes Try.prog 75 = some 8 ∧ tagg Try.prog 75 = some false := by and_intros <;> kernel_rfl
@[go_sem] theorem ty76z : tzero Try.prog 76 = some (.nilFunc) := by kernel_rfl
@[go_sem] theorem ty76 : tkind Try.prog 76 = some 11 ∧ tsize Try.prog 76 = some 1 ∧ tbytes Try.prog 76 = some 8 ∧ tagg Try.prog 76 = some false := by and_intros <;> kernel_rfl
@[go_sem] theorem ty77z : tzero Try.prog 77 = some (.nilFunc) := by kernel_rfl
@[go_sem] theorem ty77 : tkind Try.prog 77 = some 11 ∧ tsize Try.prog 77 = some 1 ∧ tbytes Try.prog 77 = some 8 ∧ tagg Try.prog 77 = some false := by and_intros <;> kernel_rfl
@[go_sem] theorem ty78z : tzero Try.prog 78 = some (.nilFunc) := by kernel_rfl
@[go_sem] theorem ty78 : tkind Try.prog 78 = some 11 ∧ tsize Try.prog 78 = some 1 ∧ tbytes Try.prog 78 = some 8 ∧ tagg Try.prog 78 = some false := by and_intros <;> kernel_rfl
@[go_sem] theorem ty79z : tzero Try.prog 79 = some (.nilFunc) := by kernel_rfl
@[go_sem] theorem ty79 : tkind Try.prog 79 = some 11 ∧ tsize Try.prog 79 = some 1 ∧ tbytes Try.prog 79 = some 8 ∧ tagg Try.prog 79 = some false := by and_intros <;> kernel_rfl
@[go_sem] theorem ty80z : tzero Try.prog 80 = some (.nilFunc) := by kernel_rfl
@[go_sem] theorem ty80 : tkind Try.prog 80 = some 11 ∧ tsize Try.prog 80 = some 1 ∧ tbytes Try.prog 80 = some 8 ∧ tagg Try.prog 80 = some false := by and_intros <;> kernel_rfl
@[go_sem] theorem ty81z : tzero Try.prog 81 = some (.nilFunc) := by kernel_rfl
@[go_sem] theorem ty81 : tkind Try.prog 81 = some 11 ∧ tsize Try.prog 81 = some 1 ∧ tbytes Try.prog 81 = some 8 ∧ tagg Try.prog 81 = some false := by and_intros <;> kernel_rfl
@[go_sem] theorem ty82z : tzero Try.prog 82 = some (.nilFunc) := by kernel_rfl
@[go_sem] theorem ty82 : tkind Try.prog 82 = some 11 ∧ tsize Try.prog 82 = some 1 ∧ tbytes Try.prog 82 = some 8 ∧ tagg Try.prog 82 = some false := by and_intros <;> kernel_rfl
@[go_sem] theorem ty83z : tzero Try.prog 83 = some (.nilFunc) := by kernel_rfl
@[go_sem] theorem ty83 : tkind Try.prog 83 = some 11 ∧ tsize Try.prog 83 = some 1 ∧ tbytes Try.prog 83 = some 8 ∧ tagg Try.prog 83 = some false := by and_intros <;> kernel_rfl
@[go_sem] theorem ty84z : tzero Try.prog 84 = some (.nilFunc) := by kernel_rfl
@[go_sem] theorem ty84 : tkind Try.prog 84 = some 11 ∧ tsize Try.prog 84 = some 1 ∧ tbytes Try.prog 84 = some 8 ∧ tagg Try.prog 84 = some false := by and_intros <;> kernel_rfl
@[go_sem] theorem ty85z : tzero Try.prog 85 = some (.nilFunc) := by kernel_rfl
@[go_sem] theorem ty85 : tkind Try.prog 85 = some 11 ∧ tsize Try.prog 85 = some 1 ∧ tbytes Try.prog 85 = some 8 ∧ tagg Try.prog 85 = some false := by and_intros <;> kernel_rfl
@[go_sem] theorem ty86z : tzero Try.prog 86 = some (.nilFunc) := by kernel_rfl
@[go_sem] theorem ty86 : tkind Try.prog 86 = some 11 ∧ tsize Try.prog 86 = some 1 ∧ tbytes Try.prog 86 = some 8 ∧ tagg Try.prog 86 = some false := by and_intros <;> kernel_rfl
@[go_sem] theorem ty87z : tzero Try.prog 87 = some (.nilFunc) := by kernel_rfl
@[go_sem] theorem ty87 : tkind Try.prog 87 = some 11 ∧ tsize Try.prog 87 = some 1 ∧ tbytes Try.prog 87 = some 8 ∧ tagg Try.prog 87 = some false := by and_intros <;> kernel_rfl
@[go_sem] theorem ty88z : tzero Try.prog 88 = some (.nilFunc) := by kernel_rfl
@[go_sem] theorem ty88 : tkind Try.prog 88 = some 11 ∧ tsize Try.prog 88 = some 1 ∧ tbytes Try.prog 88 = some 8 ∧ tagg Try.prog 88 = some false := by and_intros <;> kernel_rfl
@[go_sem] theorem ty89z : tzero Try.prog 89 = some (.nilFunc) := by kernel_rfl
@[go_sem] theorem ty89 : tkind Try.prog 89 = some 11 ∧ tsize Try.prog 89 = some 1 ∧ tbytes Try.prog 89 = some 8 ∧ tagg Try.prog 89 = some false := by and_intros <;> kernel_rfl
@[go_sem] theorem ty90z : tzero Try.prog 90 = some (.nilFunc) := by kernel_rfl
@[go_sem] theorem ty90 : tkind Try.prog 90 = some 11 ∧ tsize Try.prog 90 = some 1 ∧ tbytes Try.prog 90 = some 8 ∧ tagg Try.prog 90 = some false := by and_intros <;> kernel_rfl
@[go_sem] theorem ty91z : tzero Try.prog 91 = some (.nilFunc) := by kernel_rfl
@[go_sem] theorem ty91 : tkind Try.prog 91 = some 11 ∧ tsize Try.prog 91 = some 1 ∧ tbytes Try.prog 91 = some 8 ∧ tagg Try.prog 91 = some false := by and_intros <;> kernel_rfl
@[go_sem] theorem ty92z : tzero Try.prog 92 = some (.nilFunc) := by kernel_rfl
@[go_sem] theorem ty92 : tkind Try.prog 92 = some 11 ∧ tsize Try.prog 92 = some 1 ∧ tbytes Try.prog 92 = some 8 ∧ tagg Try.prog 92 = some false := by and_intros <;> kernel_rfl
@[go_sem] theorem ty93z : tzero Try.prog 93 = some (.nilFunc) := by kernel_rfl
@[go_sem] theorem ty93 : tkind Try.prog 93 = some 11 ∧ tsize Try.prog 93 = some 1 ∧ tbytes Try.prog 93 = some 8 ∧ tagg Try.prog 93 = some false := by and_intros <;> kernel_rfl
@[go_sem] theorem ty94z : tzero Try.prog 94 = some (.nilFunc) := by kernel_rfl
@[go_sem] theorem ty94 : tkind Try.prog 94 = some 11 ∧ tsize Try.prog 94 = some 1 ∧ tbytes Try.prog 94 = some 8 ∧ tagg Try.prog 94 = some false := by and_intros <;> kernel_rfl
@[go_sem] theorem ty95z : tzero Try.prog 95 = some (.nilFunc) := by kernel_rfl
@[go_sem] theorem ty95 : tkind Try.prog 95 = some 11 ∧ tsize Try.prog 95 = some 1 ∧ tbytes Try.prog 95 = some 8 ∧ tagg Try.prog 95 = some false := by and_intros <;> kernel_rfl
@[go_sem] theorem ty96z : tzero Try.prog 96 = some (.nilFunc) := by kernel_rfl
@[go_sem] theorem ty96 : tkind Try.prog 96 = some 11 ∧ tsize Try.prog 96 = some 1 ∧ tbytes Try.prog 96 = some 8 ∧ tagg Try.prog 96 = some false := by and_intros <;> kernel_rfl
@[go_sem] theorem ty97z : tzero Try.prog 97 = some (.nilFunc) := by kernel_rfl
@[go_sem] theorem ty97 : tkind Try.prog 97 = some 11 ∧ tsize Try.prog 97 = some 1 ∧ tbytes Try.prog 97 = some 8 ∧ tagg Try.prog 97 = some false := by and_intros <;> kernel_rfl
@[go_sem] theorem ty98z : tzero Try.prog 98 = some (.agg #[.int .i32 0, .int .i32 0, .int .i64 0]) := by kernel_rfl
@[go_sem] theorem ty98 : tkind Try.prog 98 = some 7 ∧ tsize Try.prog 98 = some 3 ∧ tbytes Try.prog 98 = some 16 ∧ tagg Try.prog 98 = some true ∧ tsizeA Try.prog 98 = some 3 ∧ tfield Try.prog 98 0 = some (0, 1) ∧ tfo Try.prog 98 0 = some 0 ∧ tfield Try.prog 98 1 = some (1, 1) ∧ tfo Try.prog 98 1 = some 1 ∧ tfield Try.prog 98 2 = some (2, 1) ∧ tfo Try.prog 98 2 = some 2 ∧ tfields Try.prog 98 = some [(0, 1), (1, 1), (2, 1)] := by and_intros <;> kernel_rfl
@[go_sem] theorem ty99z : tzero Try.prog 99 = some (.agg #[.int .i32 0, .int .i32 0, .int .i64 0]) := by kernel_rfl
@[go_sem] theorem ty99 : tkind Try.prog 99 = some 7 ∧ tsize Try.prog 99 = some 3 ∧ tbytes Try.prog 99 = some 16 ∧ tagg Try.prog 99 = some true ∧ tflat Try.prog 99 = some [(0, 8), (1, 8), (2, 8)] ∧ tsizeA Try.prog 99 = some 3 ∧ tfield Try.prog 99 0 = some (0, 1) ∧ tfo Try.prog 99 0 = some 0 ∧ tfield Try.prog 99 1 = some (1, 1) ∧ tfo Try.prog 99 1 = some 1 ∧ tfield Try.prog 99 2 = some (2, 1) ∧ tfo Try.prog 99 2 = some 2 ∧ tfields Try.prog 99 = some [(0, 1), (1, 1), (2, 1)] := by and_intros <;> kernel_rfl
@[go_sem] theorem ty100z : tzero Try.prog 100 = some (.agg #[.int .i32 0, .int .i32 0, .int .i64 0, .int .i32 0, .int .i32 0, .int .i64 0, .int .i32 0, .int .i32 0, .int .i64 0, .int .i32 0, .int .i32 0, .int .i64 0, .int .i32 0, .int .i32 0, .int .i64 0, .int .i32 0, .int .i32 0, .int .i64 0, .int .i32 0, .int .i32 0, .int .i64 0, .int .i32 0, .int .i32 0, .int .i64 0, .int .i32 0, .int .i32 0, .int .i64 0, .int .i32 0, .int .i32 0, .int .i64 0, .int .i32 0, .int .i32 0, .int .i64 0, .int .i32 0, .int .i32 0, .int .i64 0, .int .i32 0, .int .i32 0, .int .i64 0, .int .i32 0, .int .i32 0, .int .i64 0, .int .i32 0, .int .i32 0, .int .i64 0, .int .i32 0, .int .i32 0, .int .i64 0]) := by kernel_rfl
@[go_sem] theorem ty100 : tkind Try.prog 100 = some 2 ∧ tsize Try.prog 100 = some 48 ∧ tbytes Try.prog 100 = some 256 ∧ tagg Try.prog 100 = some true ∧ tarr Try.prog 100 = some (16, 3) ∧ tsizeA Try.prog 100 = some 48 ∧ telem Try.prog 100 = some 99 ∧ tlen Try.prog 100 = some 16 := by and_intros <;> kernel_rfl
@[go_sem] theorem ty101z : tzero Try.prog 101 = some (.nilFunc) := by kernel_rfl
@[go_sem] theorem ty101 : tkind Try.prog 101 = some 11 ∧ tsize Try.prog 101 = some 1 ∧ tbytes Try.prog 101 = some 8 ∧ tagg Try.prog 101 = some false := by and_intros <;> kernel_rfl
@[go_sem] theorem ty102z : tzero Try.prog 102 = some (.nilFunc) := by kernel_rfl
@[go_sem] theorem ty102 : tkind Try.prog 102 = some 11 ∧ tsize Try.prog 102 = some 1 ∧ tbytes Try.prog 102 = some 8 ∧ tagg Try.prog 102 = some false := by and_intros <;> kernel_rfl
@[go_sem] theorem ty103z : tzero Try.prog 103 = some (.nilFunc) := by kernel_rfl
@[go_sem] theorem ty103 : tkind Try.prog 103 = some 11 ∧ tsize Try.prog 103 = some 1 ∧ tbytes Try.prog 103 = some 8 ∧ tagg Try.prog 103 = some false := by and_intros <;> kernel_rfl
@[go_sem] theorem ty104z : tzero Try.prog 104 = some (.nilFunc) := by kernel_rfl
@[go_sem] theorem ty104 : tkind Try.prog 104 = some 11 ∧ tsize Try.prog 104 = some 1 ∧ tbytes Try.prog 104 = some 8 ∧ tagg Try.prog 104 = some false := by and_intros <;> kernel_rfl
@[go_sem] theorem ty105z : tzero Try.prog 105 = some (.nilFunc) := by kernel_rfl
@[go_sem] theorem ty105 : tkind Try.prog 105 = some 11 ∧ tsize Try.prog 105 = some 1 ∧ tbytes Try.prog 105 = some 8 ∧ tagg Try.prog 105 = some false := by and_intros <;> kernel_rfl
@[go_sem] theorem ty106z : tzero Try.prog 106 = some (.nilFunc) := by kernel_rfl
@[go_sem] theorem ty106 : tkind Try.prog 106 = some 11 ∧ tsize Try.prog 106 = some 1 ∧ tbytes Try.prog 106 = some 8 ∧ tagg Try.prog 106 = some false := by and_intros <;> kernel_rfl
@[go_sem] theorem ty107z : tzero Try.prog 107 = some (.slice none 0 0) := by kernel_rfl
@[go_sem] theorem ty107sl : tslice Try.prog 107 = some 1 := by kernel_rfl
@[go_sem] theorem ty107ap : tapp Try.prog 107 = some (5, 1, 1) := by kernel_rfl
@[go_sem] theorem ty107mk : tmk Try.prog 107 = some (5, 1, [.int .u8 0], 1) := by kernel_rfl
@[go_sem] theorem ty107 : tkind Try.prog 107 = some 1 ∧ tsize Try.prog 107 = some 1 ∧ tbytes Try.prog 107 = some 24 ∧ tagg Try.prog 107 = some false ∧ tbs Try.prog 107 = some (5, 1, [.int .u8 0]) ∧ telem Try.prog 107 = some 5 := by and_intros <;> kernel_rfl
@[go_sem] theorem ty108z : tzero Try.prog 108 = some (.nilFunc) := by kernel_rfl
@[go_sem] theorem ty108 : tkind Try.prog 108 = some 11 ∧ tsize Try.prog 108 = some 1 ∧ tbytes Try.prog 108 = some 8 ∧ tagg Try.prog 108 = some false := by and_intros <;> kernel_rfl
@[go_sem] theorem ty109z : tzero Try.prog 109 = some (.nilFunc) := by kernel_rfl
@[go_sem] theorem ty109 : tkind Try.prog 109 = some 11 ∧ tsize Try.prog 109 = some 1 ∧ tbytes Try.prog 109 = some 8 ∧ tagg Try.prog 109 = some false := by and_intros <;> kernel_rfl
@[go_sem] theorem ty110z : tzero Try.prog 110 = some (.int .u64 0) := by kernel_rfl
@[go_sem] theorem ty110 : tkind Try.prog 110 = some 8 ∧ tsize Try.prog 110 = some 1 ∧ tbytes Try.prog 110 = some 8 ∧ tagg Try.prog 110 = some false ∧ tint Try.prog 110 = some .u64 := by and_intros <;> kernel_rfl
@[go_sem] theorem ty111z : tzero Try.prog 111 = some (.tuple #[.int .u64 0, .int .u64 0]) := by kernel_rfl
@[go_sem] theorem ty111 : tkind Try.prog 111 = some 0 ∧ tsize Try.prog 111 = some 1 ∧ tbytes Try.prog 111 = some 0 ∧ tagg Try.prog 111 = some false := by and_intros <;> kernel_rfl
@[go_sem] theorem ty112z : tzero Try.prog 112 = some (.nilFunc) := by kernel_rfl
@[go_sem] theorem ty112 : tkind Try.prog 112 = some 11 ∧ tsize Try.prog 112 = some 1 ∧ tbytes Try.prog 112 = some 8 ∧ tagg Try.prog 112 = some false := by and_intros <;> kernel_rfl
@[go_sem] theorem ty113z : tzero Try.prog 113 = some (.nilFunc) := by kernel_rfl
@[go_sem] theorem ty113 : tkind Try.prog 113 = some 11 ∧ tsize Try.prog 113 = some 1 ∧ tbytes Try.prog 113 = some 8 ∧ tagg Try.prog 113 = some false := by and_intros <;> kernel_rfl
@[go_sem] theorem ty114z : tzero Try.prog 114 = some (.pointer none) := by kernel_rfl
@[go_sem] theorem ty114 : tkind Try.prog 114 = some 4 ∧ tsize Try.prog 114 = some 1 ∧ tbytes Try.prog 114 = some 8 ∧ tagg Try.prog 114 = some false ∧ telem Try.prog 114 = some 48 := by and_intros <;> kernel_rfl
@[go_sem] theorem ty115z : tzero Try.prog 115 = some (.nilFunc) := by kernel_rfl
@[go_sem] theorem ty115 : tkind Try.prog 115 = some 11 ∧ tsize Try.prog 115 = some 1 ∧ tbytes Try.prog 115 = some 8 ∧ tagg Try.prog 115 = some false := by and_intros <;> kernel_rfl
@[go_sem] theorem ty116z : tzero Try.prog 116 = some (.tuple #[.int .u8 0, .bool false]) := by kernel_rfl
@[go_sem] theorem ty116 : tkind Try.prog 116 = some 0 ∧ tsize Try.prog 116 = some 1 ∧ tbytes Try.prog 116 = some 0 ∧ tagg Try.prog 116 = some false := by and_intros <;> kernel_rfl
@[go_sem] theorem ty117z : tzero Try.prog 117 = some (.nilFunc) := by kernel_rfl
@[go_sem] theorem ty117 : tkind Try.prog 117 = some 11 ∧ tsize Try.prog 117 = some 1 ∧ tbytes Try.prog 117 = some 8 ∧ tagg Try.prog 117 = some false := by and_intros <;> kernel_rfl
@[go_sem] theorem ty118z : tzero Try.prog 118 = some (.nilFunc) := by kernel_rfl
@[go_sem] theorem ty118 : tkind Try.prog 118 = some 11 ∧ tsize Try.prog 118 = some 1 ∧ tbytes Try.prog 118 = some 8 ∧ tagg Try.prog 118 = some false := by and_intros <;> kernel_rfl
@[go_sem] theorem ty119z : tzero Try.prog 119 = some (.nilFunc) := by kernel_rfl
@[go_sem] theorem ty119 : tkind Try.prog 119 = some 11 ∧ tsize Try.prog 119 = some 1 ∧ tbytes Try.prog 119 = some 8 ∧ tagg Try.prog 119 = some false := by and_intros <;> kernel_rfl
@[go_sem] theorem ty120z : tzero Try.prog 120 = some (.agg #[.int .i64 0, .int .i64 0, .int .i64 0, .int .i64 0]) := by kernel_rfl
@[go_sem] theorem ty120 : tkind Try.prog 120 = some 7 ∧ tsize Try.prog 120 = some 4 ∧ tbytes Try.prog 120 = some 32 ∧ tagg Try.prog 120 = some true ∧ tsizeA Try.prog 120 = some 4 ∧ tfield Try.prog 120 0 = some (0, 1) ∧ tfo Try.prog 120 0 = some 0 ∧ tfield Try.prog 120 1 = some (1, 1) ∧ tfo Try.prog 120 1 = some 1 ∧ tfield Try.prog 120 2 = some (2, 1) ∧ tfo Try.prog 120 2 = some 2 ∧ tfield Try.prog 120 3 = some (3, 1) ∧ tfo Try.prog 120 3 = some 3 ∧ tfields Try.prog 120 = some [(0, 1), (1, 1), (2, 1), (3, 1)] := by and_intros <;> kernel_rfl
@[go_sem] theorem ty121z : tzero Try.prog 121 = some (.agg #[.int .i64 0, .int .i64 0, .int .i64 0, .int .i64 0]) := by kernel_rfl
@[go_sem] theorem ty121 : tkind Try.prog 121 = some 7 ∧ tsize Try.prog 121 = some 4 ∧ tbytes Try.prog 121 = some 32 ∧ tagg Try.prog 121 = some true ∧ tflat Try.prog 121 = some [(0, 8), (1, 8), (2, 8), (3, 8)] ∧ tsizeA Try.prog 121 = some 4 ∧ tfield Try.prog 121 0 = some (0, 1) ∧ tfo Try.prog 121 0 = some 0 ∧ tfield Try.prog 121 1 = some (1, 1) ∧ tfo Try.prog 121 1 = some 1 ∧ tfield Try.prog 121 2 = some (2, 1) ∧ tfo Try.prog 121 2 = some 2 ∧ tfield Try.prog 121 3 = some (3, 1) ∧ tfo Try.prog 121 3 = some 3 ∧ tfields Try.prog 121 = some [(0, 1), (1, 1), (2, 1), (3, 1)] := by and_intros <;> kernel_rfl
@[go_sem] theorem ty122z : tzero Try.prog 122 = some (.int .u32 0) := by kernel_rfl
@[go_sem] theorem ty122 : tkind Try.prog 122 = some 8 ∧ tsize Try.prog 122 = some 1 ∧ tbytes Try.prog 122 = some 4 ∧ tagg Try.prog 122 = some false ∧ tint Try.prog 122 = some .u32 := by and_intros <;> kernel_rfl
@[go_sem] theorem ty123z : tzero Try.prog 123 = some (.tuple #[.int .u32 0, .int .u32 0]) := by kernel_rfl
@[go_sem] theorem ty123 : tkind Try.prog 123 = some 0 ∧ tsize Try.prog 123 = some 1 ∧ tbytes Try.prog 123 = some 0 ∧ tagg Try.prog 123 = some false := by and_intros <;> kernel_rfl
@[go_sem] theorem ty124z : tzero Try.prog 124 = some (.nilFunc) := by kernel_rfl
@[go_sem] theorem ty124 : tkind Try.prog 124 = some 11 ∧ tsize Try.prog 124 = some 1 ∧ tbytes Try.prog 124 = some 8 ∧ tagg Try.prog 124 = some false := by and_intros <;> kernel_rfl
@[go_sem] theorem ty125z : tzero Try.prog 125 = some (.int .u64 0) := by kernel_rfl
@[go_sem] theorem ty125 : tkind Try.prog 125 = some 8 ∧ tsize Try.prog 125 = some 1 ∧ tbytes Try.prog 125 = some 8 ∧ tagg Try.prog 125 = some false ∧ tint Try.prog 125 = some .u64 := by and_intros <;> kernel_rfl
@[go_sem] theorem ty126z : tzero Try.prog 126 = some (.tuple #[.int .u64 0, .int .u64 0]) := by kernel_rfl
@[go_sem] theorem ty126 : tkind Try.prog 126 = some 0 ∧ tsize Try.prog 126 = some 1 ∧ tbytes Try.prog 126 = some 0 ∧ tagg Try.prog 126 = some false := by and_intros <;> kernel_rfl
@[go_sem] theorem ty127z : tzero Try.prog 127 = some (.nilFunc) := by kernel_rfl
@[go_sem] theorem ty127 : tkind Try.prog 127 = some 11 ∧ tsize Try.prog 127 = some 1 ∧ tbytes Try.prog 127 = some 8 ∧ tagg Try.prog 127 = some false := by and_intros <;> kernel_rfl
@[go_sem] theorem ty128z : tzero Try.prog 128 = some (.nilFunc) := by kernel_rfl
@[go_sem] theorem ty128 : tkind Try.prog 128 = some 11 ∧ tsize Try.prog 128 = some 1 ∧ tbytes Try.prog 128 = some 8 ∧ tagg Try.prog 128 = some false := by and_intros <;> kernel_rfl
@[go_sem] theorem ty129z : tzero Try.prog 129 = some (.nilFunc) := by kernel_rfl
@[go_sem] theorem ty129 : tkind Try.prog 129 = some 11 ∧ tsize Try.prog 129 = some 1 ∧ tbytes Try.prog 129 = some 8 ∧ tagg Try.prog 129 = some false := by and_intros <;> kernel_rfl
@[go_sem] theorem ty130z : tzero Try.prog 130 = some (.nilFunc) := by kernel_rfl
@[go_sem] theorem ty130 : tkind Try.prog 130 = some 11 ∧ tsize Try.prog 130 = some 1 ∧ tbytes Try.prog 130 = some 8 ∧ tagg Try.prog 130 = some false := by and_intros <;> kernel_rfl
@[go_sem] theorem ty131z : tzero Try.prog 131 = some (.agg #[.int .u8 0, .int .u8 0, .int .u8 0, .int .u8 0, .int .u8 0, .int .u8 0, .int .u8 0, .int .u8 0]) := by kernel_rfl
@[go_sem] theorem ty131 : tkind Try.prog 131 = some 2 ∧ tsize Try.prog 131 = some 8 ∧ tbytes Try.prog 131 = some 8 ∧ tagg Try.prog 131 = some true ∧ tarr Try.prog 131 = some (8, 1) ∧ tsizeA Try.prog 131 = some 8 ∧ telem Try.prog 131 = some 5 ∧ tlen Try.prog 131 = some 8 := by and_intros <;> kernel_rfl
@[go_sem] theorem ty132z : tzero Try.prog 132 = some (.nilFunc) := by kernel_rfl
@[go_sem] theorem ty132 : tkind Try.prog 132 = some 11 ∧ tsize Try.prog 132 = some 1 ∧ tbytes Try.prog 132 = some 8 ∧ tagg Try.prog 132 = some false := by and_intros <;> kernel_rfl
@[go_sem] theorem ty133z : tzero Try.prog 133 = some (.nilFunc) := by kernel_rfl
@[go_sem] theorem ty133 : tkind Try.prog 133 = some 11 ∧ tsize Try.prog 133 = some 1 ∧ tbytes Try.prog 133 = some 8 ∧ tagg Try.prog 133 = some false := by and_intros <;> kernel_rfl
@[go_sem] theorem ty134z : tzero Try.prog 134 = some (.nilFunc) := by kernel_rfl
@[go_sem] theorem ty134 : tkind Try.prog 134 = some 11 ∧ tsize Try.prog 134 = some 1 ∧ tbytes Try.prog 134 = some 8 ∧ tagg Try.prog 134 = some false := by and_intros <;> kernel_rfl
@[go_sem] theorem ty135z : tzero Try.prog 135 = some (.agg #[.pointer none, .pointer none, .pointer none, .string ⟨#[]⟩]) := by kernel_rfl
@[go_sem] theorem ty135 : tkind Try.prog 135 = some 7 ∧ tsize Try.prog 135 = some 4 ∧ tbytes Try.prog 135 = some 40 ∧ tagg Try.prog 135 = some true ∧ tsizeA Try.prog 135 = some 4 ∧ tfield Try.prog 135 0 = some (0, 1) ∧ tfo Try.prog 135 0 = some 0 ∧ tfield Try.prog 135 1 = some (1, 1) ∧ tfo Try.prog 135 1 = some 1 ∧ tfield Try.prog 135 2 = some (2, 1) ∧ tfo Try.prog 135 2 = some 2 ∧ tfield Try.prog 135 3 = some (3, 1) ∧ tfo Try.prog 135 3 = some 3 ∧ tfields Try.prog 135 = some [(0, 1), (1, 1), (2, 1), (3, 1)] := by and_intros <;> kernel_rfl
@[go_sem] theorem ty136z : tzero Try.prog 136 = some (.agg #[.pointer none, .pointer none, .pointer none, .string ⟨#[]⟩]) := by kernel_rfl
@[go_sem] theorem ty136 : tkind Try.prog 136 = some 7 ∧ tsize Try.prog 136 = some 4 ∧ tbytes Try.prog 136 = some 40 ∧ tagg Try.prog 136 = some true ∧ tsizeA Try.prog 136 = some 4 ∧ tfield Try.prog 136 0 = some (0, 1) ∧ tfo Try.prog 136 0 = some 0 ∧ tfield Try.prog 136 1 = some (1, 1) ∧ tfo Try.prog 136 1 = some 1 ∧ tfield Try.prog 136 2 = some (2, 1) ∧ tfo Try.prog 136 2 = some 2 ∧ tfield Try.prog 136 3 = some (3, 1) ∧ tfo Try.prog 136 3 = some 3 ∧ tfields Try.prog 136 = some [(0, 1), (1, 1), (2, 1), (3, 1)] := by and_intros <;> kernel_rfl
@[go_sem] theorem ty137z : tzero Try.prog 137 = some (.agg #[]) := by kernel_rfl
@[go_sem] theorem ty137 : tkind Try.prog 137 = some 2 ∧ tsize Try.prog 137 = some 0 ∧ tbytes Try.prog 137 = some 0 ∧ tagg Try.prog 137 = some true ∧ tarr Try.prog 137 = some (0, 1) ∧ tsizeA Try.prog 137 = some 0 ∧ telem Try.prog 137 = some 16 ∧ tlen Try.prog 137 = some 0 := by and_intros <;> kernel_rfl
@[go_sem] theorem ty138z : tzero Try.prog 138 = some (.agg #[]) := by kernel_rfl
@[go_sem] theorem ty138 : tkind Try.prog 138 = some 7 ∧ tsize Try.prog 138 = some 0 ∧ tbytes Try.prog 138 = some 0 ∧ tagg Try.prog 138 = some true ∧ tsizeA Try.prog 138 = some 0 ∧ tfield Try.prog 138 0 = some (0, 0) ∧ tfields Try.prog 138 = some [(0, 0)] := by and_intros <;> kernel_rfl
@[go_sem] theorem ty139z : tzero Try.prog 139 = some (.agg #[]) := by kernel_rfl
@[go_sem] theorem ty139 : tkind Try.prog 139 = some 7 ∧ tsize Try.prog 139 = some 0 ∧ tbytes Try.prog 139 = some 0 ∧ tagg Try.prog 139 = some true ∧ tsizeA Try.prog 139 = some 0 ∧ tfield Try.prog 139 0 = some (0, 0) ∧ tfields Try.prog 139 = some [(0, 0)] := by and_intros <;> kernel_rfl
@[go_sem] theorem ty140z : tzero Try.prog 140 = some (.nilFunc) := by kernel_rfl
@[go_sem] theorem ty140 : tkind Try.prog 140 = some 11 ∧ tsize Try.prog 140 = some 1 ∧ tbytes Try.prog 140 = some 8 ∧ tagg Try.prog 140 = some false := by and_intros <;> kernel_rfl
@[go_sem] theorem ty141z : tzero Try.prog 141 = some (.int .u8 0) := by kernel_rfl
@[go_sem] theorem ty141 : tkind Try.prog 141 = some 8 ∧ tsize Try.prog 141 = some 1 ∧ tbytes Try.prog 141 = some 1 ∧ tagg Try.prog 141 = some false ∧ tint Try.prog 141 = some .u8 := by and_intros <;> kernel_rfl
@[go_sem] theorem ty142z : tzero Try.prog 142 = some (.int .u8 0) := by kernel_rfl
@[go_sem] theorem ty142 : tkind Try.prog 142 = some 8 ∧ tsize Try.prog 142 = some 1 ∧ tbytes Try.prog 142 = some 1 ∧ tagg Try.prog 142 = some false ∧ tint Try.prog 142 = some .u8 := by and_intros <;> kernel_rfl
@[go_sem] theorem ty143z : tzero Try.prog 143 = some (.nilFunc) := by kernel_rfl
@[go_sem] theorem ty143 : tkind Try.prog 143 = some 11 ∧ tsize Try.prog 143 = some 1 ∧ tbytes Try.prog 143 = some 8 ∧ tagg Try.prog 143 = some false := by and_intros <;> kernel_rfl
@[go_sem] theorem ty144z : tzero Try.prog 144 = some (.pointer none) := by kernel_rfl
@[go_sem] theorem ty144 : tkind Try.prog 144 = some 4 ∧ tsize Try.prog 144 = some 1 ∧ tbytes Try.prog 144 = some 8 ∧ tagg Try.prog 144 = some false ∧ telem Try.prog 144 = some 5 := by and_intros <;> kernel_rfl
@[go_sem] theorem ty145z : tzero Try.prog 145 = some (.int .i32 0) := by kernel_rfl
@[go_sem] theorem ty145 : tkind Try.prog 145 = some 8 ∧ tsize Try.prog 145 = some 1 ∧ tbytes Try.prog 145 = some 4 ∧ tagg Try.prog 145 = some false ∧ tint Try.prog 145 = some .i32 := by and_intros <;> kernel_rfl
@[go_sem] theorem ty146z : tzero Try.prog 146 = some (.int .i32 0) := by kernel_rfl
@[go_sem] theorem ty146 : tkind Try.prog 146 = some 8 ∧ tsize Try.prog 146 = some 1 ∧ tbytes Try.prog 146 = some 4 ∧ tagg Try.prog 146 = some false ∧ tint Try.prog 146 = some .i32 := by and_intros <;> kernel_rfl
@[go_sem] theorem ty147z : tzero Try.prog 147 = some (.agg #[.int .u64 0, .int .u64 0, .int .u32 0, .int .u8 0, .int .u8 0, .int .u8 0, .int .u8 0, .nilFunc, .pointer none, .int .i32 0, .int .i32 0]) := by kernel_rfl
@[go_sem] theorem ty147 : tkind Try.prog 147 = some 7 ∧ tsize Try.prog 147 = some 11 ∧ tbytes Try.prog 147 = some 48 ∧ tagg Try.prog 147 = some true ∧ tsizeA Try.prog 147 = some 11 ∧ tfield Try.prog 147 0 = some (0, 1) ∧ tfo Try.prog 147 0 = some 0 ∧ tfield Try.prog 147 1 = some (1, 1) ∧ tfo Try.prog 147 1 = some 1 ∧ tfield Try.prog 147 2 = some (2, 1) ∧ tfo Try.prog 147 2 = some 2 ∧ tfield Try.prog 147 3 = some (3, 1) ∧ tfo Try.prog 147 3 = some 3 ∧ tfield Try.prog 147 4 = some (4, 1) ∧ tfo Try.prog 147 4 = some 4 ∧ tfield Try.prog 147 5 = some (5, 1) ∧ tfo Try.prog 147 5 = some 5 ∧ tfield Try.prog 147 6 = some (6, 1) ∧ tfo Try.prog 147 6 = some 6 ∧ tfield Try.prog 147 7 = some (7, 1) ∧ tfo Try.prog 147 7 = some 7 ∧ tfield Try.prog 147 8 = some (8, 1) ∧ tfo Try.prog 147 8 = some 8 ∧ tfield Try.prog 147 9 = some (9, 1) ∧ tfo Try.prog 147 9 = some 9 ∧ tfield Try.prog 147 10 = some (10, 1) ∧ tfo Try.prog 147 10 = some 10 ∧ tfields Try.prog 147 = some [(0, 1), (1, 1), (2, 1), (3, 1), (4, 1), (5, 1), (6, 1), (7, 1), (8, 1), (9, 1), (10, 1)] := by and_intros <;> kernel_rfl
@[go_sem] theorem ty148z : tzero Try.prog 148 = some (.agg #[.int .u64 0, .int .u64 0, .int .u32 0, .int .u8 0, .int .u8 0, .int .u8 0, .int .u8 0, .nilFunc, .pointer none, .int .i32 0, .int .i32 0]) := by kernel_rfl
@[go_sem] theorem ty148 : tkind Try.prog 148 = some 7 ∧ tsize Try.prog 148 = some 11 ∧ tbytes Try.prog 148 = some 48 ∧ tagg Try.prog 148 = some true ∧ tsizeA Try.prog 148 = some 11 ∧ tfield Try.prog 148 0 = some (0, 1) ∧ tfo Try.prog 148 0 = some 0 ∧ tfield Try.prog 148 1 = some (1, 1) ∧ tfo Try.prog 148 1 = some 1 ∧ tfield Try.prog 148 2 = some (2, 1) ∧ tfo Try.prog 148 2 = some 2 ∧ tfield Try.prog 148 3 = some (3, 1) ∧ tfo Try.prog 148 3 = some 3 ∧ tfield Try.prog 148 4 = some (4, 1) ∧ tfo Try.prog 148 4 = some 4 ∧ tfield Try.prog 148 5 = some (5, 1) ∧ tfo Try.prog 148 5 = some 5 ∧ tfield Try.prog 148 6 = some (6, 1) ∧ tfo Try.prog 148 6 = some 6 ∧ tfield Try.prog 148 7 = some (7, 1) ∧ tfo Try.prog 148 7 = some 7 ∧ tfield Try.prog 148 8 = some (8, 1) ∧ tfo Try.prog 148 8 = some 8 ∧ tfield Try.prog 148 9 = some (9, 1) ∧ tfo Try.prog 148 9 = some 9 ∧ tfield Try.prog 148 10 = some (10, 1) ∧ tfo Try.prog 148 10 = some 10 ∧ tfields Try.prog 148 = some [(0, 1), (1, 1), (2, 1), (3, 1), (4, 1), (5, 1), (6, 1), (7, 1), (8, 1), (9, 1), (10, 1)] := by and_intros <;> kernel_rfl
@[go_sem] theorem ty149z : tzero Try.prog 149 = some (.pointer none) := by kernel_rfl
@[go_sem] theorem ty149 : tkind Try.prog 149 = some 0 ∧ tsize Try.prog 149 = some 1 ∧ tbytes Try.prog 149 = some 8 ∧ tagg Try.prog 149 = some false := by and_intros <;> kernel_rfl
@[go_sem] theorem ty39q0 : tftype Try.prog 39 0 = some 21 := by kernel_rfl
@[go_sem] theorem ty39q1 : tftype Try.prog 39 1 = some 5 := by kernel_rfl
@[go_sem] theorem ty48q0 : tftype Try.prog 48 0 = some 3 := by kernel_rfl
end Go.Proofs.Ytjfembffjjijaaa
namespace Go.Proofs.Ytjfembffjjijaaa
open Lyc Go
set_option maxRecDepth 100000
def lyceumref07_Parser_Feed (p0 p1 : Value) (K : Value → World → Prop) : World → Prop :=
  Loop2 (.slice none 0 0) (.int .i64 0) fun t5 t6 next1 =>
  xU p1 24 fun t10 =>
  xO .lss 3 t6 t10 fun t11 =>
  xW t11
  (Join1 (fun k2 =>
  xI 24 p1 t6 fun t17 =>
  xL 21 t17 fun t18 =>
  xC 59 [.const p0, .const t18] [68, 21] 35 fun t19 =>
  xA 35 fun t7 =>
  xS 35 t7 t19 <|
  xF 35 t7 0 fun t20 =>
  xL 3 t20 fun t21 =>
  xO .neq 3 t21 (.int .i64 0) fun t22 =>
  xW t22
  (xL 35 t7 fun t24 =>
  OpX Try.prog (.buildSlice 31 1 #[(0, .const t24)]) 31 fun t25 =>
  OpX Try.prog (.call { callee := .builtin .append, args := #[.const t5, .const t25], argTypes := #[31, 31] }) 31 fun t26 =>
  k2 t26) <|
  k2 t5) fun t5_1 =>
  xO .add 3 t6 (.int .i64 1) fun t13 =>
  next1 t5_1 t13) <|
  K t5
theorem lyceumref07_Parser_Feed_link (p0 p1 : Value) : Lk 31 #[p0, p1] (lyceumref07_Parser_Feed p0 p1) := lk [p0, p1] [(8, [5, 6]), (15, [5])] Try.func31 (by kernel_rfl) fun _ _ => by kernel_rfl
theorem lyceumref07_Parser_Feed_b : Bodied Try.prog 31 := bd Try.func31 (by kernel_rfl)
def lyceumref07_Parser_Step (p0 p1 : Value) (K : Value → World → Prop) : World → Prop :=
  xA 35 fun t4 =>
  xO .eql 21 p1 (.int .i32 27) fun t6 =>
  xW t6
  (OpX Try.prog (.nilCheck (.const p0)) 0 fun t8 =>
  xF 70 t8 0 fun t9 =>
  xS 3 t9 (.int .i64 1) <|
  OpX Try.prog (.build 35 #[]) 35 fun t11 =>
  OpX Try.prog (.nilCheck (.const p0)) 0 fun t12 =>
  xF 70 t12 1 fun t13 =>
  xS 35 t13 t11 <|
  OpX Try.prog (.nilCheck (.const p0)) 0 fun t15 =>
  xF 70 t15 2 fun t16 =>
  xS 4 t16 (.bool false) <|
  OpX Try.prog (.build 35 #[]) 35 fun t17 =>
  xS 35 t4 t17 <|
  xD 35 t4 fun t4_1 =>
  K t4_1) <|
  Join1 (fun k1 =>
  xO .eql 21 p1 (.int .i32 24) fun t19 =>
  xW t19
  (k1 (.bool true)) <|
  xO .eql 21 p1 (.int .i32 26) fun t22 =>
  k1 t22) fun t23 =>
  xW t23
  (OpX Try.prog (.nilCheck (.const p0)) 0 fun t25 =>
  xF 70 t25 0 fun t26 =>
  xS 3 t26 (.int .i64 0) <|
  OpX Try.prog (.build 35 #[]) 35 fun t27 =>
  xS 35 t4 t27 <|
  xD 35 t4 fun t4_2 =>
  K t4_2) <|
  Join1 (fun k2 =>
  xO .lss 21 p1 (.int .i32 0) fun t29 =>
  xW t29
  (k2 (.bool true)) <|
  xO .gtr 21 p1 (.int .i32 1114111) fun t32 =>
  xW t32
  (k2 (.bool true)) <|
  xO .geq 21 p1 (.int .i32 127) fun t36 =>
  xW t36
  (xO .leq 21 p1 (.int .i32 159) fun t39 =>
  k2 t39) <|
  k2 (.bool false)) fun t41 =>
  xW t41
  (OpX Try.prog (.build 35 #[]) 35 fun t42 =>
  xS 35 t4 t42 <|
  xD 35 t4 fun t4_3 =>
  K t4_3) <|
  xO .lss 21 p1 (.int .i32 32) fun t44 =>
  xW t44
  (OpX Try.prog (.nilCheck (.const p0)) 0 fun t46 =>
  xF 70 t46 0 fun t47 =>
  xL 3 t47 fun t48 =>
  xO .neq 3 t48 (.int .i64 4) fun t49 =>
  xW t49
  (OpX Try.prog (.build 35 #[(0, .const (.int .i64 2)), (1, .const p1)]) 35 fun t51 =>
  xS 35 t4 t51 <|
  xD 35 t4 fun t4_4 =>
  K t4_4) <|
  Join0 (fun k3 =>
  xO .eql 21 p1 (.int .i32 7) fun t53 =>
  xW t53
  (OpX Try.prog (.nilCheck (.const p0)) 0 fun t55 =>
  xF 70 t55 0 fun t56 =>
  xS 3 t56 (.int .i64 0) <|
  k3) <|
  k3) <|
  OpX Try.prog (.build 35 #[]) 35 fun t57 =>
  xS 35 t4 t57 <|
  xD 35 t4 fun t4_5 =>
  K t4_5) <|
  Join0 (fun k4 =>
  OpX Try.prog (.nilCheck (.const p0)) 0 fun t59 =>
  xF 70 t59 0 fun t60 =>
  xL 3 t60 fun t61 =>
  xO .eql 3 t61 (.int .i64 0) fun t63 =>
  xW t63
  (OpX Try.prog (.build 35 #[(0, .const (.int .i64 1)), (1, .const p1)]) 35 fun t65 =>
  xS 35 t4 t65 <|
  xD 35 t4 fun t4_6 =>
  K t4_6) <|
  xO .eql 3 t61 (.int .i64 1) fun t67 =>
  xW t67
  (xC 83 [.const p0, .const p1] [68, 21] 35 fun t70 =>
  xS 35 t4 t70 <|
  xD 35 t4 fun t4_7 =>
  K t4_7) <|
  xO .eql 3 t61 (.int .i64 2) fun t72 =>
  xW t72
  (xC 84 [.const p0, .const p1] [68, 21] 35 fun t75 =>
  xS 35 t4 t75 <|
  xD 35 t4 fun t4_8 =>
  K t4_8) <|
  xO .eql 3 t61 (.int .i64 3) fun t77 =>
  xW t77
  (Join1 (fun k5 =>
  xO .geq 21 p1 (.int .i32 64) fun t79 =>
  xW t79
  (xO .leq 21 p1 (.int .i32 126) fun t82 =>
  k5 t82) <|
  k5 (.bool false)) fun t83 =>
  xW t83
  (OpX Try.prog (.nilCheck (.const p0)) 0 fun t85 =>
  xF 70 t85 0 fun t86 =>
  xS 3 t86 (.int .i64 0) <|
  k4) <|
  k4) <|
  k4) <|
  OpX Try.prog (.build 35 #[]) 35 fun t87 =>
  xS 35 t4 t87 <|
  xD 35 t4 fun t4_9 =>
  K t4_9
theorem lyceumref07_Parser_Step_link (p0 p1 : Value) : Lk 59 #[p0, p1] (lyceumref07_Parser_Step p0 p1) := lk [p0, p1] [(18, [23]), (28, [41]), (46, []), (56, []), (82, [83])] Try.func59 (by kernel_rfl) fun _ _ => by kernel_rfl
theorem lyceumref07_Parser_Step_b : Bodied Try.prog 59 := bd Try.func59 (by kernel_rfl)
def lyceumref07_Parser_escape (p0 p1 : Value) (K : Value → World → Prop) : World → Prop :=
  xA 35 fun t4 =>
  xO .leq 21 p1 (.int .i32 47) fun t6 =>
  xW t6
  (Join0 (fun k1 =>
  OpX Try.prog (.nilCheck (.const p0)) 0 fun t8 =>
  xF 70 t8 1 fun t9 =>
  xF 35 t9 3 fun t10 =>
  xL 5 t10 fun t11 =>
  xO .eql 5 t11 (.int .u8 0) fun t12 =>
  xW t12
  (OpX Try.prog (.convert 21 5 (.const p1)) 5 fun t15 =>
  OpX Try.prog (.nilCheck (.const p0)) 0 fun t16 =>
  xF 70 t16 1 fun t17 =>
  xF 35 t17 3 fun t18 =>
  xS 5 t18 t15 <|
  k1) <|
  OpX Try.prog (.nilCheck (.const p0)) 0 fun t20 =>
  xF 70 t20 1 fun t21 =>
  xF 35 t21 3 fun t22 =>
  xS 5 t22 (.int .u8 255) <|
  k1) <|
  OpX Try.prog (.build 35 #[]) 35 fun t23 =>
  xS 35 t4 t23 <|
  xD 35 t4 fun t4_1 =>
  K t4_1) <|
  Join1 (fun k2 =>
  OpX Try.prog (.nilCheck (.const p0)) 0 fun t25 =>
  xF 70 t25 1 fun t26 =>
  xF 35 t26 3 fun t27 =>
  xL 5 t27 fun t28 =>
  xO .eql 5 t28 (.int .u8 0) fun t29 =>
  xW t29
  (xO .eql 21 p1 (.int .i32 91) fun t32 =>
  k2 t32) <|
  k2 (.bool false)) fun t33 =>
  xW t33
  (OpX Try.prog (.nilCheck (.const p0)) 0 fun t35 =>
  xF 70 t35 0 fun t36 =>
  xS 3 t36 (.int .i64 2) <|
  OpX Try.prog (.build 35 #[]) 35 fun t37 =>
  xS 35 t4 t37 <|
  xD 35 t4 fun t4_2 =>
  K t4_2) <|
  Join1 (fun k3 =>
  OpX Try.prog (.nilCheck (.const p0)) 0 fun t39 =>
  xF 70 t39 1 fun t40 =>
  xF 35 t40 3 fun t41 =>
  xL 5 t41 fun t42 =>
  xO .eql 5 t42 (.int .u8 0) fun t43 =>
  xW t43
  (xO .eql 21 p1 (.int .i32 80) fun t46 =>
  xW t46
  (k3 (.bool true)) <|
  xO .eql 21 p1 (.int .i32 88) fun t49 =>
  xW t49
  (k3 (.bool true)) <|
  xO .geq 21 p1 (.int .i32 93) fun t53 =>
  xW t53
  (xO .leq 21 p1 (.int .i32 95) fun t56 =>
  k3 t56) <|
  k3 (.bool false)) <|
  k3 (.bool false)) fun t59 =>
  xW t59
  (OpX Try.prog (.nilCheck (.const p0)) 0 fun t61 =>
  xF 70 t61 0 fun t62 =>
  xS 3 t62 (.int .i64 4) <|
  OpX Try.prog (.build 35 #[]) 35 fun t63 =>
  xS 35 t4 t63 <|
  xD 35 t4 fun t4_3 =>
  K t4_3) <|
  OpX Try.prog (.nilCheck (.const p0)) 0 fun t65 =>
  xF 70 t65 0 fun t66 =>
  xS 3 t66 (.int .i64 0) <|
  Join1 (fun k4 =>
  xO .gtr 21 p1 (.int .i32 126) fun t68 =>
  xW t68
  (k4 (.bool true)) <|
  OpX Try.prog (.nilCheck (.const p0)) 0 fun t71 =>
  xF 70 t71 1 fun t72 =>
  xF 35 t72 3 fun t73 =>
  xL 5 t73 fun t74 =>
  xO .eql 5 t74 (.int .u8 255) fun t75 =>
  k4 t75) fun t76 =>
  xW t76
  (OpX Try.prog (.build 35 #[]) 35 fun t77 =>
  xS 35 t4 t77 <|
  xD 35 t4 fun t4_4 =>
  K t4_4) <|
  OpX Try.prog (.nilCheck (.const p0)) 0 fun t80 =>
  xF 70 t80 1 fun t81 =>
  xF 35 t81 3 fun t82 =>
  xL 5 t82 fun t83 =>
  OpX Try.prog (.build 35 #[(0, .const (.int .i64 3)), (1, .const p1), (3, .const t83)]) 35 fun t84 =>
  xS 35 t4 t84 <|
  xD 35 t4 fun t4_5 =>
  K t4_5
theorem lyceumref07_Parser_escape_link (p0 p1 : Value) : Lk 83 #[p0, p1] (lyceumref07_Parser_escape p0 p1) := lk [p0, p1] [(6, []), (18, [33]), (28, [59]), (40, [76])] Try.func83 (by kernel_rfl) fun _ _ => by kernel_rfl
theorem lyceumref07_Parser_escape_b : Bodied Try.prog 83 := bd Try.func83 (by kernel_rfl)
def lyceumref07_Parser_csi (p0 p1 : Value) (K : Value → World → Prop) : World → Prop :=
  xA 35 fun t4 =>
  OpX Try.prog (.nilCheck (.const p0)) 0 fun t9 =>
  xF 70 t9 2 fun t10 =>
  xL 4 t10 fun t11 =>
  OpX Try.prog (.nilCheck (.const p0)) 0 fun t13 =>
  xF 70 t13 2 fun t14 =>
  xS 4 t14 (.bool true) <|
  Join1 (fun k1 =>
  xO .geq 21 p1 (.int .i32 48) fun t16 =>
  xW t16
  (xO .leq 21 p1 (.int .i32 57) fun t19 =>
  xW t19
  (OpX Try.prog (.nilCheck (.const p0)) 0 fun t23 =>
  xF 70 t23 1 fun t24 =>
  xF 35 t24 3 fun t25 =>
  xL 5 t25 fun t26 =>
  xO .eql 5 t26 (.int .u8 0) fun t27 =>
  k1 t27) <|
  k1 (.bool false)) <|
  k1 (.bool false)) fun t28 =>
  xW t28
  (Join0 (fun k2 =>
  OpX Try.prog (.nilCheck (.const p0)) 0 fun t30 =>
  xF 70 t30 1 fun t31 =>
  xF 35 t31 4 fun t32 =>
  xL 3 t32 fun t33 =>
  xO .eql 3 t33 (.int .i64 0) fun t34 =>
  xW t34
  (OpX Try.prog (.nilCheck (.const p0)) 0 fun t36 =>
  xF 70 t36 1 fun t37 =>
  xF 35 t37 4 fun t38 =>
  xS 3 t38 (.int .i64 1) <|
  k2) <|
  k2) <|
  Join0 (fun k3 =>
  OpX Try.prog (.nilCheck (.const p0)) 0 fun t40 =>
  xF 70 t40 1 fun t41 =>
  xF 35 t41 4 fun t42 =>
  xL 3 t42 fun t43 =>
  xO .leq 3 t43 (.int .i64 8) fun t44 =>
  xW t44
  (DrewW <|
  xP (.nilCheck (.const p0)) 0 fun t47 =>
  qF 70 t47 1 fun t48 =>
  qF 35 t48 4 fun t49 =>
  qL 3 t49 fun t50 =>
  qP .sub 3 t50 (.int .i64 1) fun t51 =>
  xP (.nilCheck (.const p0)) 0 fun t52 =>
  qF 70 t52 1 fun t53 =>
  qF 35 t53 5 fun t54 =>
  xP (.indexAddr 33 (.const t54) (.const t51)) 0 fun t55 =>
  qL 3 t55 fun t56 =>
  qP .mul 3 t56 (.int .i64 10) fun t57 =>
  qP .sub 21 p1 (.int .i32 48) fun t59 =>
  xP (.convert 21 3 (.const t59)) 3 fun t60 =>
  qP .add 3 t57 t60 fun t61 =>
  Join1 (fun k4 =>
  xO .gtr 3 t61 (.int .i64 9999) fun t63 =>
  xW t63
  (k4 (.int .i64 9999)) <|
  k4 t61) fun t6 =>
  DrewW <|
  xP (.nilCheck (.const p0)) 0 fun t66 =>
  qF 70 t66 1 fun t67 =>
  qF 35 t67 4 fun t68 =>
  qL 3 t68 fun t69 =>
  qP .sub 3 t69 (.int .i64 1) fun t70 =>
  xP (.nilCheck (.const p0)) 0 fun t72 =>
  qF 70 t72 1 fun t73 =>
  qF 35 t73 5 fun t74 =>
  xP (.indexAddr 33 (.const t74) (.const t70)) 0 fun t75 =>
  xS 3 t75 t6 <|
  k3) <|
  k3) <|
  OpX Try.prog (.build 35 #[]) 35 fun t76 =>
  xS 35 t4 t76 <|
  xD 35 t4 fun t4_1 =>
  K t4_1) <|
  Join1 (fun k5 =>
  xO .eql 21 p1 (.int .i32 58) fun t78 =>
  xW t78
  (OpX Try.prog (.nilCheck (.const p0)) 0 fun t85 =>
  xF 70 t85 1 fun t86 =>
  xF 35 t86 3 fun t87 =>
  xL 5 t87 fun t88 =>
  xO .eql 5 t88 (.int .u8 0) fun t89 =>
  k5 t89) <|
  xO .eql 21 p1 (.int .i32 59) fun t81 =>
  xW t81
  (OpX Try.prog (.nilCheck (.const p0)) 0 fun t85_1 =>
  xF 70 t85_1 1 fun t86_1 =>
  xF 35 t86_1 3 fun t87_1 =>
  xL 5 t87_1 fun t88_1 =>
  xO .eql 5 t88_1 (.int .u8 0) fun t89_1 =>
  k5 t89_1) <|
  k5 (.bool false)) fun t90 =>
  xW t90
  (Join0 (fun k6 =>
  OpX Try.prog (.nilCheck (.const p0)) 0 fun t92 =>
  xF 70 t92 1 fun t93 =>
  xF 35 t93 4 fun t94 =>
  xL 3 t94 fun t95 =>
  xO .eql 3 t95 (.int .i64 0) fun t96 =>
  xW t96
  (OpX Try.prog (.nilCheck (.const p0)) 0 fun t98 =>
  xF 70 t98 1 fun t99 =>
  xF 35 t99 4 fun t100 =>
  xS 3 t100 (.int .i64 1) <|
  k6) <|
  k6) <|
  Join0 (fun k7 =>
  OpX Try.prog (.nilCheck (.const p0)) 0 fun t102 =>
  xF 70 t102 1 fun t103 =>
  xF 35 t103 4 fun t104 =>
  xL 3 t104 fun t105 =>
  xO .leq 3 t105 (.int .i64 8) fun t106 =>
  xW t106
  (OpX Try.prog (.nilCheck (.const p0)) 0 fun t108 =>
  xF 70 t108 1 fun t109 =>
  xF 35 t109 4 fun t110 =>
  xL 3 t110 fun t111 =>
  xO .add 3 t111 (.int .i64 1) fun t112 =>
  OpX Try.prog (.nilCheck (.const p0)) 0 fun t113 =>
  xF 70 t113 1 fun t114 =>
  xF 35 t114 4 fun t115 =>
  xS 3 t115 t112 <|
  k7) <|
  k7) <|
  OpX Try.prog (.build 35 #[]) 35 fun t116 =>
  xS 35 t4 t116 <|
  xD 35 t4 fun t4_2 =>
  K t4_2) <|
  Join1 (fun k8 =>
  xO .geq 21 p1 (.int .i32 60) fun t118 =>
  xW t118
  (xO .leq 21 p1 (.int .i32 63) fun t121 =>
  xW t121
  (xN 4 t11 fun t125 =>
  k8 t125) <|
  k8 (.bool false)) <|
  k8 (.bool false)) fun t126 =>
  xW t126
  (OpX Try.prog (.convert 21 5 (.const p1)) 5 fun t129 =>
  OpX Try.prog (.nilCheck (.const p0)) 0 fun t130 =>
  xF 70 t130 1 fun t131 =>
  xF 35 t131 2 fun t132 =>
  xS 5 t132 t129 <|
  OpX Try.prog (.build 35 #[]) 35 fun t133 =>
  xS 35 t4 t133 <|
  xD 35 t4 fun t4_3 =>
  K t4_3) <|
  Join1 (fun k9 =>
  xO .leq 21 p1 (.int .i32 47) fun t135 =>
  xW t135
  (OpX Try.prog (.nilCheck (.const p0)) 0 fun t138 =>
  xF 70 t138 1 fun t139 =>
  xF 35 t139 3 fun t140 =>
  xL 5 t140 fun t141 =>
  xO .eql 5 t141 (.int .u8 0) fun t142 =>
  k9 t142) <|
  k9 (.bool false)) fun t143 =>
  xW t143
  (OpX Try.prog (.convert 21 5 (.const p1)) 5 fun t146 =>
  OpX Try.prog (.nilCheck (.const p0)) 0 fun t147 =>
  xF 70 t147 1 fun t148 =>
  xF 35 t148 3 fun t149 =>
  xS 5 t149 t146 <|
  OpX Try.prog (.build 35 #[]) 35 fun t150 =>
  xS 35 t4 t150 <|
  xD 35 t4 fun t4_4 =>
  K t4_4) <|
  Join1 (fun k10 =>
  xO .geq 21 p1 (.int .i32 64) fun t152 =>
  xW t152
  (xO .leq 21 p1 (.int .i32 126) fun t155 =>
  k10 t155) <|
  k10 (.bool false)) fun t156 =>
  xW t156
  (OpX Try.prog (.nilCheck (.const p0)) 0 fun t158 =>
  xF 70 t158 0 fun t159 =>
  xS 3 t159 (.int .i64 0) <|
  OpX Try.prog (.nilCheck (.const p0)) 0 fun t161 =>
  xF 70 t161 1 fun t162 =>
  xL 35 t162 fun t163 =>
  xA 35 fun t7 =>
  xS 35 t7 t163 <|
  xF 35 t7 0 fun t164 =>
  xS 3 t164 (.int .i64 4) <|
  xF 35 t7 1 fun t166 =>
  xS 21 t166 p1 <|
  Join0 (fun k11 =>
  xF 35 t7 4 fun t167 =>
  xL 3 t167 fun t168 =>
  xO .gtr 3 t168 (.int .i64 8) fun t169 =>
  xW t169
  (xF 35 t7 4 fun t170 =>
  xS 3 t170 (.int .i64 8) <|
  k11) <|
  k11) <|
  xL 35 t7 fun t171 =>
  xS 35 t4 t171 <|
  xD 35 t4 fun t4_5 =>
  K t4_5) <|
  OpX Try.prog (.nilCheck (.const p0)) 0 fun t173 =>
  xF 70 t173 0 fun t174 =>
  xS 3 t174 (.int .i64 3) <|
  OpX Try.prog (.build 35 #[]) 35 fun t175 =>
  xS 35 t4 t175 <|
  xD 35 t4 fun t4_6 =>
  K t4_6
theorem lyceumref07_Parser_csi_link (p0 p1 : Value) : Lk 84 #[p0, p1] (lyceumref07_Parser_csi p0 p1) := lk [p0, p1] [(8, [28]), (10, []), (16, []), (22, [6]), (36, [90]), (38, []), (44, []), (56, [126]), (66, [143]), (76, [156]), (86, [])] Try.func84 (by kernel_rfl) fun _ _ => by kernel_rfl
theorem lyceumref07_Parser_csi_b : Bodied Try.prog 84 := bd Try.func84 (by kernel_rfl)
def lyceumlaw09_ScreenSaves (p0 p1 p2 : Value) (K : Value → World → Prop) : World → Prop :=
  xB 23 p0 fun t3 =>
  xC 8 [] [] 4 fun t21 =>
  xL 23 t3 fun t23 =>
  xC 9 [.const t23] [23] 26 fun t24 =>
  xE t24 0 3 fun t25 =>
  xE t24 1 3 fun t26 =>
  xC 10 [.const t25, .const t26] [3, 3] 28 fun t29 =>
  xO .eql 28 t29 (.pointer none) fun t31 =>
  xW t31
  (K (.bool false)) <|
  xC 12 [.const p1, .const (.int .i64 60)] [24, 3] 31 fun t34 =>
  xC 11 [.const t29, .const t34] [28, 31] 0 fun _ =>
  OpX Try.prog (.build 35 #[(0, .const (.int .i64 3)), (1, .const (.int .i32 55))]) 35 fun t37 =>
  OpX Try.prog (.buildSlice 31 1 #[(0, .const t37)]) 31 fun t38 =>
  xC 11 [.const t29, .const t38] [28, 31] 0 fun _ =>
  xC 13 [.const t29] [28] 36 fun t42 =>
  xE t42 0 3 fun t43 =>
  xE t42 1 3 fun t44 =>
  xE t42 2 4 fun _ =>
  xC 14 [.const t29] [28] 39 fun t47 =>
  xA 39 fun t14 =>
  xS 39 t14 t47 <|
  xC 12 [.const p2, .const (.int .i64 60)] [24, 3] 31 fun t49 =>
  Loop1 (.int .i64 0) fun t16 next1 =>
  xU t49 31 fun t52 =>
  xO .lss 3 t16 t52 fun t53 =>
  xW t53
  (Join0 (fun k2 =>
  Join1 (fun k3 =>
  xI 31 t49 t16 fun t58 =>
  xF 35 t58 0 fun t59 =>
  xL 3 t59 fun t60 =>
  xO .eql 3 t60 (.int .i64 3) fun t61 =>
  xW t61
  (xI 31 t49 t16 fun t65 =>
  xF 35 t65 1 fun t66 =>
  xL 21 t66 fun t67 =>
  xO .eql 21 t67 (.int .i32 99) fun t68 =>
  xW t68
  (k3 (.bool true)) <|
  xI 31 t49 t16 fun t72 =>
  xF 35 t72 1 fun t73 =>
  xL 21 t73 fun t74 =>
  xO .eql 21 t74 (.int .i32 55) fun t75 =>
  xW t75
  (k3 (.bool true)) <|
  xI 31 t49 t16 fun t81 =>
  xF 35 t81 0 fun t82 =>
  xL 3 t82 fun t83 =>
  xO .eql 3 t83 (.int .i64 4) fun t84 =>
  xW t84
  (xI 31 t49 t16 fun t88 =>
  xF 35 t88 2 fun t89 =>
  xL 5 t89 fun t90 =>
  xO .neq 5 t90 (.int .u8 0) fun t91 =>
  xW t91
  (k3 (.bool true)) <|
  xI 31 t49 t16 fun t95 =>
  xF 35 t95 1 fun t96 =>
  xL 21 t96 fun t97 =>
  xO .eql 21 t97 (.int .i32 115) fun t98 =>
  k3 t98) <|
  k3 (.bool false)) <|
  xI 31 t49 t16 fun t81_1 =>
  xF 35 t81_1 0 fun t82_1 =>
  xL 3 t82_1 fun t83_1 =>
  xO .eql 3 t83_1 (.int .i64 4) fun t84_1 =>
  xW t84_1
  (xI 31 t49 t16 fun t88_1 =>
  xF 35 t88_1 2 fun t89_1 =>
  xL 5 t89_1 fun t90_1 =>
  xO .neq 5 t90_1 (.int .u8 0) fun t91_1 =>
  xW t91_1
  (k3 (.bool true)) <|
  xI 31 t49 t16 fun t95_1 =>
  xF 35 t95_1 1 fun t96_1 =>
  xL 21 t96_1 fun t97_1 =>
  xO .eql 21 t97_1 (.int .i32 115) fun t98_1 =>
  k3 t98_1) <|
  k3 (.bool false)) fun t17 =>
  xN 4 t17 fun t103 =>
  xW t103
  (xI 31 t49 t16 fun t107 =>
  xL 35 t107 fun t108 =>
  OpX Try.prog (.buildSlice 31 1 #[(0, .const t108)]) 31 fun t109 =>
  xC 11 [.const t29, .const t109] [28, 31] 0 fun _ =>
  k2) <|
  k2) <|
  xO .add 3 t16 (.int .i64 1) fun t55 =>
  next1 t55) <|
  OpX Try.prog (.build 35 #[(0, .const (.int .i64 4)), (1, .const (.int .i32 117))]) 35 fun t112 =>
  OpX Try.prog (.buildSlice 31 1 #[(0, .const t112)]) 31 fun t113 =>
  xC 11 [.const t29, .const t113] [28, 31] 0 fun _ =>
  xC 13 [.const t29] [28] 36 fun t117 =>
  xE t117 0 3 fun t118 =>
  xE t117 1 3 fun t119 =>
  xE t117 2 4 fun _ =>
  DrewW <|
  Join1 (fun k4 =>
  xW t21
  (qR .eql 3 t118 t43 fun t125 =>
  xW t125
  (qR .eql 3 t119 t44 fun t130 =>
  xW t130
  (qL 39 t14 fun t135 =>
  xC 14 [.const t29] [28] 39 fun t134 =>
  xT (qZ 39 t14 t135) <|
  qR .eql 39 t134 t135 fun t136 =>
  k4 t136) <|
  k4 (.bool false)) <|
  k4 (.bool false)) <|
  k4 (.bool false)) fun t6 =>
  K t6
theorem lyceumlaw09_ScreenSaves_link (p0 p1 p2 : Value) : Lk 3 #[p0, p1, p2] (lyceumlaw09_ScreenSaves p0 p1 p2) := lk [p0, p1, p2] [(30, [16]), (37, []), (40, [17]), (52, [6])] Try.func3 (by kernel_rfl) fun _ _ => by kernel_rfl
theorem lyceumlaw09_ScreenSaves_b : Bodied Try.prog 3 := bd Try.func3 (by kernel_rfl)
def lyceumlaw09_ScreenPrints (p0 p1 : Value) (K : Value → World → Prop) : World → Prop :=
  xB 23 p0 fun t2 =>
  xC 8 [] [] 4 fun t23 =>
  xL 23 t2 fun t25 =>
  xC 9 [.const t25] [23] 26 fun t26 =>
  xE t26 0 3 fun t27 =>
  xE t26 1 3 fun t28 =>
  xC 10 [.const t27, .const t28] [3, 3] 28 fun t31 =>
  xO .eql 28 t31 (.pointer none) fun t33 =>
  xW t33
  (K (.bool false)) <|
  xU p1 42 fun t35 =>
  OpX Try.prog (.call { callee := .builtin .min, args := #[.const t35, .const (.int .i64 200)], argTypes := #[3, 3] }) 3 fun t36 =>
  Loop2 (.slice none 0 0) (.int .i64 0) fun t10 t11 next1 =>
  xO .lss 3 t11 t36 fun t39 =>
  xW t39
  (xI 42 p1 t11 fun t45 =>
  xL 3 t45 fun t46 =>
  xO .and 3 t46 (.int .i64 15) fun t47 =>
  xO .add 3 (.int .i64 97) t47 fun t48 =>
  OpX Try.prog (.convert 3 21 (.const t48)) 21 fun t49 =>
  OpX Try.prog (.buildSlice 24 1 #[(0, .const t49)]) 24 fun t50 =>
  OpX Try.prog (.call { callee := .builtin .append, args := #[.const t10, .const t50], argTypes := #[24, 24] }) 24 fun t51 =>
  xO .add 3 t11 (.int .i64 1) fun t41 =>
  next1 t51 t41) <|
  Loop1 (.int .i64 0) fun t12 next2 =>
  xO .lss 3 t12 t36 fun t54 =>
  xW t54
  (xI 24 t10 t12 fun t60 =>
  xL 21 t60 fun t61 =>
  OpX Try.prog (.build 35 #[(0, .const (.int .i64 1)), (1, .const t61)]) 35 fun t62 =>
  OpX Try.prog (.buildSlice 31 1 #[(0, .const t62)]) 31 fun t63 =>
  xC 11 [.const t31, .const t63] [28, 31] 0 fun _ =>
  xO .add 3 t12 (.int .i64 1) fun t56 =>
  next2 t56) <|
  xO .add 3 t36 t27 fun t67 =>
  xO .sub 3 t67 (.int .i64 1) fun t68 =>
  xO .quo 3 t68 t27 fun t70 =>
  OpX Try.prog (.call { callee := .builtin .max, args := #[.const t70, .const (.int .i64 1)], argTypes := #[3, 3] }) 3 fun t71 =>
  xO .sub 3 t71 t28 fun t74 =>
  OpX Try.prog (.call { callee := .builtin .max, args := #[.const t74, .const (.int .i64 0)], argTypes := #[3, 3] }) 3 fun t75 =>
  xC 15 [.const t31] [28] 43 fun t77 =>
  xU t77 43 fun t79 =>
  xO .neq 3 t79 t75 fun t81 =>
  xW t81
  (K (.bool false)) <|
  Loop1 (.int .i64 0) fun t16 next3 =>
  xO .lss 3 t16 t71 fun t84 =>
  xW t84
  (Loop1 (.int .i64 0) fun t17 next4 =>
  xO .lss 3 t17 t27 fun t89 =>
  xW t89
  (Join0 (fun k5 =>
  Join1 (fun k6 =>
  xO .mul 3 t16 t27 fun t94 =>
  xO .add 3 t94 t17 fun t96 =>
  xO .lss 3 t96 t36 fun t98 =>
  xW t98
  (xO .mul 3 t16 t27 fun t102 =>
  xO .add 3 t102 t17 fun t104 =>
  xI 24 t10 t104 fun t105 =>
  xL 21 t105 fun t106 =>
  k6 t106) <|
  k6 (.int .i32 32)) fun t18 =>
  xO .lss 3 t16 t75 fun t109 =>
  xW t109
  (Join1 (fun k7 =>
  xI 43 t77 t16 fun t112 =>
  xL 45 t112 fun t113 =>
  xU t113 45 fun t114 =>
  xO .neq 3 t114 t27 fun t116 =>
  xW t116
  (k7 (.bool true)) <|
  xI 43 t77 t16 fun t120 =>
  xL 45 t120 fun t121 =>
  xI 45 t121 t17 fun t123 =>
  xF 39 t123 0 fun t124 =>
  xL 21 t124 fun t125 =>
  xO .neq 21 t125 t18 fun t127 =>
  k7 t127) fun t128 =>
  xW t128
  (K (.bool false)) <|
  k5) <|
  xC 17 [.const t31] [28] 48 fun t130 =>
  xO .sub 3 t16 t75 fun t134 =>
  xC 16 [.const t130, .const t17, .const t134] [48, 3, 3] 39 fun t135 =>
  OpX Try.prog (.field 39 (.const t135) 0) 21 fun t136 =>
  xO .neq 21 t136 t18 fun t138 =>
  xW t138
  (K (.bool false)) <|
  k5) <|
  xO .add 3 t17 (.int .i64 1) fun t91 =>
  next4 t91) <|
  xO .add 3 t16 (.int .i64 1) fun t86 =>
  next3 t86) <|
  xC 13 [.const t31] [28] 36 fun t141 =>
  xE t141 0 3 fun t142 =>
  xE t141 1 3 fun t143 =>
  xE t141 2 4 fun t144 =>
  xO .sub 3 t71 (.int .i64 1) fun t147 =>
  xO .mul 3 t147 t27 fun t149 =>
  xO .sub 3 t36 t149 fun t150 =>
  xO .sub 3 t27 (.int .i64 1) fun t152 =>
  OpX Try.prog (.call { callee := .builtin .min, args := #[.const t150, .const t152], argTypes := #[3, 3] }) 3 fun t153 =>
  Join1 (fun k8 =>
  xW t23
  (xW t144
  (xO .sub 3 t71 (.int .i64 1) fun t161 =>
  xO .sub 3 t161 t75 fun t163 =>
  xO .eql 3 t143 t163 fun t164 =>
  xW t164
  (xO .eql 3 t142 t153 fun t169 =>
  k8 t169) <|
  k8 (.bool false)) <|
  k8 (.bool false)) <|
  k8 (.bool false)) fun t4 =>
  K t4
theorem lyceumlaw09_ScreenPrints_link (p0 p1 : Value) : Lk 4 #[p0, p1] (lyceumlaw09_ScreenPrints p0 p1) := lk [p0, p1] [(24, [10, 11]), (39, [12]), (68, [16]), (80, [17]), (87, []), (91, [18]), (101, [128]), (121, [4])] Try.func4 (by kernel_rfl) fun _ _ => by kernel_rfl
theorem lyceumlaw09_ScreenPrints_b : Bodied Try.prog 4 := bd Try.func4 (by kernel_rfl)
def lyceumlaw09_ScreenSizes (p0 p1 p2 : Value) (K : Value → World → Prop) : World → Prop :=
  xB 23 p2 fun t5 =>
  xC 8 [] [] 4 fun t15 =>
  xL 23 t5 fun t17 =>
  xC 9 [.const t17] [23] 26 fun t18 =>
  xE t18 0 3 fun t19 =>
  xE t18 1 3 fun t20 =>
  xC 10 [.const t19, .const t20] [3, 3] 28 fun t23 =>
  Join1 (fun k1 =>
  xO .geq 3 p0 (.int .i64 1) fun t25 =>
  xW t25
  (xO .leq 3 p0 (.int .i64 200) fun t28 =>
  xW t28
  (xO .geq 3 p1 (.int .i64 1) fun t32 =>
  xW t32
  (xO .leq 3 p1 (.int .i64 60) fun t36 =>
  k1 t36) <|
  k1 (.bool false)) <|
  k1 (.bool false)) <|
  k1 (.bool false)) fun t11 =>
  Join1 (fun k2 =>
  xO .eql 28 t23 (.pointer none) fun t39 =>
  xW t39
  (k2 (.bool true)) <|
  xC 10 [.const p0, .const p1] [3, 3] 28 fun t43 =>
  xO .neq 28 t43 (.pointer none) fun t44 =>
  xO .neq 4 t44 t11 fun t46 =>
  xW t46
  (k2 (.bool true)) <|
  xC 18 [.const t23, .const p0, .const p1] [28, 3, 3] 4 fun t52 =>
  xO .neq 4 t52 t11 fun t54 =>
  k2 t54) fun t55 =>
  xW t55
  (K (.bool false)) <|
  xC 17 [.const t23] [28] 48 fun t57 =>
  xA 48 fun t12 =>
  xS 48 t12 t57 <|
  xC 19 [.const t19, .const t20] [3, 3] 48 fun t60 =>
  xA 48 fun t13 =>
  xS 48 t13 t60 <|
  Join0 (fun k3 =>
  xW t11
  (xC 19 [.const p0, .const p1] [3, 3] 48 fun t64 =>
  xS 48 t13 t64 <|
  k3) <|
  k3) <|
  xL 48 t12 fun t65 =>
  xL 48 t13 fun t66 =>
  xC 20 [.const t65, .const t66] [48, 48] 4 fun t67 =>
  Join1 (fun k4 =>
  xW t15
  (k4 t67) <|
  k4 (.bool false)) fun t6 =>
  K t6
theorem lyceumlaw09_ScreenSizes_link (p0 p1 p2 : Value) : Lk 5 #[p0, p1, p2] (lyceumlaw09_ScreenSizes p0 p1 p2) := lk [p0, p1, p2] [(9, [11]), (12, [55]), (22, []), (31, [6])] Try.func5 (by kernel_rfl) fun _ _ => by kernel_rfl
theorem lyceumlaw09_ScreenSizes_b : Bodied Try.prog 5 := bd Try.func5 (by kernel_rfl)
def lyceumlaw09_ScreenOther (p0 p1 p2 : Value) (K : Value → World → Prop) : World → Prop :=
  xB 23 p0 fun t3 =>
  xC 8 [] [] 4 fun t24 =>
  xL 23 t3 fun t26 =>
  xC 9 [.const t26] [23] 26 fun t27 =>
  xE t27 0 3 fun t28 =>
  xE t27 1 3 fun t29 =>
  xC 10 [.const t28, .const t29] [3, 3] 28 fun t32 =>
  xO .eql 28 t32 (.pointer none) fun t34 =>
  xW t34
  (K (.bool false)) <|
  xC 12 [.const p1, .const (.int .i64 60)] [24, 3] 31 fun t37 =>
  xC 11 [.const t32, .const t37] [28, 31] 0 fun _ =>
  xC 21 [.const t32] [28] 4 fun t40 =>
  Join0 (fun k1 =>
  xW t40
  (OpX Try.prog (.build 33 #[(0, .const (.int .i64 1049))]) 33 fun t43 =>
  OpX Try.prog (.build 35 #[(0, .const (.int .i64 4)), (1, .const (.int .i32 108)), (2, .const (.int .u8 63)), (4, .const (.int .i64 1)), (5, .const t43)]) 35 fun t44 =>
  OpX Try.prog (.buildSlice 31 1 #[(0, .const t44)]) 31 fun t45 =>
  xC 11 [.const t32, .const t45] [28, 31] 0 fun _ =>
  k1) <|
  k1) <|
  xC 15 [.const t32] [28] 43 fun _ =>
  xC 17 [.const t32] [28] 48 fun t50 =>
  xA 48 fun t12 =>
  xS 48 t12 t50 <|
  xC 13 [.const t32] [28] 36 fun t53 =>
  xE t53 0 3 fun t54 =>
  xE t53 1 3 fun t55 =>
  xE t53 2 4 fun t56 =>
  xC 14 [.const t32] [28] 39 fun t58 =>
  xA 39 fun t16 =>
  xS 39 t16 t58 <|
  OpX Try.prog (.build 33 #[(0, .const (.int .i64 1049))]) 33 fun t60 =>
  OpX Try.prog (.build 35 #[(0, .const (.int .i64 4)), (1, .const (.int .i32 104)), (2, .const (.int .u8 63)), (4, .const (.int .i64 1)), (5, .const t60)]) 35 fun t61 =>
  OpX Try.prog (.buildSlice 31 1 #[(0, .const t61)]) 31 fun t62 =>
  xC 11 [.const t32, .const t62] [28, 31] 0 fun _ =>
  xC 17 [.const t32] [28] 48 fun t65 =>
  xC 19 [.const t28, .const t29] [3, 3] 48 fun t68 =>
  xC 20 [.const t65, .const t68] [48, 48] 4 fun t69 =>
  xC 12 [.const p2, .const (.int .i64 60)] [24, 3] 31 fun t71 =>
  Loop1 (.int .i64 0) fun t19 next2 =>
  xU t71 31 fun t74 =>
  xO .lss 3 t19 t74 fun t75 =>
  xW t75
  (Join0 (fun k3 =>
  Join1 (fun k4 =>
  xI 31 t71 t19 fun t80 =>
  xF 35 t80 0 fun t81 =>
  xL 3 t81 fun t82 =>
  xO .eql 3 t82 (.int .i64 3) fun t83 =>
  xW t83
  (xI 31 t71 t19 fun t87 =>
  xF 35 t87 1 fun t88 =>
  xL 21 t88 fun t89 =>
  xO .eql 21 t89 (.int .i32 99) fun t90 =>
  xW t90
  (k4 (.bool true)) <|
  xI 31 t71 t19 fun t95 =>
  xF 35 t95 0 fun t96 =>
  xL 3 t96 fun t97 =>
  xO .eql 3 t97 (.int .i64 4) fun t98 =>
  xW t98
  (xI 31 t71 t19 fun t102 =>
  xF 35 t102 2 fun t103 =>
  xL 5 t103 fun t104 =>
  xO .neq 5 t104 (.int .u8 0) fun t105 =>
  k4 t105) <|
  k4 (.bool false)) <|
  xI 31 t71 t19 fun t95_1 =>
  xF 35 t95_1 0 fun t96_1 =>
  xL 3 t96_1 fun t97_1 =>
  xO .eql 3 t97_1 (.int .i64 4) fun t98_1 =>
  xW t98_1
  (xI 31 t71 t19 fun t102_1 =>
  xF 35 t102_1 2 fun t103_1 =>
  xL 5 t103_1 fun t104_1 =>
  xO .neq 5 t104_1 (.int .u8 0) fun t105_1 =>
  k4 t105_1) <|
  k4 (.bool false)) fun t107 =>
  xW t107
  (k3) <|
  xI 31 t71 t19 fun t111 =>
  xL 35 t111 fun t112 =>
  OpX Try.prog (.buildSlice 31 1 #[(0, .const t112)]) 31 fun t113 =>
  xC 11 [.const t32, .const t113] [28, 31] 0 fun _ =>
  k3) <|
  xO .add 3 t19 (.int .i64 1) fun t77 =>
  next2 t77) <|
  Join1 (fun k5 =>
  xC 21 [.const t32] [28] 4 fun t116 =>
  xN 4 t116 fun t117 =>
  xW t117
  (k5 (.bool true)) <|
  xN 4 t69 fun t120 =>
  xW t120
  (k5 (.bool true)) <|
  xC 15 [.const t32] [28] 43 fun t124 =>
  xU t124 43 fun t125 =>
  xO .neq 3 t125 (.int .i64 0) fun t126 =>
  k5 t126) fun t127 =>
  xW t127
  (K (.bool false)) <|
  OpX Try.prog (.build 33 #[(0, .const (.int .i64 47))]) 33 fun t129 =>
  OpX Try.prog (.build 35 #[(0, .const (.int .i64 4)), (1, .const (.int .i32 108)), (2, .const (.int .u8 63)), (4, .const (.int .i64 1)), (5, .const t129)]) 35 fun t130 =>
  OpX Try.prog (.buildSlice 31 1 #[(0, .const t130)]) 31 fun t131 =>
  xC 11 [.const t32, .const t131] [28, 31] 0 fun _ =>
  xC 13 [.const t32] [28] 36 fun t135 =>
  xE t135 0 3 fun t136 =>
  xE t135 1 3 fun t137 =>
  xE t135 2 4 fun t138 =>
  DrewW <|
  qL 48 t12 fun t141 =>
  xC 17 [.const t32] [28] 48 fun t140 =>
  xT (qZ 48 t12 t141) <|
  xC 20 [.const t140, .const t141] [48, 48] 4 fun t142 =>
  DrewW <|
  Join1 (fun k6 =>
  xW t24
  (xW t142
  (qR .eql 3 t136 t54 fun t150 =>
  xW t150
  (qR .eql 3 t137 t55 fun t155 =>
  xW t155
  (qR .eql 4 t138 t56 fun t160 =>
  xW t160
  (qL 39 t16 fun t165 =>
  xC 14 [.const t32] [28] 39 fun t164 =>
  xT (qZ 39 t16 t165) <|
  qR .eql 39 t164 t165 fun t166 =>
  xW t166
  (xC 21 [.const t32] [28] 4 fun t170 =>
  xP (.unOp .not 4 (.const t170)) 4 fun t171 =>
  k6 t171) <|
  k6 (.bool false)) <|
  k6 (.bool false)) <|
  k6 (.bool false)) <|
  k6 (.bool false)) <|
  k6 (.bool false)) <|
  k6 (.bool false)) fun t6 =>
  K t6
theorem lyceumlaw09_ScreenOther_link (p0 p1 p2 : Value) : Lk 6 #[p0, p1, p2] (lyceumlaw09_ScreenOther p0 p1 p2) := lk [p0, p1, p2] [(20, []), (44, [19]), (52, []), (55, [107]), (63, [127]), (76, [6])] Try.func6 (by kernel_rfl) fun _ _ => by kernel_rfl
theorem lyceumlaw09_ScreenOther_b : Bodied Try.prog 6 := bd Try.func6 (by kernel_rfl)
def lyceumlaw09_ScreenNil (p0 : Value) (K : Value → World → Prop) : World → Prop :=
  xB 35 p0 fun t1 =>
  xL 35 t1 fun t8 =>
  OpX Try.prog (.buildSlice 31 1 #[(0, .const t8)]) 31 fun t9 =>
  xC 11 [.const (.pointer none), .const t9] [28, 31] 0 fun _ =>
  xC 13 [.const (.pointer none)] [28] 36 fun t13 =>
  xE t13 0 3 fun t14 =>
  xE t13 1 3 fun t15 =>
  xE t13 2 4 fun t16 =>
  Join1 (fun k1 =>
  xC 8 [] [] 4 fun t17 =>
  xW t17
  (xO .eql 3 t14 (.int .i64 0) fun t20 =>
  xW t20
  (xO .eql 3 t15 (.int .i64 0) fun t24 =>
  xW t24
  (xN 4 t16 fun t28 =>
  xW t28
  (xC 17 [.const (.pointer none)] [28] 48 fun t32 =>
  OpX Try.prog (.field 48 (.const t32) 0) 3 fun t33 =>
  xO .eql 3 t33 (.int .i64 0) fun t34 =>
  xW t34
  (xC 21 [.const (.pointer none)] [28] 4 fun t38 =>
  xN 4 t38 fun t39 =>
  xW t39
  (xC 18 [.const (.pointer none), .const (.int .i64 3), .const (.int .i64 3)] [28, 3, 3] 4 fun t43 =>
  xN 4 t43 fun t44 =>
  xW t44
  (xC 15 [.const (.pointer none)] [28] 43 fun t48 =>
  xU t48 43 fun t49 =>
  xO .eql 3 t49 (.int .i64 0) fun t50 =>
  xW t50
  (xC 14 [.const (.pointer none)] [28] 39 fun t54 =>
  OpX Try.prog (.field 39 (.const t54) 1) 5 fun t55 =>
  xO .eql 5 t55 (.int .u8 0) fun t56 =>
  k1 t56) <|
  k1 (.bool false)) <|
  k1 (.bool false)) <|
  k1 (.bool false)) <|
  k1 (.bool false)) <|
  k1 (.bool false)) <|
  k1 (.bool false)) <|
  k1 (.bool false)) <|
  k1 (.bool false)) fun t2 =>
  K t2
theorem lyceumlaw09_ScreenNil_link (p0 : Value) : Lk 7 #[p0] (lyceumlaw09_ScreenNil p0) := lk [p0] [(9, [2])] Try.func7 (by kernel_rfl) fun _ _ => by kernel_rfl
theorem lyceumlaw09_ScreenNil_b : Bodied Try.prog 7 := bd Try.func7 (by kernel_rfl)
def lyceumlaw09_awake (K : Value → World → Prop) : World → Prop :=
  xC 10 [.const (.int .i64 4), .const (.int .i64 2)] [3, 3] 28 fun t3 =>
  xO .eql 28 t3 (.pointer none) fun t5 =>
  xW t5
  (K (.bool false)) <|
  OpX Try.prog (.buildSlice 24 5 #[(0, .const (.int .i32 97)), (1, .const (.int .i32 98)), (2, .const (.int .i32 99)), (3, .const (.int .i32 100)), (4, .const (.int .i32 101))]) 24 fun t7 =>
  xC 12 [.const t7, .const (.int .i64 9)] [24, 3] 31 fun t8 =>
  xC 11 [.const t3, .const t8] [28, 31] 0 fun _ =>
  xC 17 [.const t3] [28] 48 fun t11 =>
  xC 22 [.const t11] [48] 56 fun t12 =>
  Join1 (fun k1 =>
  xU t12 56 fun t14 =>
  xO .eql 3 t14 (.int .i64 2) fun t15 =>
  xW t15
  (xI 56 t12 (.int .i64 0) fun t18 =>
  xL 9 t18 fun t19 =>
  xO .eql 9 t19 (.string { data := #[97, 98, 99, 100] }) fun t20 =>
  xW t20
  (xI 56 t12 (.int .i64 1) fun t24 =>
  xL 9 t24 fun t25 =>
  xO .eql 9 t25 (.string { data := #[101] }) fun t26 =>
  k1 t26) <|
  k1 (.bool false)) <|
  k1 (.bool false)) fun t0 =>
  K t0
theorem lyceumlaw09_awake_link : Lk 8 #[] (lyceumlaw09_awake) := lk [] [(17, [0])] Try.func8 (by kernel_rfl) fun _ _ => by kernel_rfl
theorem lyceumlaw09_awake_b : Bodied Try.prog 8 := bd Try.func8 (by kernel_rfl)
def lyceumlaw09_Size_size (p0 : Value) (K : Value → World → Prop) : World → Prop :=
  xB 23 p0 fun t1 =>
  DrewW <|
  qF 23 t1 0 fun t4 =>
  qL 3 t4 fun t5 =>
  qP .rem 3 t5 (.int .i64 14) fun t6 =>
  qP .add 3 t6 (.int .i64 14) fun t7 =>
  qP .rem 3 t7 (.int .i64 14) fun t8 =>
  qP .add 3 (.int .i64 1) t8 fun t9 =>
  qF 23 t1 1 fun t10 =>
  qL 3 t10 fun t11 =>
  qP .rem 3 t11 (.int .i64 8) fun t12 =>
  qP .add 3 t12 (.int .i64 8) fun t13 =>
  qP .rem 3 t13 (.int .i64 8) fun t14 =>
  qP .add 3 (.int .i64 1) t14 fun t15 =>
  K (.tuple #[t9, t15])
theorem lyceumlaw09_Size_size_link (p0 : Value) : Lk 9 #[p0] (lyceumlaw09_Size_size p0) := lk [p0] [] Try.func9 (by kernel_rfl) fun _ _ => by kernel_rfl
theorem lyceumlaw09_Size_size_b : Bodied Try.prog 9 := bd Try.func9 (by kernel_rfl)
def lyceumlaw09_acts (p0 p1 : Value) (K : Value → World → Prop) : World → Prop :=
  Join1 (fun k1 =>
  xU p0 24 fun t7 =>
  xO .gtr 3 t7 p1 fun t9 =>
  xW t9
  (OpX Try.prog (.slice 24 (.const p0) none (some (.const p1)) none) 24 fun t12 =>
  k1 t12) <|
  k1 p0) fun t0 =>
  OpX Try.prog (.build 70 #[]) 70 fun t13 =>
  OpX Try.prog (.box 70 (.const t13)) 68 fun t14 =>
  xC 31 [.const t14, .const t0] [68, 24] 31 fun t17 =>
  K t17
theorem lyceumlaw09_acts_link (p0 p1 : Value) : Lk 12 #[p0, p1] (lyceumlaw09_acts p0 p1) := lk [p0, p1] [(2, [0])] Try.func12 (by kernel_rfl) fun _ _ => by kernel_rfl
theorem lyceumlaw09_acts_b : Bodied Try.prog 12 := bd Try.func12 (by kernel_rfl)
end Go.Proofs.Ytjfembffjjijaaa
