/- Arguments of a row, as rows of like things: slices of integers, slices of those. It names no program. -/
import Derived.Test.YtdjdeahmhenchaaLycRow
import Derived.Test.YtdjdeahmhenchaaMem
import Derived.Deep.Matrix
import Derived.OpenShut
set_option linter.unusedSimpArgs false
set_option linter.unusedVariables false
namespace Lyc
open Go Go.ChangeShapes Go.WideShapes Go.ChangeAt Go.RowKit Go.Deep

def intF (n : Int) : List Value := [.int .i64 n]
theorem intF_len (n : Int) : (intF n).length = 1 := rfl
theorem intF_ok (n : Int) : okCells (intF n) = true := rfl

section
variable {α : Type}
theorem Sx.of_sla {w : World} {a : Option Addr} {len cap m : Nat} {f : α → List Value} {g : Nat → α} (hf : ∀ x, (f x).length = m) (hm : 0 < m) (h : SlA w (.slice a len cap) len m fun i => f (g i)) : Sx w none f a ((List.range len).map g) := by
  obtain ⟨a', cap', hv, h⟩ := h
  rw [Value.slice.injEq] at hv
  obtain ⟨rfl, -, -⟩ := hv
  refine ⟨fun hl => ?_⟩
  have hlen : 0 < len := by
    cases len with
    | zero => simp at hl
    | succ n => omega
  obtain ⟨b, o, ha, hb, h0⟩ := h 0 hlen
  subst ha
  cases hc : w.heap[b]? with
  | none => rw [hc] at h0; simp [aggAt] at h0
  | some x =>
    cases x with
    | cells c e fr =>
      have key : ∀ n, n ≤ len → (c.toList.drop o).take (n * m) = ((List.range n).map g).flatMap f ∧ (n = 0 ∨ o + n * m ≤ c.size) := by
        intro n
        induction n with
        | zero => intro _; simp
        | succ n ih =>
          intro hn
          obtain ⟨ih, -⟩ := ih (by omega)
          obtain ⟨b', o', ha', -, h1⟩ := h n (by omega)
          cases ha'
          rw [hc, aggAt_cells] at h1
          split at h1
          · rename_i hle
            have e1 : (c.toList.drop (o + n * m)).take m = f (g n) := by
              have h2 := Option.some.inj h1
              have h3 := congrArg Array.toList h2
              simp at h3
              exact h3
            refine ⟨?_, .inr (by rw [Nat.add_mul]; omega)⟩
            rw [Nat.add_mul, Nat.one_mul, List.take_add, ih, List.drop_drop, e1, List.range_succ]
            simp
          · simp at h1
      obtain ⟨k1, k2⟩ := key len (Nat.le_refl _)
      have k2 : o + len * m ≤ c.size := by rcases k2 with h | h <;> omega
      refine ⟨b, o, c, e, fr, c.toList.take o, c.toList.drop (o + len * m), rfl, hc, rfl, ?_, by simp; omega⟩
      apply Array.ext'
      rw [← k1]
      simp only [List.append_assoc]
      rw [← List.drop_drop, List.take_append_drop, List.take_append_drop]
    | _ => rw [hc] at h0; simp [aggAt] at h0
end

section
variable {H : Type} {enc : TypeId × Value → H} {P : Program} {w : World} {base : Nat} {held : Bool}

/-- A row of integers that came in. -/
theorem sx_ints_at {a : Addr} {len : Nat} {zs : List Int} (cap : Nat) (hz : len ≤ zs.length) (h : ∀ i, i < zs.length → w.cell? (a.add i) = some (.int .i64 (zs.getD i 0))) : Sx w none intF (some a) (zs.take len) := by
  obtain ⟨g, hg⟩ := sla_of (w := w) (a := a) (len := len) (cap := cap) (m := 1) intF (by omega) (fun _ => rfl) (fun i hi => ⟨zs.getD i 0, fun j hj => by
    have : j = 0 := by omega
    subst this
    have := h i (by omega)
    simpa [intF] using this⟩)
  have h1 := Sx.of_sla (f := intF) intF_len (by omega) hg
  have e : (List.range len).map g = zs.take len := by
    apply List.ext_getElem?
    intro i
    rw [List.getElem?_map, List.getElem?_take]
    by_cases hi : i < len
    · rw [List.getElem?_range hi, if_pos hi, List.getElem?_eq_getElem (by omega)]
      obtain ⟨a', cap', hv, hg⟩ := hg
      rw [Value.slice.injEq] at hv
      obtain ⟨rfl, -, -⟩ := hv
      obtain ⟨b, o, ha, -, hag⟩ := hg i hi
      cases ha
      have h2 := h i (by omega)
      rw [add_mk, cell?_at] at h2
      have h3 := aggAt_cell hag 0 (by omega)
      simp only [Nat.mul_one, Nat.add_zero] at h3
      rw [h2] at h3
      simp [intF] at h3
      simp only [Option.map_some, Option.some.injEq]
      rw [← h3]
      simp [show i < zs.length by omega]
    · rw [List.getElem?_eq_none (by simp; omega), if_neg hi]
      rfl
  rw [e] at h1
  exact h1
theorem open_intl {spare : Nat → Bool} {b0 : Nat} {t e : TypeId} {v : Value} {d : DataW H} {p : List MemPlace} (ht : P.underlying t = some (.slice e)) (he : P.underlying e = some (.int .i64)) (hc : P.cellsOf e = 1) (hv : Value.okWide P w .any b0 t v) (h : DataW.Trod enc P w base spare held t v d p) :
    ∃ (a : Option Addr) (l : List Int) (cap : Nat), v = .slice a l.length cap ∧ Sx w none intF a l ∧ l.length ≤ maxLen := by
  obtain ⟨fuel, h⟩ := h
  obtain ⟨a, len, cap, rfl⟩ := okWide_slice ht hv
  rcases open_ints ht he hc h with ⟨h0, -⟩ | ⟨a', len', cap', zs, hcs, -, hl, hm, hz, -, hcell, -⟩
  · simp [Value.cells] at h0
    obtain ⟨rfl, rfl, rfl⟩ := h0
    exact ⟨none, [], 0, rfl, Sx.nil _ _ _ _, by simp⟩
  · simp [Value.cells] at hcs
    obtain ⟨rfl, rfl, rfl⟩ := hcs
    have hzl : len ≤ zs.length := by rw [hz]; split <;> omega
    refine ⟨some a', zs.take len, cap, by simp [Nat.min_eq_left hzl], sx_ints_at cap hzl hcell, by simp; omega⟩
/-- The same, as a cell of something greater. -/
theorem open_intcell {spare : Nat → Bool} {fuel : Nat} {t e : TypeId} {v : Value} {y : DataW H × List MemPlace} (ht : P.underlying t = some (.slice e)) (he : P.underlying e = some (.int .i64)) (hc : P.cellsOf e = 1) (h : DataW.trod enc P w base spare held fuel t [v] = some y) :
    ∃ (a : Option Addr) (l : List Int) (cap : Nat), v = .slice a l.length cap ∧ Sx w none intF a l ∧ l.length ≤ maxLen := by
  rcases open_ints ht he hc h with ⟨h0, -⟩ | ⟨a', len', cap', zs, hcs, -, hl, hm, hz, -, hcell, -⟩
  · simp at h0
    subst h0
    exact ⟨none, [], 0, rfl, Sx.nil _ _ _ _, by simp⟩
  · simp at hcs
    subst hcs
    have hzl : len' ≤ zs.length := by rw [hz]; split <;> omega
    refine ⟨some a', zs.take len', cap', by simp [Nat.min_eq_left hzl], sx_ints_at cap' hzl hcell, by simp; omega⟩
/-- An array of integers. -/
theorem open_intarr {spare : Nat → Bool} {b0 n : Nat} {t e : TypeId} {v : Value} {d : DataW H} {p : List MemPlace} (ht : P.underlying t = some (.array n e)) (he : P.underlying e = some (.int .i64)) (hc : P.cellsOf e = 1) (hn : P.cellsOf t = n) (hv : Value.okWide P w .any b0 t v) (h : DataW.Trod enc P w base spare held t v d p) :
    ∃ l : List Int, v = .agg (l.map (Value.int .i64)).toArray ∧ l.length = n := by
  obtain ⟨fuel, h⟩ := h
  simp only [Value.okWide, ht] at hv
  obtain ⟨cs, rfl, hsz, -⟩ := hv
  obtain ⟨l0⟩ := cs
  rw [hn] at hsz
  have hsz' : l0.length = n := hsz
  obtain ⟨xs, m, -, -, -, hxl, hf⟩ := DataW.trod_array ht h
  have hall : ∀ i, i < n → ∃ k : Int, l0[i]? = some (.int .i64 k) := by
    intro i hi
    have h1 := hf i hi
    rw [hc, List.getElem?_eq_getElem (by omega)] at h1
    obtain ⟨k, hk, -⟩ := DataW.trod_int he h1
    have hk' : (l0.drop (i * 1)).take 1 = [Value.int .i64 k] := hk
    refine ⟨k, ?_⟩
    rw [Nat.mul_one, List.drop_eq_getElem_cons (show i < l0.length by omega), List.take_succ_cons, List.take_zero, List.cons.injEq] at hk'
    rw [List.getElem?_eq_getElem (by omega), hk'.1]
  have : ∀ (l : List Value), (∀ i, i < l.length → ∃ k : Int, l[i]? = some (.int .i64 k)) → ∃ z : List Int, l = z.map (Value.int .i64) := by
    intro l
    induction l with
    | nil => intro _; exact ⟨[], rfl⟩
    | cons v l ih =>
      intro h
      obtain ⟨k, hk⟩ := h 0 (by simp)
      obtain ⟨z, hz⟩ := ih (fun i hi => by have := h (i + 1) (by simp; omega); simpa using this)
      simp at hk
      exact ⟨k :: z, by simp [hk, hz]⟩
  obtain ⟨z, hz⟩ := this l0 (by rw [hsz']; exact hall)
  exact ⟨z, by rw [hz], by rw [← hsz', hz]; simp⟩
/-- A row of rows of integers. -/
structure IRow where
  a : Option Addr
  cap : Nat
  zs : List Int
def IRow.f (r : IRow) : List Value := [.slice r.a r.zs.length r.cap]
theorem open_introws {b0 : Nat} {t e q : TypeId} {v : Value} {d : DataW H} {p : List MemPlace} (ht : P.underlying t = some (.slice e)) (he : P.underlying e = some (.slice q)) (hq : P.underlying q = some (.int .i64)) (ce : P.cellsOf e = 1) (cq : P.cellsOf q = 1) (hv : Value.okWide P w .any b0 t v) (h : DataW.Trod enc P w base (fun _ => true) held t v d p) :
    ∃ (a : Option Addr) (l : List IRow) (cap : Nat), v = .slice a l.length cap ∧ Sx w none IRow.f a l ∧ l.length ≤ maxLen ∧ ∀ r ∈ l, Sx w none intF r.a r.zs ∧ r.zs.length ≤ maxLen := by
  obtain ⟨fuel, h⟩ := h
  obtain ⟨a, len, cap, rfl⟩ := okWide_slice ht hv
  rcases open_int_rows ht he hq ce cq h with ⟨h0, -⟩ | ⟨a', len', cap', A, L, C, Z, hcs, -, hl, hm, -, hr⟩
  · simp [Value.cells] at h0
    obtain ⟨rfl, rfl, rfl⟩ := h0
    exact ⟨none, [], 0, rfl, Sx.nil _ _ _ _, by simp, by simp⟩
  · simp [Value.cells] at hcs
    obtain ⟨rfl, rfl, rfl⟩ := hcs
    let mk : Nat → IRow := fun r => ⟨A r, C r, (Z r).take (L r)⟩
    have hmk : ∀ r, r < cap → (mk r).f = [.slice (A r) (L r) (C r)] := by
      intro r hrc
      obtain ⟨-, h2, -, h4, -⟩ := hr r hrc
      simp only [mk, IRow.f, List.length_take]
      rw [Nat.min_eq_left (by omega)]
    obtain ⟨g, hg⟩ := sla_of (w := w) (a := a') (len := len) (cap := cap) (m := 1) (fun v : Value => [v]) (by omega) (fun _ => rfl) (fun i hi => ⟨.slice (A i) (L i) (C i), fun j hj => by
      have : j = 0 := by omega
      subst this
      simpa using (hr i (by omega)).1⟩)
    have hg' : SlA w (.slice (some a') len cap) len 1 fun i => (mk i).f := by
      obtain ⟨a2, cap2, hv2, hg⟩ := hg
      refine ⟨a2, cap2, hv2, fun i hi => ?_⟩
      obtain ⟨b, o, ha, hb, hag⟩ := hg i hi
      refine ⟨b, o, ha, hb, ?_⟩
      rw [hag]
      show some [g i].toArray = some (mk i).f.toArray
      rw [hmk i (by omega)]
      rw [Value.slice.injEq] at hv2
      obtain ⟨rfl, -, -⟩ := hv2
      cases ha
      have h2 := (hr i (by omega)).1
      rw [add_mk, cell?_at] at h2
      have h3 := aggAt_cell hag 0 (by omega)
      simp only [Nat.mul_one, Nat.add_zero] at h3
      rw [h2] at h3
      simp at h3
      rw [← h3]
    refine ⟨some a', (List.range len).map mk, cap, by simp, Sx.of_sla (m := 1) (fun _ => rfl) (by omega) hg', by rw [List.length_map, List.length_range]; exact Nat.le_trans hl hm, ?_⟩
    intro r hrm
    obtain ⟨i, hi, rfl⟩ := List.mem_map.1 hrm
    have hi := List.mem_range.1 hi
    obtain ⟨-, h2, h3, h4, -, h6, h7⟩ := hr i (by omega)
    refine ⟨?_, by simp only [mk, List.length_take]; omega⟩
    show Sx w none intF (A i) ((Z i).take (L i))
    cases hA : A i with
    | none =>
      have := h6 hA
      have hL : L i = 0 := by omega
      rw [hL, List.take_zero]
      exact Sx.nil _ _ _ _
    | some ad =>
      exact sx_ints_at (C i) (by omega) fun j hj => (h7 ad hA).2 j (by omega)
end
end Lyc
