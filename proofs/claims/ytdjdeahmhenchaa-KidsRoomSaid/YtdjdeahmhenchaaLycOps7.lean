/-
  What single operations come to: rows that grow: append, make, copy.
-/
import Derived.Test.YtdjdeahmhenchaaLycOps6
import Derived.Laws.AppendOwn
import Derived.Great.BuildSlice
import Derived.Laws.MakeOwn
set_option linter.unusedSimpArgs false
set_option linter.unusedVariables false
namespace Lyc
open Go
section
variable {P : Program}

theorem chg_of_grown {w w' : World} {row : Option Nat} (h : w.grownBy w' row) : Chg row.toList w w' :=
  ⟨h.os, h.tape, h.output, h.size, fun b hb hn => h.block b hb (by cases row <;> simp_all)⟩


/-- What a slice's type tells: its elements' type, cells, bytes. -/
def tapp (P : Program) (t : TypeId) : Option (TypeId × Nat × Nat) :=
  (P.underlying t).bind fun
    | .slice e => (P.info? e).bind fun i => i.zero.bind fun z => if z.cells.size = i.size ∧ 0 < i.size then some (e, i.size, i.bytes) else none
    | _ => none
theorem tapp_spec {t e : TypeId} {m by_ : Nat} (h : tapp P t = some (e, m, by_)) : P.underlying t = some (.slice e) ∧ ∃ i z, P.info? e = some i ∧ i.zero = some z ∧ i.size = m ∧ i.bytes = by_ ∧ z.cells.size = m ∧ 0 < m := by
  unfold tapp at h
  cases hu : P.underlying t with
  | none => rw [hu] at h; simp at h
  | some d =>
    rw [hu] at h
    cases d <;> first | (rename_i e'; dsimp only at h) | skip
    all_goals first | (simp at h; done) | skip
    rename_i e'
    cases hi : P.info? e' with
    | none => simp [hi] at h
    | some i =>
      cases hz : i.zero with
      | none => simp [hi, hz] at h
      | some z =>
        simp only [hi, hz, Option.bind_some] at h
        split at h
        · rename_i hc
          simp at h
          obtain ⟨rfl, rfl, rfl⟩ := h
          exact ⟨rfl, i, z, hi, hz, rfl, rfl, hc.1, hc.2⟩
        · simp at h

theorem app_own {t ty e : TypeId} {m by_ base : Nat} {v : Value} {n : Nat} {xs : List Value} {b o k c : Nat} {news : List Value} {K : Value → World → Prop} {w : World}
    (ht : tapp P t = some (e, m, by_)) (hown : w.ownsRow base e m v n xs) (hl : news.length = k * m) (hnews : ∀ j u, news[j]? = some u → cellAt w.heap[b]? (o + j) = some u) (h1 : okCells news = true)
    (h63 : n + k ≤ maxLen) (hbytes : (n + k) * by_ ≤ 140737488355328) (hbase : base ≤ w.heap.size)
    (hk : ∀ v' w', w'.ownsRow base e m v' (n + k) (xs ++ news) → Chg v.ownBlock.toList w w' → (v' = .slice none 0 0 ↔ v = .slice none 0 0 ∧ k = 0) → K v' w') :
    OpX P (.call { callee := .builtin .append, args := #[.const v, .const (.slice (some ⟨b, o, none⟩) k c)], argTypes := #[t, t] }) ty K w := by
  obtain ⟨hu, i, z, hi, hz, hs, hby, hzs, hsz⟩ := tapp_spec ht
  obtain ⟨v', w', hr, h2, h3, h4⟩ := run_append_own (P := P) w base t ty e i z m by_ hu hi hz hs hby hzs hsz v n xs hown ⟨b, o, none⟩ k c news hl (fun j u hj => by rw [add_mk, cell?_at]; exact hnews j u hj) (by simpa [okCells] using h1) h63 hbytes hbase
  rw [OpX_ok (v := v') (w' := w') fun ρ hg => by simp [execOp, mkOper, resolve, invoke, builtin, hg.1, hr]]
  exact hk _ _ h2 (chg_of_grown h3) h4

/-! ### Rows that are built -/
/-- So many zeros, one behind the other. -/
def zrow (z : List Value) : Nat → List Value
  | 0 => []
  | n + 1 => z ++ zrow z n
@[go_sem] theorem zrow_zero (z : List Value) : zrow z 0 = [] := rfl
@[go_sem] theorem zrow_succ (z : List Value) (n : Nat) : zrow z (n + 1) = z ++ zrow z n := rfl
theorem length_zrow (z : List Value) (n : Nat) : (zrow z n).length = n * z.length := by
  induction n with
  | zero => simp [zrow]
  | succ n ih => rw [zrow_succ, List.length_append, ih, Nat.add_mul]; omega
theorem zrow_get (z : List Value) (n i : Nat) (h : i < n * z.length) : (zrow z n)[i]? = z[i % z.length]? := by
  induction n generalizing i with
  | zero => omega
  | succ n ih =>
    rw [zrow_succ]
    by_cases hi : i < z.length
    · rw [List.getElem?_append_left hi, Nat.mod_eq_of_lt hi]
    · rw [List.getElem?_append_right (by omega), ih (i - z.length) (by rw [Nat.add_mul] at h; omega)]
      rw [Nat.mod_eq_sub_mod (show i ≥ z.length by omega)]
theorem zrow_eq (z : Array Value) (n s : Nat) (hs : z.size = s) (h0 : 0 < s) : (Array.range (n * s)).map (fun i => z[i % z.size]!) = (zrow z.toList n).toArray := by
  subst hs
  apply Array.ext_getElem?
  intro i
  have e2 : (zrow z.toList n).toArray[i]? = (zrow z.toList n)[i]? := by simp
  rw [e2]
  by_cases hi : i < n * z.size
  · have hm : i % z.size < z.size := Nat.mod_lt _ h0
    rw [zrow_get _ _ _ (by rw [Array.length_toList]; exact hi)]
    simp [hi, hm]
  · rw [Array.getElem?_eq_none (by simpa using hi), List.getElem?_eq_none (by rw [length_zrow, Array.length_toList]; omega)]

/-- What a slice's type tells a row that is built: its elements' type, their cells, their zero. -/
def tbs (P : Program) (t : TypeId) : Option (TypeId × Nat × List Value) :=
  (P.underlying t).bind fun
    | .slice e => (P.info? e).bind fun i => i.zero.bind fun z => if z.cells.size = i.size ∧ 0 < i.size then some (e, i.size, z.cells.toList) else none
    | _ => none
theorem tbs_spec {t e : TypeId} {m : Nat} {zs : List Value} (h : tbs P t = some (e, m, zs)) : P.underlying t = some (.slice e) ∧ ∃ i z, P.info? e = some i ∧ i.zero = some z ∧ i.size = m ∧ z.cells.toList = zs ∧ z.cells.size = m ∧ 0 < m := by
  unfold tbs at h
  cases hu : P.underlying t with
  | none => rw [hu] at h; simp at h
  | some d =>
    rw [hu] at h
    cases d <;> first | (rename_i e'; dsimp only at h) | skip
    all_goals first | (simp at h; done) | skip
    rename_i e'
    cases hi : P.info? e' with
    | none => simp [hi] at h
    | some i =>
      cases hz : i.zero with
      | none => simp [hi, hz] at h
      | some z =>
        simp only [hi, hz, Option.bind_some] at h
        split at h
        · rename_i hc
          simp at h
          obtain ⟨rfl, rfl, rfl⟩ := h
          exact ⟨rfl, i, z, hi, hz, rfl, rfl, hc.1, hc.2⟩
        · simp at h
def bplaces (m : Nat) : Nat → Nat → List (Nat × Nat)
  | 0, _ => []
  | n + 1, o => (o, m) :: bplaces m n (o + m)
@[go_sem] theorem bplaces_zero (m o : Nat) : bplaces m 0 o = [] := rfl
@[go_sem] theorem bplaces_succ (m n o : Nat) : bplaces m (n + 1) o = (o, m) :: bplaces m n (o + m) := rfl
theorem bplaces_get (m : Nat) : ∀ (n o i : Nat) (x : Nat × Nat), (bplaces m n o)[i]? = some x → some (o + i * m, m) = some x
  | 0, o, i, x, h => by simp [bplaces] at h
  | n + 1, o, 0, x, h => by simpa [bplaces] using h
  | n + 1, o, i + 1, x, h => by
    have := bplaces_get m n (o + m) i x (by simpa [bplaces] using h)
    rw [← this, Nat.add_mul]; congr 2; omega
@[go_sem] theorem x_buildSlice (t ty : TypeId) (n : Nat) (parts : List (Nat × Operand)) (K : Value → World → Prop) (w : World) (hn : 0 < n) (hn2 : n ≤ 1000) :
    OpX P (.buildSlice t n parts.toArray) ty K w = OrK ((tbs P t).bind fun q => if q.2.1 ≤ 1000 then (partV parts).bind fun vs => (fillL (bplaces q.2.1 n 0) (zrow q.2.2 n).toArray vs).map fun c => (q.1, c) else none) (fun r => K (.slice (some ⟨w.heap.size, 0, none⟩) n n) (w.alloc (.cells r.2 r.1))) (OpX P (.buildSlice t n parts.toArray) ty K w) () := by
  refine OrK_by (fun r h => ?_) rfl
  obtain ⟨⟨e, m, zs⟩, hq, h⟩ := Option.bind_eq_some_iff.1 h
  dsimp only at h
  split at h
  · rename_i hm
    obtain ⟨vs, hv, h⟩ := Option.bind_eq_some_iff.1 h
    obtain ⟨c, hf, rfl⟩ := Option.map_eq_some_iff.1 h
    obtain ⟨hu, i, z, hi, hz, hs, hzs, hzn, h0⟩ := tbs_spec hq
    subst hs
    have hle : n * i.size ≤ 1000 * 1000 := Nat.mul_le_mul hn2 hm
    have hpos : 0 < n * i.size := Nat.mul_pos hn h0
    refine OpX_ok fun ρ hg => ?_
    have hfill := fill_eq (fun j => some (j * i.size, i.size)) (bplaces i.size n 0) (fun j x hx => by simpa using bplaces_get _ _ _ _ _ hx) vs _ c hf
    rw [← hzs, ← zrow_eq z.cells n i.size hzn h0] at hfill
    have hp := partV_spec hg hv
    have hr := run_buildSlice (P := P) w t e n (vs.toArray) c i z hu hi hz (by omega) (by omega) (by simpa using hfill)
    simp only [execOp, mkOper, List.map_toArray, hp]
    rw [Sem.run_bind, hr]
    rfl
  · simp at h

/-! ### Rows that are made -/
/-- .. and how many bytes an element has. -/
def tmk (P : Program) (t : TypeId) : Option (TypeId × Nat × List Value × Nat) := (tbs P t).bind fun q => (tbytes P q.1).map fun b => (q.1, q.2.1, q.2.2, b)
theorem make_ok {t ty e : TypeId} {m b : Nat} {zs : List Value} {kl kc : IntKind} {l c : Int} {K : Value → World → Prop} {w : World} (ht : tmk P t = some (e, m, zs, b)) (h0 : 0 ≤ l) (hlc : l ≤ c)
    (hcells : c.toNat * m ≤ 16777216) (hbytes : (b : Int) * c ≤ 281474976710656) (h63 : c ≤ 9223372036854775807) :
    OpX P (.makeSlice t (.const (.int kl l)) (.const (.int kc c))) ty K w = K (.slice (some ⟨w.heap.size, 0, none⟩) l.toNat c.toNat) (w.alloc (.cells (zrow zs c.toNat).toArray e)) := by
  obtain ⟨⟨e', m', zs'⟩, hq, h⟩ := Option.bind_eq_some_iff.1 ht
  obtain ⟨b', hb0, h⟩ := Option.map_eq_some_iff.1 h
  simp only [Prod.mk.injEq] at h
  obtain ⟨rfl, rfl, rfl, rfl⟩ := h
  obtain ⟨hu, i, z, hi, hz, hs, hzs, hzn, hm⟩ := tbs_spec hq
  have hb : i.bytes = b' := by
    unfold tbytes at hb0
    rw [hi] at hb0
    simpa using hb0
  subst hs; subst hb
  have hr := run_makeSlice (P := P) (w := w) t e' i z hu hi hz kl kc l c h0 hlc hcells hbytes h63
  have e1 : madeCells z.cells (c.toNat * i.size) = (zrow zs' c.toNat).toArray := by
    rw [← hzs, ← zrow_eq z.cells c.toNat i.size hzn hm]
    rfl
  rw [e1] at hr
  refine OpX_ok fun ρ hg => ?_
  simp [execOp, mkOper, hg.1, hr]

/-! ### Rows that are copied -/
theorem copy_ok {t t' ty : TypeId} {m : Nat} {b o dl dc b' o' sl sc : Nat} {cs : List Value} {x' : Obj} {K : Value → World → Prop} {w : World} (ht : tslice P t = some m) (hl : cs.length = min sl dl * m)
    (hsrc : ∀ j u, cs[j]? = some u → cellAt w.heap[b']? (o' + j) = some u) (hok : okCells cs = true) (hput : putAt w.heap[b]? o cs = some x') :
    OpX P (.call { callee := .builtin .copy, args := #[.const (.slice (some ⟨b, o, none⟩) dl dc), .const (.slice (some ⟨b', o', none⟩) sl sc)], argTypes := #[t, t'] }) ty K w = K (.int .i64 (min sl dl : Nat)) (setBlk w b x') := by
  obtain ⟨e, hu, hs⟩ := tslice_u ht
  have hf := run_firstCells_some (P := P) w m (min sl dl) ⟨b', o', none⟩ sl sc cs hl (fun j u hj => by rw [add_mk, cell?_at]; exact hsrc j u hj)
  have hst := run_storeV (P := P) hput hok
  refine OpX_ok fun ρ hg => ?_
  have hm : Nat.min sl dl = min sl dl := rfl
  simp [execOp, mkOper, resolve, invoke, builtin, hg.1, Builtin.copy_, run_underlying hu, run_size hs, Builtin.lenOf, goInt, hm, hf, hst]
end
end Lyc
