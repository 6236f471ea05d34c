/-
  Loops over functions: how a proof takes them; empty rows that are built. It names no program.
-/
import Derived.Test.YtdjdeahmhenchaaLycOps8
set_option linter.unusedSimpArgs false
set_option linter.unusedVariables false
namespace Lyc
open Go
section
variable {P : Program}

@[go_sem] theorem nthV_zero (v : Value) (l : List Value) : nthV (v :: l) 0 = v := rfl
@[go_sem] theorem nthV_succ (v : Value) (l : List Value) (n : Nat) : nthV (v :: l) (n + 1) = nthV l n := rfl
@[go_sem] theorem nthV_one (v u : Value) (l : List Value) : nthV (v :: u :: l) 1 = u := rfl
/-- One mark is taken up as the function returns. -/
theorem close_one (r : Nat) (K : World → Prop) (w : World) : closeV (dcons r (.tuple #[])) K w = (w.heap[r]? = some (.deferred (some [])) ∧ K (setBlk w r (.deferred none))) := by
  show closeA [.int .i64 (r : Int)] K w = _
  simp [closeA]
theorem close_by {r : Nat} {K : World → Prop} {w : World} (h : w.heap[r]? = some (.deferred (some []))) (hk : K (setBlk w r (.deferred none))) : closeV (dcons r (.tuple #[])) K w := by
  rw [close_one]; exact ⟨h, hk⟩
theorem close_two {r s : Nat} {K : World → Prop} {w : World} (hne : r ≠ s) (h : w.heap[r]? = some (.deferred (some []))) (h2 : w.heap[s]? = some (.deferred (some []))) (hk : K (setBlk (setBlk w s (.deferred none)) r (.deferred none))) : closeV (dcons s (dcons r (.tuple #[]))) K w := by
  show closeA [.int .i64 (s : Int), .int .i64 (r : Int)] K w
  simp only [closeA, Int.toNat_natCast]
  refine ⟨h2, ?_, hk⟩
  rw [heap_set_other _ _ _ _ hne]; exact h

theorem Chg.low_drew {F : List Nat} {w w' : World} (h : Chg F w.drew w') : Chg F w w' := ⟨h.os, h.tape, h.output, h.size, h.same⟩
/-- The world is given a name. -/
theorem OpX.gen {o : Op} {ty : TypeId} {K : Value → World → Prop} {w : World} (h : ∀ w0, w0 = w → OpX P o ty K w0) : OpX P o ty K w := h w rfl
theorem chg_a1 (w : World) (x : Obj) : Chg [] w (w.alloc x) := (Chg.refl _ _).alloc _
theorem chg_a2 (w : World) (x y : Obj) : Chg [] w ((w.alloc x).alloc y) := (chg_a1 _ _).alloc _
theorem chg_a3 (w : World) (x y z : Obj) : Chg [] w (((w.alloc x).alloc y).alloc z) := (chg_a2 _ _ _).alloc _
theorem chg_a4 (w : World) (x y z u : Obj) : Chg [] w ((((w.alloc x).alloc y).alloc z).alloc u) := (chg_a3 _ _ _ _).alloc _
theorem chg_a5 (w : World) (x y z u v : Obj) : Chg [] w (((((w.alloc x).alloc y).alloc z).alloc u).alloc v) := (chg_a4 _ _ _ _ _).alloc _
theorem chg_a6 (w : World) (x y z u v t : Obj) : Chg [] w ((((((w.alloc x).alloc y).alloc z).alloc u).alloc v).alloc t) := (chg_a5 _ _ _ _ _ _).alloc _
theorem argV_map : ∀ vs : List Value, argV (vs.map Operand.const) = some vs
  | [] => rfl
  | v :: vs => by simp [argV, argV_map vs]
theorem YCall.of {f : FuncId} {us cs vs : List Value} {K : Value → World → Prop} {w : World} (hb : Bodied P f) (h : Calls P f (us ++ vs ++ cs).toArray w (retK K)) : YCall P (.func (.func f) us.toArray cs.toArray) vs K w :=
  fun _ _ => OpX.callV hb (argV_map vs) h
/-- A call of a value that is called, as it stands in code. -/
theorem YCall.use {yv : Value} {vs : List Value} {K K' : Value → World → Prop} {w : World} {ats : Array TypeId} {ty : TypeId} (h : YCall P yv vs K w) (hk : ∀ v w', K v w' → K' v w') :
    OpX P (.call { callee := .value (.const yv), args := (vs.map Operand.const).toArray, argTypes := ats }) ty K' w := by
  obtain ⟨h⟩ := h ats ty
  refine ⟨fun ρ hg => ?_⟩
  have := h ρ hg
  revert this
  generalize (execOp ρ _).run P w = r
  intro this
  unfold Upon at this ⊢
  split at this
  · exact hk _ _ this
  · exact hk _ _ this
  · exact Calls.ret this hk
  · obtain ⟨h⟩ := this
    exact ⟨fun c cs => let ⟨v, w', h1, h2⟩ := h c cs; ⟨v, w', hk _ _ h1, h2⟩⟩
  · exact fun c cs => by
      obtain ⟨v, w', h1, h2⟩ := this c cs
      exact ⟨v, w', hk _ _ h1, h2⟩
  · obtain ⟨h1, ⟨h2⟩⟩ := this
    exact ⟨h1, ⟨fun fr cs es he => let ⟨v, w', h3, h4⟩ := h2 fr cs es he; ⟨v, w', hk _ _ h3, h4⟩⟩⟩
  · exact this.elim

@[go_sem] theorem x_buildSlice0 (t ty : TypeId) (K : Value → World → Prop) (w : World) :
    OpX P (.buildSlice t 0 #[]) ty K w = OrK (tbs P t) (fun q => K (.slice (some ⟨w.heap.size, 0, none⟩) 0 0) (w.alloc (.cells #[] q.1))) (OpX P (.buildSlice t 0 #[]) ty K w) () := by
  refine OrK_by (fun q h => ?_) rfl
  obtain ⟨e, m, zs⟩ := q
  obtain ⟨hu, i, z, hi, hz, hs, hzs, hzn, h0⟩ := tbs_spec h
  refine OpX_ok fun ρ hg => ?_
  simp [execOp, mkOper, Instr.buildSlice, run_underlying hu, Go.sizeOf, typeInfo, hi, newRow, Instr.fill]
  congr 2
  apply Array.ext <;> simp

/-- A part of one's row is written. -/
theorem copy_raw {t t' ty : TypeId} {m b o dl dc : Nat} {pre old new post : List Value} {e : TypeId} {b' o' sl sc : Nat} {K : Value → World → Prop} {w : World} (ht : tslice P t = some m)
    (hb : w.heap[b]? = some (.cells (pre ++ old ++ post).toArray e)) (ho : pre.length = o) (hlen : new.length = old.length) (hn : new.length = min sl dl * m) (hok : okCells new = true)
    (hsrc : ∀ j u, new[j]? = some u → cellAt w.heap[b']? (o' + j) = some u) (hk : K (.int .i64 (min sl dl : Nat)) (setBlk w b (.cells (pre ++ new ++ post).toArray e))) :
    OpX P (.call { callee := .builtin .copy, args := #[.const (.slice (some ⟨b, o, none⟩) dl dc), .const (.slice (some ⟨b', o', none⟩) sl sc)], argTypes := #[t, t'] }) ty K w := by
  rw [copy_ok (cs := new) (x' := .cells (pre ++ new ++ post).toArray e) ht hn hsrc hok (by rw [hb]; exact putAt_mid pre old new post e o ho hlen)]
  exact hk
/-- Nothing, cut from its beginning on. -/
theorem r_slice_lo_nil (t ty : TypeId) (len cap n : Nat) (h : tslice P t = some n) : PureRun P (.slice t (.const (.slice none len cap)) (some (.const (.int .i64 0))) none none) ty (.slice none len cap) := by
  obtain ⟨e, hu, hs⟩ := tslice_u h
  refine ⟨fun ρ hg w => ?_⟩
  simp [execOp, mkOper, hg.1, Instr.sliceAt, Instr.slice, Instr.sliceBounds, Instr.sliceBound, asIntOf, run_underlying hu, run_size hs]
@[go_sem] theorem x_slice_lo_nil (t ty : TypeId) (len cap : Nat) (K : Value → World → Prop) (w : World) : OpX P (.slice t (.const (.slice none len cap)) (some (.const (.int .i64 0))) none none) ty K w = OrK (tslice P t) (fun _ => K (.slice none len cap) w) (OpX P (.slice t (.const (.slice none len cap)) (some (.const (.int .i64 0))) none none) ty K w) () :=
  OrK_by (fun _ h => (r_slice_lo_nil t ty len cap _ h).op K w) rfl
end
end Lyc
