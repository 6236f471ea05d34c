/-
  Loops over a map whose entries stay: what the iterator tells, step by step. It names no program.
-/
import Derived.Test.YtdjdeahmhenchaaLycOps6
import Derived.Maps.RangeRun
set_option linter.unusedSimpArgs false
set_option linter.unusedVariables false
namespace Lyc
open Go
section
variable {P : Program}
theorem range_map {t ty r c : Nat} {es : Array MapEntry} {K : Value → World → Prop} {w : World} (ht : tkind P t = some 5) (hh : w.heap[r]? = some (.map es c)) :
    OpX P (.range t (.const (.map (some r)))) ty K w = K (.pointer (some ⟨w.heap.size, 0, none⟩)) (w.alloc (.mapIter (some r) c #[] c)) := by
  obtain ⟨k, e, hu⟩ := tkind_5 ht
  refine OpX_ok fun ρ hg => ?_
  simp [execOp, mkOper, hg.1, Instr.range, run_underlying hu, run_getMap hh, newObj_ok]
theorem next_map {ty it r c : Nat} {seen : Array Nat} {es : Array MapEntry} {K : Value → World → Prop} {w : World} (hi : w.heap[it]? = some (.mapIter (some r) c seen c)) (hh : w.heap[r]? = some (.map es c)) (hb : ∀ x ∈ es.toList, x.born < c)
    (hover : (∀ x ∈ es.toList, x.born ∈ seen.toList) → K (.tuple #[.bool false]) w)
    (hstep : ∀ e ∈ es.toList, e.born ∉ seen.toList → ∀ w1, (w1 = w ∨ w1 = w.drew) → K (.tuple #[.bool true, e.key, e.val]) (setBlk w1 it (.mapIter (some r) c (seen.push e.born) c))) :
    OpX P (.next (.const (.pointer (some ⟨it, 0, none⟩))) false) ty K w := by
  refine ⟨fun ρ hg => ?_⟩
  have e : execOp ρ (mkOper (.next (.const (.pointer (some ⟨it, 0, none⟩))) false) ty) = (do return Next.value (← Instr.next (.pointer (some ⟨it, 0, none⟩)) false ty)) := by
    simp [execOp, mkOper, hg.1]
  rw [e]
  rcases run_next_at (P := P) w ty it r c c seen es c hi hh hb (Nat.le_refl _) with ⟨h0, hr⟩ | ⟨x, hx, w1, hw, hr⟩
  · rw [Sem.run_bind, hr]
    refine hover fun x hx => ?_
    have : leftOf es seen = #[] := Array.eq_empty_of_size_eq_zero h0
    unfold leftOf at this
    rw [Array.filter_eq_empty_iff] at this
    have := this x (by simpa using hx)
    simpa using this
  · rw [Sem.run_bind, hr]
    unfold leftOf at hx
    simp at hx
    exact hstep x (by simpa using hx.1) (by simpa using hx.2) w1 hw
theorem entry_map {ty it r c : Nat} {seen : Array Nat} {es : Array MapEntry} {e : MapEntry} {K : Value → World → Prop} {w : World} (hi : w.heap[it]? = some (.mapIter (some r) c (seen.push e.born) c)) (hh : w.heap[r]? = some (.map es c)) (he : e ∈ es.toList) (hn : (es.toList.map (·.born)).Nodup)  :
    OpX P (.entry (.const (.pointer (some ⟨it, 0, none⟩)))) ty K w = K (.tuple #[e.key, e.val]) w := by
  refine OpX_ok fun ρ hg => ?_
  simp [execOp, mkOper, hg.1, run_entry_at w it r c seen es c e hi hh he hn]
end
end Lyc
