/-
  This seat's program, and how a function that a program wrote out is linked to it.
-/
import Derived.Test.YtdjdeahmhenchaaLycOps4
import Derived.Test.YtdjdeahmhenchaaProg
set_option linter.unusedSimpArgs false
set_option linter.unusedVariables false
namespace Lyc
open Go
/-- A region that draws: one draw ahead of it. -/
def DrewW (M : World → Prop) (w : World) : Prop := M w.drew
@[go_sem] theorem DrewW_go (M : World → Prop) (w : World) : DrewW M w = M w.drew := rfl
theorem calls_of_def {P : Program} {f : FuncId} {fn : Func} {K : Value → World → Prop} {w : World} (args : List Value) (hs : Hints) (hm : P.follows .mixedOrders = true) (hf : P.funcs[f]? = some fn)
    (hb : fn.body.isSome = true) (hN : (wfc fn.ntmps (fn.body.getD .skip) && Nat.ble fn.ntmps DK) = true) (ha : Nat.ble args.length fn.ntmps = true) {X : Prop} (hX : X = tr P true hs (fn.body.getD .skip) 0 (retQ P fn.results.toList K) (enterD args) w) (h : X) :
    Calls P f args.toArray w (retK K) := by
  cases hc : fn.body with
  | none => rw [hc] at hb; simp at hb
  | some c =>
    have e : fn.body.getD .skip = c := by rw [hc]; rfl
    rw [e] at hN hX
    simp only [Bool.and_eq_true] at hN
    exact calls_of_tr hm hf hc hN.1 (Nat.le_of_ble_eq_true hN.2) (Nat.le_of_ble_eq_true ha) (hX ▸ h)
end Lyc
namespace Go.Proofs.Ytdjdeahmhenchaa
open Lyc Go
theorem mixed : Try.prog.follows .mixedOrders = true := by kernel_rfl
end Go.Proofs.Ytdjdeahmhenchaa
