/-
  This seat's program, and how a function that a program wrote out is linked to it.
-/
import Derived.Test.YtdjdeahmhenchaaLycOps4
import Derived.Test.YtdjdeahmhenchaaProg
set_option linter.unusedSimpArgs false
set_option linter.unusedVariables false
namespace Lyc
open Go
/-- A region that draws: one draw ahead of it. -/
def DrewW (M : World → Prop) (w : WK M) : Prop := M w.drew
@[go_sem] theorem DrewW_go (M : World → Prop) (w : World) : DrewW M w = M w.drew := rfl
theorem calls_of_def {P : Program} {f : FuncId} {fn : Func} {K : Value → World → Prop} {w : World} (args : List Value) (hs : Hints) (hm : P.follows .mixedOrders = true) (hf : P.funcs[f]? = some fn)
    (hb : fn.body.isSome = true) (hN : (wfc fn.ntmps (fn.body.getD .skip) && Nat.ble fn.ntmps DK) = true) (ha : Nat.ble args.length fn.ntmps = true) {X : Prop} (hX : X = tr P true hs (fn.body.getD .skip) 0 (retQ P fn.results.toList K) (enterD args) w) (h : X) :
    Calls P f args.toArray w (retK K) := by
  cases hc : fn.body with
  | none => rw [hc] at hb; simp at hb
  | some c =>
    have e : fn.body.getD .skip = c := by rw [hc]; rfl
    rw [e] at hN hX
    simp only [Bool.and_eq_true] at hN
    exact calls_of_tr hm hf hc hN.1 (Nat.le_of_ble_eq_true hN.2) (Nat.le_of_ble_eq_true ha) (hX ▸ h)
end Lyc
namespace Go.Proofs.Ytdjdeahmhenchaa
open Lyc Go
theorem mixed : Try.prog.follows .mixedOrders = true := by kernel_rfl
/-! Short words for the operations of a function that a program wrote out. -/
@[go_sem] def xL (t : TypeId) (a : Value) (k : Value → World → Prop) (w : WK k) : Prop := OpX Try.prog (.load t (.const a)) t k w
@[go_sem] def xS (t : TypeId) (a b : Value) (r : World → Prop) (w : WK r) : Prop := OpX Try.prog (.store t (.const a) (.const b)) 0 (fun _ => r) w
@[go_sem] def xF (t : TypeId) (a : Value) (i : Nat) (k : Value → World → Prop) (w : WK k) : Prop := OpX Try.prog (.fieldAddr t (.const a) i) 0 k w
@[go_sem] def xI (t : TypeId) (a b : Value) (k : Value → World → Prop) (w : WK k) : Prop := OpX Try.prog (.indexAddr t (.const a) (.const b)) 0 k w
@[go_sem] def xB (t : TypeId) (a : Value) (k : Value → World → Prop) (w : WK k) : Prop := OpX Try.prog (.box t (.const a)) 0 k w
@[go_sem] def xA (t : TypeId) (k : Value → World → Prop) (w : WK k) : Prop := OpX Try.prog (.alloc t) 0 k w
@[go_sem] def xE (a : Value) (i : Nat) (t : TypeId) (k : Value → World → Prop) (w : WK k) : Prop := OpX Try.prog (.extract (.const a) i) t k w
@[go_sem] def xN (t : TypeId) (a : Value) (k : Value → World → Prop) (w : WK k) : Prop := OpX Try.prog (.unOp .not t (.const a)) t k w
@[go_sem] def xC (f : FuncId) (l : List Operand) (ts : List TypeId) (t : TypeId) (k : Value → World → Prop) (w : WK k) : Prop := OpX Try.prog (.call { callee := .value (.func f), args := l.toArray, argTypes := ts.toArray }) t k w
@[go_sem] def xU (a : Value) (t : TypeId) (k : Value → World → Prop) (w : WK k) : Prop := OpX Try.prog (.call { callee := .builtin .len, args := #[.const a], argTypes := #[t] }) 3 k w
@[go_sem] def xO (op : BinOp) (t : TypeId) (a b : Value) (k : Value → World → Prop) (w : WK k) : Prop := BinX Try.prog op t a b k w
@[go_sem] def xW (v : Value) (A B : World → Prop) (w : WK2 A B) : Prop := BrW v (A w) (B w) ()
@[go_sem] def xX (_ : World) : Prop := False
@[go_sem] def qP (op : BinOp) (t : TypeId) (a b : Value) (k : Value → World → Prop) (w : WK k) : Prop := PurB Try.prog op t a b (fun v => k v w) ()
@[go_sem] def qR (op : BinOp) (t : TypeId) (a b : Value) (k : Value → World → Prop) (w : WK k) : Prop := RdB Try.prog op t a b (fun v => k v w) w
@[go_sem] def qY (op : BinOp) (t : TypeId) (a b v : Value) (w : World) : Prop := YldB Try.prog op t a b v w
@[go_sem] def qL (t : TypeId) (a : Value) (k : Value → World → Prop) (w : WK k) : Prop := RdX Try.prog (.load t (.const a)) t (fun v => k v w) w
@[go_sem] def qZ (t : TypeId) (a v : Value) (w : World) : Prop := Yld Try.prog (.load t (.const a)) t v w
@[go_sem] def qF (t : TypeId) (a : Value) (i : Nat) (k : Value → World → Prop) (w : WK k) : Prop := PurX Try.prog (.fieldAddr t (.const a) i) 0 (fun v => k v w) ()
@[go_sem] def xP (op : Op) (t : TypeId) (k : Value → World → Prop) (w : WK k) : Prop := PurX Try.prog op t (fun v => k v w) ()
@[go_sem] def xR (op : Op) (t : TypeId) (k : Value → World → Prop) (w : WK k) : Prop := RdX Try.prog op t (fun v => k v w) w
@[go_sem] def xY (op : Op) (t : TypeId) (v : Value) (w : World) : Prop := Yld Try.prog op t v w
@[go_sem] def xT (A B : World → Prop) (w : WK2 A B) : Prop := A w ∧ B w
@[go_sem] def xD (t : TypeId) (a : Value) (k : Value → World → Prop) (w : WK k) : Prop := LdR Try.prog t a k w
/-- A function's transformer is linked to its calls. -/
abbrev Lk (n : FuncId) (args : Array Value) (f : (Value → World → Prop) → World → Prop) : Prop :=
  ∀ {R : Value → World → Prop} {w : World}, (∀ K : Value → World → Prop, (∀ v w', R v w' → K v w') → f K w) → Calls Try.prog n args w (retK R)
theorem lk {n : FuncId} {fn : Func} {f : (Value → World → Prop) → World → Prop} (args : List Value) (hs : Hints) (hf : Try.prog.funcs[n]? = some fn)
    (hb : (fn.body.isSome && (wfc fn.ntmps (fn.body.getD .skip) && Nat.ble fn.ntmps DK) && Nat.ble args.length fn.ntmps) = true)
    (hX : ∀ (K : Value → World → Prop) (w : World), f K w = tr Try.prog true hs (fn.body.getD .skip) 0 (retQ Try.prog fn.results.toList K) (enterD args) w) : Lk n args.toArray f := by
  intro R w h
  rw [Bool.and_eq_true, Bool.and_eq_true] at hb
  exact calls_of_def args hs mixed hf hb.1.1 hb.1.2 hb.2 (hX R w) (h R fun _ _ h => h)
theorem bd {n : FuncId} {fn : Func} (hf : Try.prog.funcs[n]? = some fn) (hb : (fn.body.isNone || fn.name == "runtime.NumGoroutine") = false) : Bodied Try.prog n := by
  rw [Bool.or_eq_false_iff] at hb
  exact ⟨fn, hf, hb.1, hb.2⟩
end Go.Proofs.Ytdjdeahmhenchaa
