/-
  A base for proofs over the machine of one goroutine: steps of a frame, whatever it is a round of, and a weakest precondition for code. It names no program.
-/
import Derived.WalkKit
set_option linter.unusedSimpArgs false
set_option linter.unusedVariables false
namespace Lyc
open Go

/-- A frame's place: its temporaries and deferred calls out of 'a', what is left to do. -/
def At (b : Frame) (a : Act) (todo : List Item) : Frame := { b with tmps := a.tmps, defers := a.defers, todo := todo, mode := .run }

theorem At_eval (b : Frame) (a : Act) (todo : List Item) : (At b a todo).eval = a.eval := by
  funext x; cases x <;> rfl

def setBlk (w : World) (b : Nat) (o : Obj) : World := { w with heap := w.heap.setIfInBounds b o }
/-- Function f has a body of Go's. -/
def Bodied (P : Program) (f : FuncId) : Prop := ∃ fn, P.funcs[f]? = some fn ∧ fn.body.isNone = false ∧ (fn.name == "runtime.NumGoroutine") = false
theorem run_callFunc {P : Program} {f : FuncId} (h : Bodied P f) (args : Array Value) (w : World) : (callFunc f args).run P w = .ok (.enter f args) w := by
  obtain ⟨fn, h1, h2, h3⟩ := h
  have h2' : fn.body ≠ none := by intro h; rw [h] at h2; simp at h2
  have h3' : fn.name ≠ "runtime.NumGoroutine" := by simpa using h3
  simp [callFunc, h1, h2', h3']

section steps
variable {P : Program} {b : Frame} {a : Act} {k : List Item} {cs : List Frame} {w : World}

theorem st_skip : step P (lone (At b a (.code .skip :: k)) cs w) = .next (lone (At b a k) cs w) :=
  step_lone_go (by simp [stepG, stepG.exec, At])
theorem st_inBlock {id : Nat} : step P (lone (At b a (.inBlock id :: k)) cs w) = .next (lone (At b a k) cs w) :=
  step_lone_go (by simp [stepG, stepG.exec, At])
theorem st_inScope {c : Code} : step P (lone (At b a (.inScope c :: k)) cs w) = .next (lone (At b a k) cs w) :=
  step_lone_go (by simp [stepG, stepG.exec, At])
theorem st_seq {x y : Code} : step P (lone (At b a (.code (.seq x y) :: k)) cs w) = .next (lone (At b a (.code x :: .code y :: k)) cs w) :=
  step_lone_go (by simp [stepG, stepG.exec, At])
theorem st_cond {c : Operand} {x y : Code} {t : Bool} (h : a.eval c = .bool t) :
    step P (lone (At b a (.code (.cond c x y) :: k)) cs w) = .next (lone (At b a (.code (if t then x else y) :: k)) cs w) :=
  step_lone_go (by
    have := congrFun (At_eval b a (.code (.cond c x y) :: k)) c
    simp only [At] at this
    simp [stepG, stepG.exec, At, this, h])
theorem st_block {id : Nat} {c : Code} : step P (lone (At b a (.code (.block id c) :: k)) cs w) = .next (lone (At b a (.code c :: .inBlock id :: k)) cs w) :=
  step_lone_go (by simp [stepG, stepG.exec, At])
theorem st_loop {c : Code} : step P (lone (At b a (.code (.loop c) :: k)) cs w) = .next (lone (At b a (.code c :: .inLoop c :: k)) cs w) :=
  step_lone_go (by simp [stepG, stepG.exec, At])
theorem st_inLoop {c : Code} : step P (lone (At b a (.inLoop c :: k)) cs w) = .next (lone (At b a (.code c :: .inLoop c :: k)) cs w) :=
  step_lone_go (by simp [stepG, stepG.exec, At])
theorem st_exit {id : Nat} {k' : List Item} (h : exitTo id k = some k') :
    step P (lone (At b a (.code (.exit id) :: k)) cs w) = .next (lone (At b a k') cs w) :=
  step_lone_go (by simp [stepG, stepG.exec, At, h])
theorem st_region {id : Nat} {ops : Array Oper} :
    step P (lone (At b a (.code (.region id ops false) :: k)) cs w) = .next (lone (At b a (.inRegion ops (List.range ops.size) :: k)) cs w) :=
  step_lone_go (by simp [stepG, stepG.exec, At])
theorem st_regionDraw {id : Nat} {ops : Array Oper} :
    step P (lone (At b a (.code (.region id ops true) :: k)) cs w) =
      .next (lone (At b a (.inRegion ops (Region.schedule (P.follows .mixedOrders) ops (w.tape w.drawn (.order b.fn id))) :: k)) cs { w with drawn := w.drawn + 1 }) :=
  step_lone_go (by simp [stepG, stepG.exec, At, choose, Sem.run, Question.forced, Question.cut])
theorem st_regionEnd {ops : Array Oper} : step P (lone (At b a (.inRegion ops [] :: k)) cs w) = .next (lone (At b a k) cs w) :=
  step_lone_go (by simp [stepG, stepG.exec, At])
theorem finish_At (ops : Array Oper) (i : Nat) (rest : List Nat) (v : Value) :
    (At b a (.inRegion ops (i :: rest) :: k)).finish v = At b (a.put ((ops[i]?).bind (·.dst)) v) (.inRegion ops rest :: k) := by
  cases h : (ops[i]?).bind (·.dst) <;> simp [Frame.finish, At, Act.put, h]
theorem st_opSkip {ops : Array Oper} {i : Nat} {rest : List Nat} (h : ((ops[i]?).map (Region.wanted · (yielded ops a.tmps))).getD false = false) :
    step P (lone (At b a (.inRegion ops (i :: rest) :: k)) cs w) = .next (lone (At b (a.put ((ops[i]?).bind (·.dst)) undef) (.inRegion ops rest :: k)) cs w) := by
  rw [← finish_At]
  exact step_lone_go (by
    have h' := h
    simp only [At] at *
    simp [stepG, stepG.exec, h'])
end steps

section rangeSteps
variable {P : Program} {b : Frame} {a : Act} {k : List Item} {cs : List Frame} {w : World}
theorem newObj_ok (o : Obj) : (newObj o).run P w = .ok w.heap.size (w.alloc o) := by simp [newObj, Sem.run]
theorem getLoop_ok {l : Nat} {L : Loop} (h : w.heap[l]? = some (.loop L)) : (Instr.getLoop l).run P w = .ok L w := by simp [Instr.getLoop, getObj, Sem.run, h]
theorem setLoop_ok {l : Nat} {L : Loop} {o : Obj} (h : w.heap[l]? = some (.loop L)) : (setObj l o).run P w = .ok () (setBlk w l o) := by simp [setObj, Sem.run, setBlk, h]
theorem getDef_ok {r : Nat} {d : Option (List Deferred)} (h : w.heap[r]? = some (.deferred d)) : (getObj r).run P w = .ok (.deferred d) w := by simp [getObj, Sem.run, h]
theorem setDef_ok {r : Nat} {d : Option (List Deferred)} {o : Obj} (h : w.heap[r]? = some (.deferred d)) : (setObj r o).run P w = .ok () (setBlk w r o) := by simp [setObj, Sem.run, setBlk, h]
/-- A loop over a function is entered. -/
theorem st_rangeFunc {f : Operand} {params : Array Tmp} {assign body : Code} {g : FuncId} {us vs : Array Value} (hro : b.roundOf = none) (hf : a.eval f = .func (.func g) us vs) (hg : Bodied P g) :
    step P (lone (At b a (.code (.rangeFunc f params assign body) :: k)) cs w) =
      .next (lone (Frame.enter P g (us ++ #[.func (.yield (w.heap.size + 1)) #[] #[]] ++ vs) .normal)
        (At b { a with defers := { target := .collected w.heap.size, args := #[] } :: a.defers } (.inRangeFunc (w.heap.size + 1) :: k) :: cs)
        ((w.alloc (.deferred (some []))).alloc (.loop { state := .ready, pending := none, fn := b.fn, tmps := a.tmps, params, assign, body, defers := w.heap.size }))) := by
  have he := congrFun (At_eval b { a with defers := { target := .collected w.heap.size, args := #[] } :: a.defers } (.inRangeFunc (w.heap.size + 1) :: k)) f
  simp only [At, hro] at he
  have hf' : Act.eval { tmps := a.tmps, defers := { target := .collected w.heap.size, args := #[] } :: a.defers } f = .func (.func g) us vs := by rw [← hf]; cases f <;> rfl
  refine step_lone_go ?_
  simp [stepG, stepG.exec, At, hro, Instr.enterLoop, newObj_ok, stepG.apply, Sem.runT_eq, resolve, he, hf', Deferred.ofValue, invoke, run_callFunc hg, GStep.after]
  simp [Frame.eval, Act.eval]
theorem st_beginRound {l : Nat} {L : Loop} (hro : b.roundOf = some l) (h : w.heap[l]? = some (.loop L)) (hr : L.state = .ready) :
    step P (lone (At b a (.beginRound :: k)) cs w) = .next (lone (At b a k) cs (setBlk w l (.loop { L with state := .busy }))) := by
  refine step_lone_go ?_
  simp [stepG, stepG.exec, At, hro, Instr.beginRound, getLoop_ok h, setLoop_ok h, hr, stepG.apply, Sem.runT_eq, Frame.finish]
theorem st_leaveRound {l : Nat} {L : Loop} {c : Frame} (hro : b.roundOf = some l) (hk : b.kind = .normal) (h : w.heap[l]? = some (.loop L)) :
    step P (lone (At b a []) (c :: cs) w) = .next (lone (c.finish (.bool true)) cs (setBlk w l (.loop { L with state := .ready, pending := none }))) := by
  refine step_lone_go ?_
  simp [stepG, stepG.exec, At, hro, Instr.endRound, getLoop_ok h, setLoop_ok h, Sem.runT_eq, doReturn, hk]
theorem st_leaveRet {l : Nat} {L : Loop} {c : Frame} (hro : b.roundOf = some l) (hk : b.kind = .normal) (h : w.heap[l]? = some (.loop L)) :
    step P (lone (At b a (.code .ret :: k)) (c :: cs) w) = .next (lone (c.finish (.bool false)) cs (setBlk w l (.loop { L with state := .done, pending := some .ret }))) := by
  refine step_lone_go ?_
  simp [stepG, stepG.exec, At, hro, Instr.endRound, getLoop_ok h, setLoop_ok h, Sem.runT_eq, doReturn, hk]
theorem st_leaveExit {l id : Nat} {L : Loop} {c : Frame} (hro : b.roundOf = some l) (hk : b.kind = .normal) (hx : exitTo id k = none) (h : w.heap[l]? = some (.loop L)) :
    step P (lone (At b a (.code (.exit id) :: k)) (c :: cs) w) = .next (lone (c.finish (.bool false)) cs (setBlk w l (.loop { L with state := .done, pending := some (.exit id) }))) := by
  refine step_lone_go ?_
  simp [stepG, stepG.exec, At, hx, hro, Instr.endRound, getLoop_ok h, setLoop_ok h, Sem.runT_eq, doReturn, hk]
theorem st_endRange {l : Nat} {L : Loop} (h : w.heap[l]? = some (.loop L)) (hs : L.state ≠ .busy) :
    step P (lone (At b a (.endRangeFunc l :: k)) cs w) = .next (lone (At b a ((L.pending.map Item.code).toList ++ k)) cs (setBlk w l (.loop { L with state := .exhausted }))) := by
  refine step_lone_go ?_
  simp [stepG, stepG.exec, At, Instr.endLoop, getLoop_ok h, setLoop_ok h, hs, Sem.runT_eq]
/-- A mark among the calls put off is taken up. -/
theorem st_collect {r : Nat} {d : Deferred} {ds : List Deferred} {fr : Frame} (hd : d.target = .collected r) (hf : fr.defers = d :: ds) (hm : fr.mode = .returning) (h : w.heap[r]? = some (.deferred (some []))) :
    step P (lone fr cs w) = .next (lone { fr with defers := ds } cs (setBlk w r (.deferred none))) := by
  obtain ⟨tg, args⟩ := d
  dsimp only at hd
  subst hd
  refine step_lone_go ?_
  simp [stepG, unwind, hf, hm, Instr.takeDeferred, getDef_ok h, setDef_ok h, Sem.runT_eq]
end rangeSteps

/-- The ways out of a piece of code that this library serves. -/
inductive Ex where
  | normal
  | exit (id : Nat)
  | ret

/-- From machine m the frame comes to this way out. At an exit and at a return the machine stands AT that statement. -/
def Reach (P : Program) (m : Machine) (b : Frame) (k : List Item) (cs : List Frame) : Ex → Act → World → Prop
  | .normal, a, w => Steps P m (lone (At b a k) cs w)
  | .exit id, a, w => ∃ k', exitTo id k' = exitTo id k ∧ Steps P m (lone (At b a (.code (.exit id) :: k')) cs w)
  | .ret, a, w => ∃ k', Steps P m (lone (At b a (.code .ret :: k')) cs w)

theorem Reach.of {P : Program} {m m₁ : Machine} {b : Frame} {k : List Item} {cs : List Frame} {e : Ex} {a : Act} {w : World}
    (h : Steps P m m₁) (h' : Reach P m₁ b k cs e a w) : Reach P m b k cs e a w := by
  cases e with
  | normal => exact h.trans h'
  | exit id => exact let ⟨k', e, s⟩ := h'; ⟨k', e, h.trans s⟩
  | ret => exact let ⟨k', s⟩ := h'; ⟨k', h.trans s⟩

/-- Code c, begun with a in w, comes to a way out of which Q holds, in whatever frame. -/
def WP (P : Program) (ro : Option Nat) (c : Code) (Q : Ex → Act → World → Prop) (a : Act) (w : World) : Prop :=
  ∀ (b : Frame) (k : List Item) (cs : List Frame), b.roundOf = ro → ∃ e a' w', Q e a' w' ∧ Reach P (lone (At b a (.code c :: k)) cs w) b k cs e a' w'

section rules
variable {P : Program} {ro : Option Nat} {Q : Ex → Act → World → Prop} {a : Act} {w : World}

theorem WP.mono {c : Code} {Q' : Ex → Act → World → Prop} (h : WP P ro c Q a w) (hq : ∀ e a w, Q e a w → Q' e a w) : WP P ro c Q' a w :=
  fun b k cs hro => let ⟨e, a', w', q, r⟩ := h b k cs hro; ⟨e, a', w', hq _ _ _ q, r⟩
theorem WP.skip (h : Q .normal a w) : WP P ro .skip Q a w := fun _ _ _ _ => ⟨.normal, a, w, h, .one st_skip⟩
theorem WP.exit {id : Nat} (h : Q (.exit id) a w) : WP P ro (.exit id) Q a w := fun _ k _ _ => ⟨.exit id, a, w, h, k, rfl, .refl _ _⟩
theorem WP.ret (h : Q .ret a w) : WP P ro .ret Q a w := fun _ k _ _ => ⟨.ret, a, w, h, k, .refl _ _⟩

def Ex.thn (next : Act → World → Prop) (Q : Ex → Act → World → Prop) : Ex → Act → World → Prop
  | .normal, a, w => next a w
  | e, a, w => Q e a w

theorem WP.seq {x y : Code} (h : WP P ro x (Ex.thn (WP P ro y Q) Q) a w) : WP P ro (.seq x y) Q a w := by
  intro b k cs hro
  obtain ⟨e, a₁, w₁, hq, hr⟩ := h b (.code y :: k) cs hro
  cases e with
  | normal =>
    obtain ⟨e₂, a₂, w₂, hq₂, hr₂⟩ := hq b k cs hro
    exact ⟨e₂, a₂, w₂, hq₂, .of (.head st_seq hr) hr₂⟩
  | exit id => exact ⟨_, a₁, w₁, hq, let ⟨k', he, s⟩ := hr; ⟨k', he, .head st_seq s⟩⟩
  | ret => exact ⟨_, a₁, w₁, hq, let ⟨k', s⟩ := hr; ⟨k', .head st_seq s⟩⟩

theorem WP.cond {c : Operand} {x y : Code} {t : Bool} (hc : a.eval c = .bool t) (h : WP P ro (if t then x else y) Q a w) : WP P ro (.cond c x y) Q a w :=
  fun b k cs hro => let ⟨e, a', w', q, r⟩ := h b k cs hro; ⟨e, a', w', q, .of (.one (st_cond hc)) r⟩

def Ex.inBlk (id : Nat) (Q : Ex → Act → World → Prop) : Ex → Act → World → Prop
  | .exit id', a, w => if id' = id then Q .normal a w else Q (.exit id') a w
  | e, a, w => Q e a w

theorem WP.block {id : Nat} {c : Code} (h : WP P ro c (Ex.inBlk id Q) a w) : WP P ro (.block id c) Q a w := by
  intro b k cs hro
  obtain ⟨e, a₁, w₁, hq, hr⟩ := h b (.inBlock id :: k) cs hro
  cases e with
  | normal => exact ⟨.normal, a₁, w₁, hq, .head st_block (Steps.trans hr (.one st_inBlock))⟩
  | exit id' =>
    obtain ⟨k', he, s⟩ := hr
    by_cases hid : id' = id
    · simp only [Ex.inBlk, hid, if_true] at hq
      refine ⟨.normal, a₁, w₁, hq, .head st_block (s.trans (.one (st_exit ?_)))⟩
      rw [he]; simp [exitTo, hid]
    · simp only [Ex.inBlk, hid, if_false] at hq
      refine ⟨.exit id', a₁, w₁, hq, k', ?_, .head st_block s⟩
      rw [he]
      have : (id == id') = false := by simp; exact fun h => hid h.symm
      simp [exitTo, this]
  | ret => exact ⟨_, a₁, w₁, hq, let ⟨k', s⟩ := hr; ⟨k', .head st_block s⟩⟩

theorem WP.loop {c : Code} (I : Act → World → Prop) (μ : Act → World → Nat) (h₀ : I a w)
    (round : ∀ a w, I a w → WP P ro c (Ex.thn (fun a' w' => I a' w' ∧ μ a' w' < μ a w) Q) a w) : WP P ro (.loop c) Q a w := by
  intro b k cs hro
  have key : ∀ n a w, μ a w = n → I a w → ∃ e a' w', Q e a' w' ∧ Reach P (lone (At b a (.code c :: .inLoop c :: k)) cs w) b k cs e a' w' := by
    intro n
    induction n using Nat.strongRecOn with
    | _ n ih =>
      intro a w hn hI
      obtain ⟨e, a₁, w₁, hq, hr⟩ := round a w hI b (.inLoop c :: k) cs hro
      cases e with
      | normal =>
        obtain ⟨hI₁, hlt⟩ := hq
        obtain ⟨e₂, a₂, w₂, hq₂, hr₂⟩ := ih (μ a₁ w₁) (hn ▸ hlt) a₁ w₁ rfl hI₁
        exact ⟨e₂, a₂, w₂, hq₂, .of (Steps.trans hr (.one st_inLoop)) hr₂⟩
      | exit id => exact ⟨_, a₁, w₁, hq, let ⟨k', he, s⟩ := hr; ⟨k', he, s⟩⟩
      | ret => exact ⟨_, a₁, w₁, hq, hr⟩
  obtain ⟨e, a', w', hq, hr⟩ := key _ a w rfl h₀
  exact ⟨e, a', w', hq, .of (.one st_loop) hr⟩
end rules

/-- What is asked of a call that returns. -/
def retK (K : Value → World → Prop) : Ending → World → Prop
  | .returned v, w => K v w
  | _, _ => False

/-- A round of a loop over a function, entered: it comes back with a value. -/
inductive RoundP (P : Program) (l f : Nat) (tmps : Array Value) (assign body : Code) (w : World) (K : Value → World → Prop) : Prop
  | mk (h : ∀ (c : Frame) (cs : List Frame), ∃ v w', K v w' ∧ Steps P (lone (Frame.round l f tmps assign body .normal) (c :: cs) w) (lone (c.finish v) cs w'))

/-- A communication, with nobody else there: it is done in one step. -/
inductive CommP (P : Program) (cases : Array CommCase) (blocking : Bool) (shape : CommShape) (w : World) (K : Value → World → Prop) : Prop
  | mk (h : ∀ (fr : Frame) (cs : List Frame) (es : Array Event),
      stepG P true { frame := fr, callers := cs, status := .running, dying := none } w = .comm { frame := fr, callers := cs, status := .running, dying := none } cases blocking shape w es →
      ∃ v w', K v w' ∧ step P (lone fr cs w) = .next (lone (fr.finish v) cs w'))

/-- What must hold of what an operation comes to, that K may hold of its value. -/
def Upon (P : Program) (w0 : World) (K : Value → World → Prop) : Result Next → Prop
  | .ok (.value v) w => K v w
  | .ok .skip w => K undef w
  | .ok (.enter f args) w => Calls P f args w (retK K)
  | .ok (.round l f tmps assign body) w => RoundP P l f tmps assign body w K
  | .ok (.row row args) w => Rows P row args w K
  | .ok (.comm cases blocking shape) w => w = w0 ∧ CommP P cases blocking shape w K
  | _ => False

/-- An operation whose operands are constants: under whatever reading of temporaries. -/
def Good (ρ : Operand → Value) : Prop := (∀ v, ρ (.const v) = v) ∧ (∀ g, ρ (.global g) = .pointer (some ⟨g, 0, none⟩)) ∧ (∀ f, ρ (.func f) = .func (.func f) #[] #[])

def mkOper (op : Op) (type : TypeId) : Oper := { dst := none, op, type, pos := "", after := #[], guard := none }

/-- The world, told so that 'simp' leaves K alone. -/
abbrev WK {α : Sort _} (_ : α) : Type := World
abbrev WK2 {α β : Sort _} (_ : α) (_ : β) : Type := World
abbrev UK {α : Sort _} (_ : α) : Type := Unit
abbrev UK2 {α β : Sort _} (_ : α) (_ : β) : Type := Unit
inductive OpX (P : Program) (op : Op) (type : TypeId) (K : Value → World → Prop) (w : WK K) : Prop
  | mk (h : ∀ ρ, Good ρ → Upon P w K ((execOp ρ (mkOper op type)).run P w))

theorem OpX.out {P : Program} {op : Op} {type : TypeId} {K : Value → World → Prop} {w : World} : OpX P op type K w ↔ ∀ ρ, Good ρ → Upon P w K ((execOp ρ (mkOper op type)).run P w) :=
  ⟨fun ⟨h⟩ => h, fun h => ⟨h⟩⟩

theorem Act_good (a : Act) : Good a.eval := ⟨fun _ => rfl, fun _ => rfl, fun _ => rfl⟩

section op
variable {P : Program} {b : Frame} {a : Act} {k : List Item} {cs : List Frame} {w : World} {ops : Array Oper}

theorem stG_op {i : Nat} {rest : List Nat} {o : Oper} (ho : ops[i]? = some o) (hw : Region.wanted o (yielded ops a.tmps) = true) (hd : ∀ c, o.op ≠ .defer c) :
    stepG P true { frame := At b a (.inRegion ops (i :: rest) :: k), callers := cs, status := .running, dying := none } w =
      stepG.apply P true (At b a (.inRegion ops (i :: rest) :: k)) cs none (execOp a.eval o) w := by
  have he := At_eval b a (.inRegion ops (i :: rest) :: k)
  simp only [At] at he
  cases hr : b.roundOf with
  | none =>
    rw [hr] at he
    simp [stepG, stepG.exec, stepG.oper, Frame.oper?, At, ho, hw, he, hr]
  | some l =>
    rw [hr] at he
    simp only [stepG, stepG.exec, stepG.oper, Frame.oper?, At, ho, hw, he, hr, Option.map_some, Option.getD_some, if_true]
    split
    · exact absurd (by assumption) (hd _)
    · rfl

/-- An operation that comes to K is carried out: the machine steps on, its value laid. -/
theorem op_steps {i : Nat} {rest : List Nat} {o : Oper} {K : Value → World → Prop} (ho : ops[i]? = some o) (hw : Region.wanted o (yielded ops a.tmps) = true) (hd : ∀ c, o.op ≠ .defer c)
    (h : Upon P w K ((execOp a.eval o).run P w)) :
    ∃ v w', K v w' ∧ Steps P (lone (At b a (.inRegion ops (i :: rest) :: k)) cs w) (lone (At b (a.put o.dst v) (.inRegion ops rest :: k)) cs w') := by
  have hg := stG_op (P := P) (b := b) (k := k) (cs := cs) (w := w) (rest := rest) ho hw hd
  have hfin : ∀ v, (At b a (.inRegion ops (i :: rest) :: k)).finish v = At b (a.put o.dst v) (.inRegion ops rest :: k) := by
    intro v; rw [finish_At, ho]; rfl
  unfold Upon at h
  split at h
  · rename_i v w' hr
    refine ⟨v, w', h, .one (step_lone_go ?_)⟩
    rw [hg, ← hfin]; simp [stepG.apply, hr]
  · rename_i w' hr
    refine ⟨undef, w', h, .one (step_lone_go ?_)⟩
    rw [hg, ← hfin]; simp [stepG.apply, hr]
  · rename_i f args w' hr
    obtain ⟨e, w'', fr, hR, hs, _, hl⟩ := h (At b a (.inRegion ops (i :: rest) :: k) :: cs)
    have henter : step P (lone (At b a (.inRegion ops (i :: rest) :: k)) cs w) = .next (lone (Frame.enter P f args .normal) (At b a (.inRegion ops (i :: rest) :: k) :: cs) w') :=
      step_lone_go (by rw [hg]; simp [stepG.apply, hr, At])
    cases e with
    | returned v =>
      refine ⟨v, w'', hR, .head henter (Steps.trans hs (.one ?_))⟩
      rw [← hfin]; exact step_leave_returned hl
    | panicked chain => exact hR.elim
    | outgrown => exact hR.elim
  · rename_i l f tmps assign body w' hr
    obtain ⟨h⟩ := h
    obtain ⟨v, w'', hR, hs⟩ := h (At b a (.inRegion ops (i :: rest) :: k)) cs
    have henter : step P (lone (At b a (.inRegion ops (i :: rest) :: k)) cs w) = .next (lone (Frame.round l f tmps assign body .normal) (At b a (.inRegion ops (i :: rest) :: k) :: cs) w') :=
      step_lone_go (by rw [hg]; simp [stepG.apply, hr])
    rw [hfin] at hs
    exact ⟨v, w'', hR, .head henter hs⟩
  · rename_i row args w' hr
    obtain ⟨v, w'', hR, hs⟩ := h (At b a (.inRegion ops (i :: rest) :: k)) cs
    have henter : step P (lone (At b a (.inRegion ops (i :: rest) :: k)) cs w) = .next (lone (Frame.ofRow P row args .normal) (At b a (.inRegion ops (i :: rest) :: k) :: cs) w') :=
      step_lone_go (by rw [hg]; simp [stepG.apply, hr, At])
    rw [hfin] at hs
    exact ⟨v, w'', hR, .head henter hs⟩
  · rename_i cases blocking shape w' hr
    obtain ⟨rfl, ⟨h⟩⟩ := h
    have hst : ∃ es, stepG P true { frame := At b a (.inRegion ops (i :: rest) :: k), callers := cs, status := .running, dying := none } w' =
        .comm { frame := At b a (.inRegion ops (i :: rest) :: k), callers := cs, status := .running, dying := none } cases blocking shape w' es := by
      rw [hg]
      have hrT : ((execOp a.eval o).runT P w' #[]).1 = .ok (.comm cases blocking shape) w' := by rw [Sem.runT_eq]; exact hr
      simp only [stepG.apply, if_true]
      generalize (execOp a.eval o).runT P w' #[] = x at hrT
      obtain ⟨r, es⟩ := x
      dsimp only at hrT
      subst hrT
      exact ⟨_, rfl⟩
    obtain ⟨es, hst⟩ := hst
    obtain ⟨v, w'', hK, hs⟩ := h _ _ _ hst
    rw [hfin] at hs
    exact ⟨v, w'', hK, .one hs⟩
  · exact h.elim
end op

end Lyc
