/- Helpers of this claim, part 0: engine, translated functions, contracts, plain laws. -/
import Derived.WalkKit
import Derived.WalkSpells
import Derived.WalkLawsBesides
import Derived.Conc.LoneSelect
set_option linter.unusedSimpArgs false
set_option linter.unusedVariables false
namespace Lyc
open Go
def At (b : Frame) (a : Act) (todo : List Item) : Frame := { b with tmps := a.tmps, defers := a.defers, todo := todo, mode := .run }
theorem At_eval (b : Frame) (a : Act) (todo : List Item) : (At b a todo).eval = a.eval := by
  funext x; cases x <;> rfl
def setBlk (w : World) (b : Nat) (o : Obj) : World := { w with heap := w.heap.setIfInBounds b o }
def Bodied (P : Program) (f : FuncId) : Prop := ∃ fn, P.funcs[f]? = some fn ∧ fn.body.isNone = false ∧ (fn.name == "runtime.NumGoroutine") = false
theorem run_callFunc {P : Program} {f : FuncId} (h : Bodied P f) (args : Array Value) (w : World) : (callFunc f args).run P w = .ok (.enter f args) w := by
  obtain ⟨fn, h1, h2, h3⟩ := h
  have h2' : fn.body ≠ none := by intro h; rw [h] at h2; simp at h2
  have h3' : fn.name ≠ "runtime.NumGoroutine" := by simpa using h3
  simp [callFunc, h1, h2', h3']
section steps
variable {P : Program} {b : Frame} {a : Act} {k : List Item} {cs : List Frame} {w : World}
theorem st_skip : step P (lone (At b a (.code .skip :: k)) cs w) = .next (lone (At b a k) cs w) :=
  step_lone_go (by simp [stepG, stepG.exec, At])
theorem st_label {l : Nat} : step P (lone (At b a (.code (.label l) :: k)) cs w) = .next (lone (At b a k) cs w) :=
  step_lone_go (by simp [stepG, stepG.exec, At])
theorem st_scope {c : Code} : step P (lone (At b a (.code (.scope c) :: k)) cs w) = .next (lone (At b a (.code c :: .inScope c :: k)) cs w) :=
  step_lone_go (by simp [stepG, stepG.exec, At])
theorem st_inBlock {id : Nat} : step P (lone (At b a (.inBlock id :: k)) cs w) = .next (lone (At b a k) cs w) :=
  step_lone_go (by simp [stepG, stepG.exec, At])
theorem st_inScope {c : Code} : step P (lone (At b a (.inScope c :: k)) cs w) = .next (lone (At b a k) cs w) :=
  step_lone_go (by simp [stepG, stepG.exec, At])
theorem st_seq {x y : Code} : step P (lone (At b a (.code (.seq x y) :: k)) cs w) = .next (lone (At b a (.code x :: .code y :: k)) cs w) :=
  step_lone_go (by simp [stepG, stepG.exec, At])
theorem st_cond {c : Operand} {x y : Code} {t : Bool} (h : a.eval c = .bool t) :
    step P (lone (At b a (.code (.cond c x y) :: k)) cs w) = .next (lone (At b a (.code (if t then x else y) :: k)) cs w) :=
  step_lone_go (by
    have := congrFun (At_eval b a (.code (.cond c x y) :: k)) c
    simp only [At] at this
    simp [stepG, stepG.exec, At, this, h])
theorem st_block {id : Nat} {c : Code} : step P (lone (At b a (.code (.block id c) :: k)) cs w) = .next (lone (At b a (.code c :: .inBlock id :: k)) cs w) :=
  step_lone_go (by simp [stepG, stepG.exec, At])
theorem st_loop {c : Code} : step P (lone (At b a (.code (.loop c) :: k)) cs w) = .next (lone (At b a (.code c :: .inLoop c :: k)) cs w) :=
  step_lone_go (by simp [stepG, stepG.exec, At])
theorem st_inLoop {c : Code} : step P (lone (At b a (.inLoop c :: k)) cs w) = .next (lone (At b a (.code c :: .inLoop c :: k)) cs w) :=
  step_lone_go (by simp [stepG, stepG.exec, At])
theorem st_exit {id : Nat} {k' : List Item} (h : exitTo id k = some k') :
    step P (lone (At b a (.code (.exit id) :: k)) cs w) = .next (lone (At b a k') cs w) :=
  step_lone_go (by simp [stepG, stepG.exec, At, h])
theorem st_region {id : Nat} {ops : Array Oper} :
    step P (lone (At b a (.code (.region id ops false) :: k)) cs w) = .next (lone (At b a (.inRegion ops (List.range ops.size) :: k)) cs w) :=
  step_lone_go (by simp [stepG, stepG.exec, At])
theorem st_regionDraw {id : Nat} {ops : Array Oper} :
    step P (lone (At b a (.code (.region id ops true) :: k)) cs w) =
      .next (lone (At b a (.inRegion ops (Region.schedule (P.follows .mixedOrders) ops (w.tape w.drawn (.order b.fn id))) :: k)) cs { w with drawn := w.drawn + 1 }) :=
  step_lone_go (by simp [stepG, stepG.exec, At, choose, Sem.run, Question.forced, Question.cut])
theorem st_regionEnd {ops : Array Oper} : step P (lone (At b a (.inRegion ops [] :: k)) cs w) = .next (lone (At b a k) cs w) :=
  step_lone_go (by simp [stepG, stepG.exec, At])
theorem finish_At (ops : Array Oper) (i : Nat) (rest : List Nat) (v : Value) :
    (At b a (.inRegion ops (i :: rest) :: k)).finish v = At b (a.put ((ops[i]?).bind (·.dst)) v) (.inRegion ops rest :: k) := by
  cases h : (ops[i]?).bind (·.dst) <;> simp [Frame.finish, At, Act.put, h]
theorem st_opSkip {ops : Array Oper} {i : Nat} {rest : List Nat} (h : ((ops[i]?).map (Region.wanted · (yielded ops a.tmps))).getD false = false) :
    step P (lone (At b a (.inRegion ops (i :: rest) :: k)) cs w) = .next (lone (At b (a.put ((ops[i]?).bind (·.dst)) undef) (.inRegion ops rest :: k)) cs w) := by
  rw [← finish_At]
  exact step_lone_go (by
    have h' := h
    simp only [At] at *
    simp [stepG, stepG.exec, h'])
end steps
section rangeSteps
variable {P : Program} {b : Frame} {a : Act} {k : List Item} {cs : List Frame} {w : World}
theorem newObj_ok (o : Obj) : (newObj o).run P w = .ok w.heap.size (w.alloc o) := by simp [newObj, Sem.run]
theorem getLoop_ok {l : Nat} {L : Loop} (h : w.heap[l]? = some (.loop L)) : (Instr.getLoop l).run P w = .ok L w := by simp [Instr.getLoop, getObj, Sem.run, h]
theorem setLoop_ok {l : Nat} {L : Loop} {o : Obj} (h : w.heap[l]? = some (.loop L)) : (setObj l o).run P w = .ok () (setBlk w l o) := by simp [setObj, Sem.run, setBlk, h]
theorem getDef_ok {r : Nat} {d : Option (List Deferred)} (h : w.heap[r]? = some (.deferred d)) : (getObj r).run P w = .ok (.deferred d) w := by simp [getObj, Sem.run, h]
theorem setDef_ok {r : Nat} {d : Option (List Deferred)} {o : Obj} (h : w.heap[r]? = some (.deferred d)) : (setObj r o).run P w = .ok () (setBlk w r o) := by simp [setObj, Sem.run, setBlk, h]
theorem st_rangeFunc {f : Operand} {params : Array Tmp} {assign body : Code} {g : FuncId} {us vs : Array Value} (hro : b.roundOf = none) (hf : a.eval f = .func (.func g) us vs) (hg : Bodied P g) :
    step P (lone (At b a (.code (.rangeFunc f params assign body) :: k)) cs w) =
      .next (lone (Frame.enter P g (us ++ #[.func (.yield (w.heap.size + 1)) #[] #[]] ++ vs) .normal)
        (At b { a with defers := { target := .collected w.heap.size, args := #[] } :: a.defers } (.inRangeFunc (w.heap.size + 1) :: k) :: cs)
        ((w.alloc (.deferred (some []))).alloc (.loop { state := .ready, pending := none, fn := b.fn, tmps := a.tmps, params, assign, body, defers := w.heap.size }))) := by
  have he := congrFun (At_eval b { a with defers := { target := .collected w.heap.size, args := #[] } :: a.defers } (.inRangeFunc (w.heap.size + 1) :: k)) f
  simp only [At, hro] at he
  have hf' : Act.eval { tmps := a.tmps, defers := { target := .collected w.heap.size, args := #[] } :: a.defers } f = .func (.func g) us vs := by rw [← hf]; cases f <;> rfl
  refine step_lone_go ?_
  simp [stepG, stepG.exec, At, hro, Instr.enterLoop, newObj_ok, stepG.apply, Sem.runT_eq, resolve, he, hf', Deferred.ofValue, invoke, run_callFunc hg, GStep.after]
  simp [Frame.eval, Act.eval]
theorem st_beginRound {l : Nat} {L : Loop} (hro : b.roundOf = some l) (h : w.heap[l]? = some (.loop L)) (hr : L.state = .ready) :
    step P (lone (At b a (.beginRound :: k)) cs w) = .next (lone (At b a k) cs (setBlk w l (.loop { L with state := .busy }))) := by
  refine step_lone_go ?_
  simp [stepG, stepG.exec, At, hro, Instr.beginRound, getLoop_ok h, setLoop_ok h, hr, stepG.apply, Sem.runT_eq, Frame.finish]
theorem st_leaveRound {l : Nat} {L : Loop} {c : Frame} (hro : b.roundOf = some l) (hk : b.kind = .normal) (h : w.heap[l]? = some (.loop L)) :
    step P (lone (At b a []) (c :: cs) w) = .next (lone (c.finish (.bool true)) cs (setBlk w l (.loop { L with state := .ready, pending := none }))) := by
  refine step_lone_go ?_
  simp [stepG, stepG.exec, At, hro, Instr.endRound, getLoop_ok h, setLoop_ok h, Sem.runT_eq, doReturn, hk]
theorem st_leaveRet {l : Nat} {L : Loop} {c : Frame} (hro : b.roundOf = some l) (hk : b.kind = .normal) (h : w.heap[l]? = some (.loop L)) :
    step P (lone (At b a (.code .ret :: k)) (c :: cs) w) = .next (lone (c.finish (.bool false)) cs (setBlk w l (.loop { L with state := .done, pending := some .ret }))) := by
  refine step_lone_go ?_
  simp [stepG, stepG.exec, At, hro, Instr.endRound, getLoop_ok h, setLoop_ok h, Sem.runT_eq, doReturn, hk]
theorem st_leaveExit {l id : Nat} {L : Loop} {c : Frame} (hro : b.roundOf = some l) (hk : b.kind = .normal) (hx : exitTo id k = none) (h : w.heap[l]? = some (.loop L)) :
    step P (lone (At b a (.code (.exit id) :: k)) (c :: cs) w) = .next (lone (c.finish (.bool false)) cs (setBlk w l (.loop { L with state := .done, pending := some (.exit id) }))) := by
  refine step_lone_go ?_
  simp [stepG, stepG.exec, At, hx, hro, Instr.endRound, getLoop_ok h, setLoop_ok h, Sem.runT_eq, doReturn, hk]
theorem st_endRange {l : Nat} {L : Loop} (h : w.heap[l]? = some (.loop L)) (hs : L.state ≠ .busy) :
    step P (lone (At b a (.endRangeFunc l :: k)) cs w) = .next (lone (At b a ((L.pending.map Item.code).toList ++ k)) cs (setBlk w l (.loop { L with state := .exhausted }))) := by
  refine step_lone_go ?_
  simp [stepG, stepG.exec, At, Instr.endLoop, getLoop_ok h, setLoop_ok h, hs, Sem.runT_eq]
theorem st_collect {r : Nat} {d : Deferred} {ds : List Deferred} {fr : Frame} (hd : d.target = .collected r) (hf : fr.defers = d :: ds) (hm : fr.mode = .returning) (h : w.heap[r]? = some (.deferred (some []))) :
    step P (lone fr cs w) = .next (lone { fr with defers := ds } cs (setBlk w r (.deferred none))) := by
  obtain ⟨tg, args⟩ := d
  dsimp only at hd
  subst hd
  refine step_lone_go ?_
  simp [stepG, unwind, hf, hm, Instr.takeDeferred, getDef_ok h, setDef_ok h, Sem.runT_eq]
end rangeSteps
inductive Ex where
  | normal
  | exit (id : Nat)
  | ret
def Reach (P : Program) (m : Machine) (b : Frame) (k : List Item) (cs : List Frame) : Ex → Act → World → Prop
  | .normal, a, w => Steps P m (lone (At b a k) cs w)
  | .exit id, a, w => ∃ k', exitTo id k' = exitTo id k ∧ Steps P m (lone (At b a (.code (.exit id) :: k')) cs w)
  | .ret, a, w => ∃ k', Steps P m (lone (At b a (.code .ret :: k')) cs w)
theorem Reach.of {P : Program} {m m₁ : Machine} {b : Frame} {k : List Item} {cs : List Frame} {e : Ex} {a : Act} {w : World}
    (h : Steps P m m₁) (h' : Reach P m₁ b k cs e a w) : Reach P m b k cs e a w := by
  cases e with
  | normal => exact h.trans h'
  | exit id => exact let ⟨k', e, s⟩ := h'; ⟨k', e, h.trans s⟩
  | ret => exact let ⟨k', s⟩ := h'; ⟨k', h.trans s⟩
def WP (P : Program) (ro : Option Nat) (c : Code) (Q : Ex → Act → World → Prop) (a : Act) (w : World) : Prop :=
  ∀ (b : Frame) (k : List Item) (cs : List Frame), b.roundOf = ro → ∃ e a' w', Q e a' w' ∧ Reach P (lone (At b a (.code c :: k)) cs w) b k cs e a' w'
section rules
variable {P : Program} {ro : Option Nat} {Q : Ex → Act → World → Prop} {a : Act} {w : World}
theorem WP.mono {c : Code} {Q' : Ex → Act → World → Prop} (h : WP P ro c Q a w) (hq : ∀ e a w, Q e a w → Q' e a w) : WP P ro c Q' a w :=
  fun b k cs hro => let ⟨e, a', w', q, r⟩ := h b k cs hro; ⟨e, a', w', hq _ _ _ q, r⟩
theorem WP.skip (h : Q .normal a w) : WP P ro .skip Q a w := fun _ _ _ _ => ⟨.normal, a, w, h, .one st_skip⟩
theorem WP.exit {id : Nat} (h : Q (.exit id) a w) : WP P ro (.exit id) Q a w := fun _ k _ _ => ⟨.exit id, a, w, h, k, rfl, .refl _ _⟩
theorem WP.ret (h : Q .ret a w) : WP P ro .ret Q a w := fun _ k _ _ => ⟨.ret, a, w, h, k, .refl _ _⟩
def Ex.thn (next : Act → World → Prop) (Q : Ex → Act → World → Prop) : Ex → Act → World → Prop
  | .normal, a, w => next a w
  | e, a, w => Q e a w
theorem WP.seq {x y : Code} (h : WP P ro x (Ex.thn (WP P ro y Q) Q) a w) : WP P ro (.seq x y) Q a w := by
  intro b k cs hro
  obtain ⟨e, a₁, w₁, hq, hr⟩ := h b (.code y :: k) cs hro
  cases e with
  | normal =>
    obtain ⟨e₂, a₂, w₂, hq₂, hr₂⟩ := hq b k cs hro
    exact ⟨e₂, a₂, w₂, hq₂, .of (.head st_seq hr) hr₂⟩
  | exit id => exact ⟨_, a₁, w₁, hq, let ⟨k', he, s⟩ := hr; ⟨k', he, .head st_seq s⟩⟩
  | ret => exact ⟨_, a₁, w₁, hq, let ⟨k', s⟩ := hr; ⟨k', .head st_seq s⟩⟩
theorem WP.cond {c : Operand} {x y : Code} {t : Bool} (hc : a.eval c = .bool t) (h : WP P ro (if t then x else y) Q a w) : WP P ro (.cond c x y) Q a w :=
  fun b k cs hro => let ⟨e, a', w', q, r⟩ := h b k cs hro; ⟨e, a', w', q, .of (.one (st_cond hc)) r⟩
def Ex.inBlk (id : Nat) (Q : Ex → Act → World → Prop) : Ex → Act → World → Prop
  | .exit id', a, w => if id' = id then Q .normal a w else Q (.exit id') a w
  | e, a, w => Q e a w
theorem WP.block {id : Nat} {c : Code} (h : WP P ro c (Ex.inBlk id Q) a w) : WP P ro (.block id c) Q a w := by
  intro b k cs hro
  obtain ⟨e, a₁, w₁, hq, hr⟩ := h b (.inBlock id :: k) cs hro
  cases e with
  | normal => exact ⟨.normal, a₁, w₁, hq, .head st_block (Steps.trans hr (.one st_inBlock))⟩
  | exit id' =>
    obtain ⟨k', he, s⟩ := hr
    by_cases hid : id' = id
    · simp only [Ex.inBlk, hid, if_true] at hq
      refine ⟨.normal, a₁, w₁, hq, .head st_block (s.trans (.one (st_exit ?_)))⟩
      rw [he]; simp [exitTo, hid]
    · simp only [Ex.inBlk, hid, if_false] at hq
      refine ⟨.exit id', a₁, w₁, hq, k', ?_, .head st_block s⟩
      rw [he]
      have : (id == id') = false := by simp; exact fun h => hid h.symm
      simp [exitTo, this]
  | ret => exact ⟨_, a₁, w₁, hq, let ⟨k', s⟩ := hr; ⟨k', .head st_block s⟩⟩
theorem WP.label {l : Nat} (h : Q .normal a w) : WP P ro (.label l) Q a w := fun _ _ _ _ => ⟨.normal, a, w, h, .one st_label⟩
theorem WP.scope {c : Code} (h : WP P ro c Q a w) : WP P ro (.scope c) Q a w := by
  intro b k cs hro
  obtain ⟨e, a₁, w₁, hq, hr⟩ := h b (.inScope c :: k) cs hro
  cases e with
  | normal => exact ⟨.normal, a₁, w₁, hq, .head st_scope (Steps.trans hr (.one st_inScope))⟩
  | exit id' =>
    obtain ⟨k', he, s⟩ := hr
    exact ⟨.exit id', a₁, w₁, hq, k', by rw [he]; simp [exitTo], .head st_scope s⟩
  | ret => exact ⟨_, a₁, w₁, hq, let ⟨k', s⟩ := hr; ⟨k', .head st_scope s⟩⟩
theorem WP.loop {c : Code} (I : Act → World → Prop) (μ : Act → World → Nat) (h₀ : I a w)
    (round : ∀ a w, I a w → WP P ro c (Ex.thn (fun a' w' => I a' w' ∧ μ a' w' < μ a w) Q) a w) : WP P ro (.loop c) Q a w := by
  intro b k cs hro
  have key : ∀ n a w, μ a w = n → I a w → ∃ e a' w', Q e a' w' ∧ Reach P (lone (At b a (.code c :: .inLoop c :: k)) cs w) b k cs e a' w' := by
    intro n
    induction n using Nat.strongRecOn with
    | _ n ih =>
      intro a w hn hI
      obtain ⟨e, a₁, w₁, hq, hr⟩ := round a w hI b (.inLoop c :: k) cs hro
      cases e with
      | normal =>
        obtain ⟨hI₁, hlt⟩ := hq
        obtain ⟨e₂, a₂, w₂, hq₂, hr₂⟩ := ih (μ a₁ w₁) (hn ▸ hlt) a₁ w₁ rfl hI₁
        exact ⟨e₂, a₂, w₂, hq₂, .of (Steps.trans hr (.one st_inLoop)) hr₂⟩
      | exit id => exact ⟨_, a₁, w₁, hq, let ⟨k', he, s⟩ := hr; ⟨k', he, s⟩⟩
      | ret => exact ⟨_, a₁, w₁, hq, hr⟩
  obtain ⟨e, a', w', hq, hr⟩ := key _ a w rfl h₀
  exact ⟨e, a', w', hq, .of (.one st_loop) hr⟩
end rules
def retK (K : Value → World → Prop) : Ending → World → Prop
  | .returned v, w => K v w
  | _, _ => False
inductive RoundP (P : Program) (l f : Nat) (tmps : Array Value) (assign body : Code) (w : World) (K : Value → World → Prop) : Prop
  | mk (h : ∀ (c : Frame) (cs : List Frame), ∃ v w', K v w' ∧ Steps P (lone (Frame.round l f tmps assign body .normal) (c :: cs) w) (lone (c.finish v) cs w'))
inductive CommP (P : Program) (cases : Array CommCase) (blocking : Bool) (shape : CommShape) (w : World) (K : Value → World → Prop) : Prop
  | mk (h : ∀ (fr : Frame) (cs : List Frame) (es : Array Event),
      stepG P true { frame := fr, callers := cs, status := .running, dying := none } w = .comm { frame := fr, callers := cs, status := .running, dying := none } cases blocking shape w es →
      ∃ v w', K v w' ∧ step P (lone fr cs w) = .next (lone (fr.finish v) cs w'))
def Upon (P : Program) (w0 : World) (K : Value → World → Prop) : Result Next → Prop
  | .ok (.value v) w => K v w
  | .ok .skip w => K undef w
  | .ok (.enter f args) w => Calls P f args w (retK K)
  | .ok (.round l f tmps assign body) w => RoundP P l f tmps assign body w K
  | .ok (.row row args) w => Rows P row args w K
  | .ok (.comm cases blocking shape) w => w = w0 ∧ CommP P cases blocking shape w K
  | _ => False
def Good (ρ : Operand → Value) : Prop := (∀ v, ρ (.const v) = v) ∧ (∀ g, ρ (.global g) = .pointer (some ⟨g, 0, none⟩)) ∧ (∀ f, ρ (.func f) = .func (.func f) #[] #[])
def mkOper (op : Op) (type : TypeId) : Oper := { dst := none, op, type, pos := "", after := #[], guard := none }
abbrev WK {α : Sort _} (_ : α) : Type := World
abbrev WK2 {α β : Sort _} (_ : α) (_ : β) : Type := World
abbrev UK {α : Sort _} (_ : α) : Type := Unit
abbrev UK2 {α β : Sort _} (_ : α) (_ : β) : Type := Unit
inductive OpX (P : Program) (op : Op) (type : TypeId) (K : Value → World → Prop) (w : WK K) : Prop
  | mk (h : ∀ ρ, Good ρ → Upon P w K ((execOp ρ (mkOper op type)).run P w))
theorem OpX.out {P : Program} {op : Op} {type : TypeId} {K : Value → World → Prop} {w : World} : OpX P op type K w ↔ ∀ ρ, Good ρ → Upon P w K ((execOp ρ (mkOper op type)).run P w) :=
  ⟨fun ⟨h⟩ => h, fun h => ⟨h⟩⟩
theorem Act_good (a : Act) : Good a.eval := ⟨fun _ => rfl, fun _ => rfl, fun _ => rfl⟩
section op
variable {P : Program} {b : Frame} {a : Act} {k : List Item} {cs : List Frame} {w : World} {ops : Array Oper}
theorem stG_op {i : Nat} {rest : List Nat} {o : Oper} (ho : ops[i]? = some o) (hw : Region.wanted o (yielded ops a.tmps) = true) (hd : ∀ c, o.op ≠ .defer c) :
    stepG P true { frame := At b a (.inRegion ops (i :: rest) :: k), callers := cs, status := .running, dying := none } w =
      stepG.apply P true (At b a (.inRegion ops (i :: rest) :: k)) cs none (execOp a.eval o) w := by
  have he := At_eval b a (.inRegion ops (i :: rest) :: k)
  simp only [At] at he
  cases hr : b.roundOf with
  | none =>
    rw [hr] at he
    simp [stepG, stepG.exec, stepG.oper, Frame.oper?, At, ho, hw, he, hr]
  | some l =>
    rw [hr] at he
    simp only [stepG, stepG.exec, stepG.oper, Frame.oper?, At, ho, hw, he, hr, Option.map_some, Option.getD_some, if_true]
    split
    · exact absurd (by assumption) (hd _)
    · rfl
theorem op_steps {i : Nat} {rest : List Nat} {o : Oper} {K : Value → World → Prop} (ho : ops[i]? = some o) (hw : Region.wanted o (yielded ops a.tmps) = true) (hd : ∀ c, o.op ≠ .defer c)
    (h : Upon P w K ((execOp a.eval o).run P w)) :
    ∃ v w', K v w' ∧ Steps P (lone (At b a (.inRegion ops (i :: rest) :: k)) cs w) (lone (At b (a.put o.dst v) (.inRegion ops rest :: k)) cs w') := by
  have hg := stG_op (P := P) (b := b) (k := k) (cs := cs) (w := w) (rest := rest) ho hw hd
  have hfin : ∀ v, (At b a (.inRegion ops (i :: rest) :: k)).finish v = At b (a.put o.dst v) (.inRegion ops rest :: k) := by
    intro v; rw [finish_At, ho]; rfl
  unfold Upon at h
  split at h
  · rename_i v w' hr
    refine ⟨v, w', h, .one (step_lone_go ?_)⟩
    rw [hg, ← hfin]; simp [stepG.apply, hr]
  · rename_i w' hr
    refine ⟨undef, w', h, .one (step_lone_go ?_)⟩
    rw [hg, ← hfin]; simp [stepG.apply, hr]
  · rename_i f args w' hr
    obtain ⟨e, w'', fr, hR, hs, _, hl⟩ := h (At b a (.inRegion ops (i :: rest) :: k) :: cs)
    have henter : step P (lone (At b a (.inRegion ops (i :: rest) :: k)) cs w) = .next (lone (Frame.enter P f args .normal) (At b a (.inRegion ops (i :: rest) :: k) :: cs) w') :=
      step_lone_go (by rw [hg]; simp [stepG.apply, hr, At])
    cases e with
    | returned v =>
      refine ⟨v, w'', hR, .head henter (Steps.trans hs (.one ?_))⟩
      rw [← hfin]; exact step_leave_returned hl
    | panicked chain => exact hR.elim
    | outgrown => exact hR.elim
  · rename_i l f tmps assign body w' hr
    obtain ⟨h⟩ := h
    obtain ⟨v, w'', hR, hs⟩ := h (At b a (.inRegion ops (i :: rest) :: k)) cs
    have henter : step P (lone (At b a (.inRegion ops (i :: rest) :: k)) cs w) = .next (lone (Frame.round l f tmps assign body .normal) (At b a (.inRegion ops (i :: rest) :: k) :: cs) w') :=
      step_lone_go (by rw [hg]; simp [stepG.apply, hr])
    rw [hfin] at hs
    exact ⟨v, w'', hR, .head henter hs⟩
  · rename_i row args w' hr
    obtain ⟨v, w'', hR, hs⟩ := h (At b a (.inRegion ops (i :: rest) :: k)) cs
    have henter : step P (lone (At b a (.inRegion ops (i :: rest) :: k)) cs w) = .next (lone (Frame.ofRow P row args .normal) (At b a (.inRegion ops (i :: rest) :: k) :: cs) w') :=
      step_lone_go (by rw [hg]; simp [stepG.apply, hr, At])
    rw [hfin] at hs
    exact ⟨v, w'', hR, .head henter hs⟩
  · rename_i cases blocking shape w' hr
    obtain ⟨rfl, ⟨h⟩⟩ := h
    have hst : ∃ es, stepG P true { frame := At b a (.inRegion ops (i :: rest) :: k), callers := cs, status := .running, dying := none } w' =
        .comm { frame := At b a (.inRegion ops (i :: rest) :: k), callers := cs, status := .running, dying := none } cases blocking shape w' es := by
      rw [hg]
      have hrT : ((execOp a.eval o).runT P w' #[]).1 = .ok (.comm cases blocking shape) w' := by rw [Sem.runT_eq]; exact hr
      simp only [stepG.apply, if_true]
      generalize (execOp a.eval o).runT P w' #[] = x at hrT
      obtain ⟨r, es⟩ := x
      dsimp only at hrT
      subst hrT
      exact ⟨_, rfl⟩
    obtain ⟨es, hst⟩ := hst
    obtain ⟨v, w'', hK, hs⟩ := h _ _ _ hst
    rw [hfin] at hs
    exact ⟨v, w'', hK, .one hs⟩
  · exact h.elim
end op
end Lyc
namespace Lyc
open Go
inductive Ent where
  | unk
  | und
  | val (v : Value)
  | lit (b : Bool)
abbrev Env := List (Nat × Ent)
def Env.get : List (Nat × Ent) → Nat → Ent
  | [], _ => .unk
  | (d, x) :: e, i => bif Nat.beq d i then x else Env.get e i
def Ent.ok (x : Ent) (v : Value) : Prop :=
  match x with
  | .unk => True
  | .und => v = undef
  | .val u => v = u
  | .lit b => v = .bool b
def DK : Nat := 1000000
def dref (d : Deferred) : Option Nat := match d.target with | .collected r => some r | _ => none
def drefs : List Deferred → Option (List Nat)
  | [] => some []
  | d :: ds => match dref d, drefs ds with | some r, some rs => some (r :: rs) | _, _ => none
def dval (ds : List Deferred) : Value := match drefs ds with | some rs => .tuple (rs.map fun r : Nat => Value.int .i64 (r : Int)).toArray | none => .bool false
def slot (a : Act) (d : Nat) : Value := if d = DK then dval a.defers else a.tmps.getD d undef
def dcons (r : Nat) : Value → Value
  | .tuple rs => .tuple (Value.int .i64 (r : Int) :: rs.toList).toArray
  | v => v
def closeA : List Value → (World → Prop) → World → Prop
  | [], K, w => K w
  | .int _ r :: l, K, w => w.heap[r.toNat]? = some (.deferred (some [])) ∧ closeA l K (setBlk w r.toNat (.deferred none))
  | _ :: _, _, _ => False
def closeV (v : Value) (K : World → Prop) (w : World) : Prop :=
  match v with
  | .tuple rs => closeA rs.toList K w
  | _ => False
def Agree (e : Env) (a : Act) : Prop := a.tmps.size ≤ DK ∧ ∀ d, (Env.get e d).ok (slot a d)
def tget (e : Env) (t : Nat) : Ent := bif Nat.beq t DK then .unk else Env.get e t
def entO (e : Env) : Operand → Ent
  | .tmp t => tget e t
  | .const (.bool b) => .lit b
  | .const v => .val v
  | .global g => .val (.pointer (some ⟨g, 0, none⟩))
  | .func f => .val (.func (.func f) #[] #[])
def subO (e : Env) : Operand → Operand
  | .tmp t => match tget e t with
    | .unk => .tmp t
    | .und => .tmp t
    | .val v => .const v
    | .lit b => .const (.bool b)
  | x => x
def mapO (f : Operand → Operand) : Op → Op
  | .move x => .move (f x)
  | .assign x => .assign (f x)
  | .pick c a b => .pick (f c) (f a) (f b)
  | .alloc t => .alloc t
  | .box t x => .box t (f x)
  | .build t ps => .build t (ps.map fun p => (p.1, f p.2))
  | .buildSlice t n ps => .buildSlice t n (ps.map fun p => (p.1, f p.2))
  | .insert t m k v => .insert t (f m) (f k) (f v)
  | .load t x => .load t (f x)
  | .store t x y => .store t (f x) (f y)
  | .ready g => .ready g
  | .waits g => .waits g
  | .nilCheck x => .nilCheck (f x)
  | .binOp o t x y u => .binOp o t (f x) (f y) u
  | .unOp o t x => .unOp o t (f x)
  | .convert s d x => .convert s d (f x)
  | .sliceToArrayPointer d x => .sliceToArrayPointer d (f x)
  | .makeInterface t x => .makeInterface t (f x)
  | .makeFunc g xs ys => .makeFunc g (xs.map f) (ys.map f)
  | .makeMap t r => .makeMap t (r.map f)
  | .makeChan t x => .makeChan t (f x)
  | .makeSlice t x y => .makeSlice t (f x) (f y)
  | .slice t x l h m => .slice t (f x) (l.map f) (h.map f) (m.map f)
  | .fieldAddr t x i => .fieldAddr t (f x) i
  | .field t x i => .field t (f x) i
  | .indexAddr t x i => .indexAddr t (f x) (f i)
  | .index t x i => .index t (f x) (f i)
  | .lookup t x i ok => .lookup t (f x) (f i) ok
  | .mapUpdate t m k v => .mapUpdate t (f m) (f k) (f v)
  | .mapEntry t m k => .mapEntry t (f m) (f k)
  | .entryStore t m s v => .entryStore t (f m) (f s) (f v)
  | .range t x => .range t (f x)
  | .next x s => .next (f x) s
  | .entry x => .entry (f x)
  | .typeAssert x t u ok => .typeAssert (f x) t u ok
  | .extract x i => .extract (f x) i
  | .call c => .call { callee := (match c.callee with | .value g => .value (f g) | .invoke r n => .invoke (f r) n | .builtin b => .builtin b), args := c.args.map f, argTypes := c.argTypes }
  | .go c => .go c
  | .defer c => .defer c
  | .panic x => .panic (f x)
  | .send c x => .send (f c) (f x)
  | .recv t c ok => .recv t (f c) ok
  | .select cs b => .select (cs.map fun c => { chan := f c.chan, send := c.send.map f, elem := c.elem }) b
def odd : Op → Bool
  | .go _ => true
  | .defer _ => true
  | .binOp _ _ _ _ _ => true
  | .call { callee := .builtin .print, .. } => true
  | .call { callee := .builtin .println, .. } => true
  | _ => false
theorem builtin_consts (b : Builtin) (h1 : b ≠ .print) (h2 : b ≠ .println) (ats : Array TypeId) (t : TypeId) (cs cs' : Array Bool) (args : Array Value) :
    builtin b ats t cs args = builtin b ats t cs' args := by
  cases b <;> first | rfl | exact absurd rfl h1 | exact absurd rfl h2
theorem execOp_map {ρ : Operand → Value} {f : Operand → Operand} (o : Oper) (hf : ∀ x, ρ (f x) = ρ x) (hodd : odd o.op = false) :
    execOp ρ o = execOp ρ (mkOper (mapO f o.op) o.type) := by
  have hm : ∀ xs : Array Operand, (xs.map f).map ρ = xs.map ρ := fun xs => by simp [Array.map_map, Function.comp_def, hf]
  have hp : ∀ xs : Array (Nat × Operand), (xs.map fun p => (p.1, f p.2)).map (fun p => (p.1, ρ p.2)) = xs.map fun p => (p.1, ρ p.2) := fun xs => by simp [Array.map_map, Function.comp_def, hf]
  have ho : ∀ x : Option Operand, (x.map f).map ρ = x.map ρ := fun x => by cases x <;> simp [hf]
  obtain ⟨dst, op, type, pos, after, guard⟩ := o
  cases op
  case call c =>
    obtain ⟨callee, args, argTypes⟩ := c
    cases callee with
    | value g => simp [execOp, mapO, mkOper, resolve, hf, hm]
    | invoke r n => simp [execOp, mapO, mkOper, resolve, hf, hm]
    | builtin b =>
      have e1 : ∀ (o : Oper), o.op = .call { callee := .builtin b, args, argTypes } → execOp ρ o = builtin b argTypes o.type (args.map fun | .const _ => true | _ => false) (args.map ρ) := by
        intro o ho; unfold execOp; rw [ho]; rfl
      have e2 : ∀ (o : Oper), o.op = .call { callee := .builtin b, args := args.map f, argTypes } → execOp ρ o = builtin b argTypes o.type ((args.map f).map fun | .const _ => true | _ => false) ((args.map f).map ρ) := by
        intro o ho; unfold execOp; rw [ho]; rfl
      rw [e1 _ rfl, e2 (mkOper (mapO f (.call { callee := .builtin b, args, argTypes })) type) rfl, hm]
      refine builtin_consts b ?_ ?_ _ _ _ _ _ <;> (rintro rfl; simp [odd] at hodd)
  case select cs b =>
    simp [execOp, mapO, mkOper, Array.mapM_map, ho, hf, Function.comp_def]
  case binOp bo t x y u => simp [odd] at hodd
  case go c => simp [odd] at hodd
  case defer c => simp [odd] at hodd
  all_goals simp [execOp, mapO, mkOper, hf, hm, hp, ho]
inductive BinX (P : Program) (op : BinOp) (t : TypeId) (a b : Value) (K : Value → World → Prop) (w : WK K) : Prop
  | mk (h : ∀ x y : Operand, Upon P w K ((do eqGuard op t x y a b; return Next.value (← binOp op t a b)).run P w))
inductive BrW (v : Value) (A B : Prop) (u : UK2 A B) : Prop
  | mk (b : Bool) (hv : v = .bool b) (ht : b = true → A) (hf : b = false → B)
inductive LdR (P : Program) (t : TypeId) (v : Value) (K : Value → World → Prop) (w : WK K) : Prop
  | mk (a : Addr) (x : Value) (hv : v = .pointer (some a)) (h : (loadVar t a).run P w = .ok x w) (hk : K x w)
inductive Join0 (M : (World → Prop) → World → Prop) (K : World → Prop) (w : WK2 M K) : Prop
  | mk (R : World → Prop) (h : M R w) (hk : ∀ w', R w' → K w')
inductive Join1 (M : (Value → World → Prop) → World → Prop) (K : Value → World → Prop) (w : WK2 M K) : Prop
  | mk (R : Value → World → Prop) (h : M R w) (hk : ∀ v0 w', R v0 w' → K v0 w')
inductive Join2 (M : (Value → Value → World → Prop) → World → Prop) (K : Value → Value → World → Prop) (w : WK2 M K) : Prop
  | mk (R : Value → Value → World → Prop) (h : M R w) (hk : ∀ v0 v1 w', R v0 v1 w' → K v0 v1 w')
inductive Join3 (M : (Value → Value → Value → World → Prop) → World → Prop) (K : Value → Value → Value → World → Prop) (w : WK2 M K) : Prop
  | mk (R : Value → Value → Value → World → Prop) (h : M R w) (hk : ∀ v0 v1 v2 w', R v0 v1 v2 w' → K v0 v1 v2 w')
inductive Join4 (M : (Value → Value → Value → Value → World → Prop) → World → Prop) (K : Value → Value → Value → Value → World → Prop) (w : WK2 M K) : Prop
  | mk (R : Value → Value → Value → Value → World → Prop) (h : M R w) (hk : ∀ v0 v1 v2 v3 w', R v0 v1 v2 v3 w' → K v0 v1 v2 v3 w')
inductive Join5 (M : (Value → Value → Value → Value → Value → World → Prop) → World → Prop) (K : Value → Value → Value → Value → Value → World → Prop) (w : WK2 M K) : Prop
  | mk (R : Value → Value → Value → Value → Value → World → Prop) (h : M R w) (hk : ∀ v0 v1 v2 v3 v4 w', R v0 v1 v2 v3 v4 w' → K v0 v1 v2 v3 v4 w')
inductive Join6 (M : (Value → Value → Value → Value → Value → Value → World → Prop) → World → Prop) (K : Value → Value → Value → Value → Value → Value → World → Prop) (w : WK2 M K) : Prop
  | mk (R : Value → Value → Value → Value → Value → Value → World → Prop) (h : M R w) (hk : ∀ v0 v1 v2 v3 v4 v5 w', R v0 v1 v2 v3 v4 v5 w' → K v0 v1 v2 v3 v4 v5 w')
inductive Join7 (M : (Value → Value → Value → Value → Value → Value → Value → World → Prop) → World → Prop) (K : Value → Value → Value → Value → Value → Value → Value → World → Prop) (w : WK2 M K) : Prop
  | mk (R : Value → Value → Value → Value → Value → Value → Value → World → Prop) (h : M R w) (hk : ∀ v0 v1 v2 v3 v4 v5 v6 w', R v0 v1 v2 v3 v4 v5 v6 w' → K v0 v1 v2 v3 v4 v5 v6 w')
inductive Join8 (M : (Value → Value → Value → Value → Value → Value → Value → Value → World → Prop) → World → Prop) (K : Value → Value → Value → Value → Value → Value → Value → Value → World → Prop) (w : WK2 M K) : Prop
  | mk (R : Value → Value → Value → Value → Value → Value → Value → Value → World → Prop) (h : M R w) (hk : ∀ v0 v1 v2 v3 v4 v5 v6 v7 w', R v0 v1 v2 v3 v4 v5 v6 v7 w' → K v0 v1 v2 v3 v4 v5 v6 v7 w')
inductive Loop0 (body : (World → Prop) → World → Prop) (w : WK body) : Prop
  | mk (I : World → Prop) (μ : World → Nat) (h0 : I w) (round : ∀ w, I w → body (fun w' => I w' ∧ μ w' < μ w) w)
inductive Loop1 (s0 : Value) (body : Value → (Value → World → Prop) → World → Prop) (w : WK body) : Prop
  | mk (I : Value → World → Prop) (μ : Value → World → Nat) (h0 : I s0 w) (round : ∀ v0 w, I v0 w → body v0 (fun u0 w' => I u0 w' ∧ μ u0 w' < μ v0 w) w)
inductive Loop2 (s0 s1 : Value) (body : Value → Value → (Value → Value → World → Prop) → World → Prop) (w : WK body) : Prop
  | mk (I : Value → Value → World → Prop) (μ : Value → Value → World → Nat) (h0 : I s0 s1 w) (round : ∀ v0 v1 w, I v0 v1 w → body v0 v1 (fun u0 u1 w' => I u0 u1 w' ∧ μ u0 u1 w' < μ v0 v1 w) w)
inductive Loop3 (s0 s1 s2 : Value) (body : Value → Value → Value → (Value → Value → Value → World → Prop) → World → Prop) (w : WK body) : Prop
  | mk (I : Value → Value → Value → World → Prop) (μ : Value → Value → Value → World → Nat) (h0 : I s0 s1 s2 w) (round : ∀ v0 v1 v2 w, I v0 v1 v2 w → body v0 v1 v2 (fun u0 u1 u2 w' => I u0 u1 u2 w' ∧ μ u0 u1 u2 w' < μ v0 v1 v2 w) w)
inductive Loop4 (s0 s1 s2 s3 : Value) (body : Value → Value → Value → Value → (Value → Value → Value → Value → World → Prop) → World → Prop) (w : WK body) : Prop
  | mk (I : Value → Value → Value → Value → World → Prop) (μ : Value → Value → Value → Value → World → Nat) (h0 : I s0 s1 s2 s3 w) (round : ∀ v0 v1 v2 v3 w, I v0 v1 v2 v3 w → body v0 v1 v2 v3 (fun u0 u1 u2 u3 w' => I u0 u1 u2 u3 w' ∧ μ u0 u1 u2 u3 w' < μ v0 v1 v2 v3 w) w)
inductive Loop5 (s0 s1 s2 s3 s4 : Value) (body : Value → Value → Value → Value → Value → (Value → Value → Value → Value → Value → World → Prop) → World → Prop) (w : WK body) : Prop
  | mk (I : Value → Value → Value → Value → Value → World → Prop) (μ : Value → Value → Value → Value → Value → World → Nat) (h0 : I s0 s1 s2 s3 s4 w) (round : ∀ v0 v1 v2 v3 v4 w, I v0 v1 v2 v3 v4 w → body v0 v1 v2 v3 v4 (fun u0 u1 u2 u3 u4 w' => I u0 u1 u2 u3 u4 w' ∧ μ u0 u1 u2 u3 u4 w' < μ v0 v1 v2 v3 v4 w) w)
inductive Loop6 (s0 s1 s2 s3 s4 s5 : Value) (body : Value → Value → Value → Value → Value → Value → (Value → Value → Value → Value → Value → Value → World → Prop) → World → Prop) (w : WK body) : Prop
  | mk (I : Value → Value → Value → Value → Value → Value → World → Prop) (μ : Value → Value → Value → Value → Value → Value → World → Nat) (h0 : I s0 s1 s2 s3 s4 s5 w) (round : ∀ v0 v1 v2 v3 v4 v5 w, I v0 v1 v2 v3 v4 v5 w → body v0 v1 v2 v3 v4 v5 (fun u0 u1 u2 u3 u4 u5 w' => I u0 u1 u2 u3 u4 u5 w' ∧ μ u0 u1 u2 u3 u4 u5 w' < μ v0 v1 v2 v3 v4 v5 w) w)
inductive Loop7 (s0 s1 s2 s3 s4 s5 s6 : Value) (body : Value → Value → Value → Value → Value → Value → Value → (Value → Value → Value → Value → Value → Value → Value → World → Prop) → World → Prop) (w : WK body) : Prop
  | mk (I : Value → Value → Value → Value → Value → Value → Value → World → Prop) (μ : Value → Value → Value → Value → Value → Value → Value → World → Nat) (h0 : I s0 s1 s2 s3 s4 s5 s6 w) (round : ∀ v0 v1 v2 v3 v4 v5 v6 w, I v0 v1 v2 v3 v4 v5 v6 w → body v0 v1 v2 v3 v4 v5 v6 (fun u0 u1 u2 u3 u4 u5 u6 w' => I u0 u1 u2 u3 u4 u5 u6 w' ∧ μ u0 u1 u2 u3 u4 u5 u6 w' < μ v0 v1 v2 v3 v4 v5 v6 w) w)
inductive Loop8 (s0 s1 s2 s3 s4 s5 s6 s7 : Value) (body : Value → Value → Value → Value → Value → Value → Value → Value → (Value → Value → Value → Value → Value → Value → Value → Value → World → Prop) → World → Prop) (w : WK body) : Prop
  | mk (I : Value → Value → Value → Value → Value → Value → Value → Value → World → Prop) (μ : Value → Value → Value → Value → Value → Value → Value → Value → World → Nat) (h0 : I s0 s1 s2 s3 s4 s5 s6 s7 w) (round : ∀ v0 v1 v2 v3 v4 v5 v6 v7 w, I v0 v1 v2 v3 v4 v5 v6 v7 w → body v0 v1 v2 v3 v4 v5 v6 v7 (fun u0 u1 u2 u3 u4 u5 u6 u7 w' => I u0 u1 u2 u3 u4 u5 u6 u7 w' ∧ μ u0 u1 u2 u3 u4 u5 u6 u7 w' < μ v0 v1 v2 v3 v4 v5 v6 v7 w) w)
inductive Loop9 (s0 s1 s2 s3 s4 s5 s6 s7 s8 : Value) (body : Value → Value → Value → Value → Value → Value → Value → Value → Value → (Value → Value → Value → Value → Value → Value → Value → Value → Value → World → Prop) → World → Prop) (w : WK body) : Prop
  | mk (I : Value → Value → Value → Value → Value → Value → Value → Value → Value → World → Prop) (μ : Value → Value → Value → Value → Value → Value → Value → Value → Value → World → Nat) (h0 : I s0 s1 s2 s3 s4 s5 s6 s7 s8 w) (round : ∀ v0 v1 v2 v3 v4 v5 v6 v7 v8 w, I v0 v1 v2 v3 v4 v5 v6 v7 v8 w → body v0 v1 v2 v3 v4 v5 v6 v7 v8 (fun u0 u1 u2 u3 u4 u5 u6 u7 u8 w' => I u0 u1 u2 u3 u4 u5 u6 u7 u8 w' ∧ μ u0 u1 u2 u3 u4 u5 u6 u7 u8 w' < μ v0 v1 v2 v3 v4 v5 v6 v7 v8 w) w)
inductive Loop10 (s0 s1 s2 s3 s4 s5 s6 s7 s8 s9 : Value) (body : Value → Value → Value → Value → Value → Value → Value → Value → Value → Value → (Value → Value → Value → Value → Value → Value → Value → Value → Value → Value → World → Prop) → World → Prop) (w : WK body) : Prop
  | mk (I : Value → Value → Value → Value → Value → Value → Value → Value → Value → Value → World → Prop) (μ : Value → Value → Value → Value → Value → Value → Value → Value → Value → Value → World → Nat) (h0 : I s0 s1 s2 s3 s4 s5 s6 s7 s8 s9 w) (round : ∀ v0 v1 v2 v3 v4 v5 v6 v7 v8 v9 w, I v0 v1 v2 v3 v4 v5 v6 v7 v8 v9 w → body v0 v1 v2 v3 v4 v5 v6 v7 v8 v9 (fun u0 u1 u2 u3 u4 u5 u6 u7 u8 u9 w' => I u0 u1 u2 u3 u4 u5 u6 u7 u8 u9 w' ∧ μ u0 u1 u2 u3 u4 u5 u6 u7 u8 u9 w' < μ v0 v1 v2 v3 v4 v5 v6 v7 v8 v9 w) w)
def vget (e : Env) (s : Nat) (k : Value → Prop) : Prop :=
  match Env.get e s with
  | .unk => False
  | .und => False
  | .val v => k v
  | .lit b => k (.bool b)
def tvget (e : Env) (s : Nat) (k : Value → Prop) : Prop := bif Nat.beq s DK then False else vget e s k
def putE (e : Env) (dst : Option Nat) (x : Ent) : Env :=
  match dst with
  | some d => (d, x) :: e
  | none => e
def killAll : List Nat → Env → Env
  | [], e => e
  | d :: ds, e => (d, .unk) :: killAll ds e
def Ent.value? : Ent → Option Value
  | .unk => none
  | .und => none
  | .val v => some v
  | .lit b => some (.bool b)
def stepO (P : Program) (o : Oper) (e : Env) (k : Env → World → Prop) (w : World) : Prop :=
  match o.op with
  | .move x => k (putE e o.dst (entO e x)) w
  | .assign x => k (putE e o.dst (entO e x)) w
  | .pick c x y => match entO e c with
    | .lit b => bif b then k (putE e o.dst (entO e x)) w else k (putE e o.dst (entO e y)) w
    | .val v => BrW v (k (putE e o.dst (entO e x)) w) (k (putE e o.dst (entO e y)) w) ()
    | _ => False
  | .binOp op t x y _ => match (entO e x).value?, (entO e y).value? with
    | some a, some b => BinX P op t a b (fun v w => k (putE e o.dst (.val v)) w) w
    | _, _ => False
  | .go _ => False
  | .defer _ => False
  | .call { callee := .builtin .print, .. } => False
  | .call { callee := .builtin .println, .. } => False
  | op => OpX P (mapO (subO e) op) o.type (fun v w => k (putE e o.dst (.val v)) w) w
def dstOf (ops : List Oper) (j : Nat) : Option Nat :=
  match ops, j with
  | [], _ => none
  | o :: _, 0 => o.dst
  | _ :: os, j + 1 => dstOf os j
def guardO (P : Program) (ops : List Oper) (o : Oper) (e : Env) (k : Env → World → Prop) (w : World) : Prop :=
  match o.guard with
  | none => stepO P o e k w
  | some (j, want) => match dstOf ops j with
    | none => False
    | some d => match tget e d with
      | .unk => False
      | .lit b => bif (bif b then want else !want) then stepO P o e k w else k (putE e o.dst .und) w
      | .und => k (putE e o.dst .und) w
      | .val v => BrW v
          (bif want then stepO P o ((d, .lit true) :: e) k w else k (putE ((d, .lit true) :: e) o.dst .und) w)
          (bif want then k (putE ((d, .lit false) :: e) o.dst .und) w else stepO P o ((d, .lit false) :: e) k w) ()
def trOps (P : Program) (ops : List Oper) : List Oper → Env → (Env → World → Prop) → World → Prop
  | [], e, K, w => K e w
  | o :: rest, e, K, w => guardO P ops o e (fun e w => trOps P ops rest e K w) w
inductive PurX (P : Program) (op : Op) (type : TypeId) (K : Value → Prop) (u : UK K) : Prop
  | mk (v : Value) (h : ∀ ρ, Good ρ → ∀ w, (execOp ρ (mkOper op type)).run P w = .ok (.value v) w) (hk : K v)
inductive Yld (P : Program) (op : Op) (type : TypeId) (v : Value) (w : World) : Prop
  | mk (h : ∀ ρ, Good ρ → (execOp ρ (mkOper op type)).run P w = .ok (.value v) w)
inductive RdX (P : Program) (op : Op) (type : TypeId) (K : Value → Prop) (w : WK K) : Prop
  | mk (v : Value) (h : Yld P op type v w) (hk : K v)
def binS (op : BinOp) (t : TypeId) (a b : Value) (x y : Operand) : Sem Next := do eqGuard op t x y a b; return Next.value (← binOp op t a b)
inductive PurB (P : Program) (op : BinOp) (t : TypeId) (a b : Value) (K : Value → Prop) (u : UK K) : Prop
  | mk (v : Value) (h : ∀ x y w, (binS op t a b x y).run P w = .ok (.value v) w) (hk : K v)
inductive YldB (P : Program) (op : BinOp) (t : TypeId) (a b : Value) (v : Value) (w : World) : Prop
  | mk (h : ∀ x y, (binS op t a b x y).run P w = .ok (.value v) w)
inductive RdB (P : Program) (op : BinOp) (t : TypeId) (a b : Value) (K : Value → Prop) (w : WK K) : Prop
  | mk (v : Value) (h : YldB P op t a b v w) (hk : K v)
def quietK : Op → Nat
  | .move _ => 1
  | .assign _ => 1
  | .pick _ _ _ => 1
  | .nilCheck _ => 2
  | .unOp _ _ _ => 2
  | .convert _ _ _ => 2
  | .fieldAddr _ _ _ => 2
  | .field _ _ _ => 2
  | .indexAddr _ _ _ => 2
  | .index _ _ _ => 2
  | .slice _ _ _ _ _ => 2
  | .extract _ _ => 2
  | .load _ _ => 3
  | .lookup _ _ _ _ => 3
  | .binOp .eql _ _ _ _ => 3
  | .binOp .neq _ _ _ _ => 3
  | .binOp _ _ _ _ _ => 2
  | .call { callee := .builtin .min, .. } => 2
  | .call { callee := .builtin .max, .. } => 2
  | .call { callee := .builtin .len, .. } => 3
  | .call { callee := .builtin .cap, .. } => 3
  | _ => 0
def stepQ (P : Program) (o : Oper) (e : Env) (k : Env → Option (World → Prop) → Prop) (w : World) : Prop :=
  match o.op with
  | .move x => k (putE e o.dst (entO e x)) none
  | .assign x => k (putE e o.dst (entO e x)) none
  | .pick c x y => match entO e c with
    | .lit b => bif b then k (putE e o.dst (entO e x)) none else k (putE e o.dst (entO e y)) none
    | .val v => BrW v (k (putE e o.dst (entO e x)) none) (k (putE e o.dst (entO e y)) none) ()
    | _ => False
  | .binOp op t x y _ => match (entO e x).value?, (entO e y).value? with
    | some a, some b => bif Nat.beq (quietK o.op) 2 then PurB P op t a b (fun v => k (putE e o.dst (.val v)) none) ()
        else RdB P op t a b (fun v => k (putE e o.dst (.val v)) (some (YldB P op t a b v))) w
    | _, _ => False
  | op => match quietK op with
    | 2 => PurX P (mapO (subO e) op) o.type (fun v => k (putE e o.dst (.val v)) none) ()
    | 3 => RdX P (mapO (subO e) op) o.type (fun v => k (putE e o.dst (.val v)) (some (Yld P (mapO (subO e) op) o.type v))) w
    | _ => False
def guardQ (ops : List Oper) (o : Oper) (e : Env) (run skip : Env → Prop) : Prop :=
  match o.guard with
  | none => run e
  | some (j, want) => match dstOf ops j with
    | none => False
    | some d => match tget e d with
      | .unk => False
      | .lit b => bif (bif b then want else !want) then run e else skip e
      | .und => skip e
      | .val v => BrW v (bif want then run ((d, .lit true) :: e) else skip ((d, .lit true) :: e)) (bif want then skip ((d, .lit false) :: e) else run ((d, .lit false) :: e)) ()
abbrev Held := List (Nat × (World → Prop))
def oblW : List (Nat × (World → Prop)) → World → Prop → Prop
  | [], _, X => X
  | p :: l, w, X => p.2 w ∧ oblW l w X
def maskE (acc : List Nat) : List Edge → Nat → Nat
  | [], s => s
  | e :: es, s => maskE acc es (bif Region.binds .any e then s ||| 2 ^ e.on ||| acc.getD e.on 0 else s)
def masks : List Oper → List Nat → List Nat
  | [], acc => acc
  | o :: os, acc => masks os (acc ++ [maskE acc o.after.toList 0])
def twB (ms : List Nat) (j i : Nat) : Bool := (ms.getD j 0).testBit i
def keepH (ms : List Nat) (j : Nat) : List (Nat × (World → Prop)) → List (Nat × (World → Prop))
  | [] => []
  | p :: l => bif twB ms j p.1 then keepH ms j l else p :: keepH ms j l
def okE (m : Nat) : List Edge → Bool
  | [] => true
  | e :: es => (bif Region.binds .any e then m.testBit e.on else true) && okE m es
def readyL : List Oper → Nat → Nat → List Nat
  | [], _, _ => []
  | o :: os, i, m => bif (!m.testBit i && okE m o.after.toList) then i :: readyL os (i + 1) m else readyL os (i + 1) m
def quietAt (ops : List Oper) (i : Nat) : Bool :=
  match ops, i with
  | [], _ => false
  | o :: _, 0 => !(Nat.beq (quietK o.op) 0)
  | _ :: os, j + 1 => quietAt os j
def firstQ (ops : List Oper) : List Nat → Option Nat
  | [] => none
  | i :: is => bif quietAt ops i then some i else firstQ ops is
def allL : List Nat → (Nat → Prop) → Prop
  | [], _ => True
  | [j], f => f j
  | j :: js, f => f j ∧ allL js f
def nthO : List Oper → Nat → Option Oper
  | [], _ => none
  | o :: _, 0 => some o
  | _ :: os, j + 1 => nthO os j
def trD (P : Program) (ops : List Oper) (ms : List Nat) : Nat → Nat → List (Nat × (World → Prop)) → Env → (Env → World → Prop) → World → Prop
  | 0, m, _, e, K, w => match readyL ops 0 m with
    | [] => K e w
    | _ => False
  | n + 1, m, held, e, K, w => match readyL ops 0 m with
    | [] => K e w
    | rs => match firstQ ops rs with
      | some i => match nthO ops i with
        | none => False
        | some o => guardQ ops o e
            (fun e => stepQ P o e (fun e S => trD P ops ms n (m ||| 2 ^ i) (match S with | some S => (i, S) :: held | none => held) e K w) w)
            (fun e => trD P ops ms n (m ||| 2 ^ i) held (putE e o.dst .und) K w)
      | none => allL rs fun j => match nthO ops j with
        | none => False
        | some o => guardQ ops o e
            (fun e => stepO P o e (fun e w => oblW (keepH ms j held) w (trD P ops ms n (m ||| 2 ^ j) (keepH ms j held) e K w)) w)
            (fun e => trD P ops ms n (m ||| 2 ^ j) (keepH ms j held) (putE e o.dst .und) K w)
def waitsOn (o : Oper) (i : Nat) : Bool := o.after.toList.any fun e => Region.binds .any e && Nat.beq e.on i
def apartOK (ops : Array Oper) (ms : List Nat) : Bool :=
  Region.noSelect ops && ops.toList.zipIdx.all fun (oi, i) => ops.toList.zipIdx.all fun (oj, j) => Nat.beq i j || waitsOn oj i || twB ms i j || oi.apart ops oj
def joinL (J : List Nat) (base : Env) (M : (Env → World → Prop) → World → Prop) (K : Env → World → Prop) (w : World) : Prop :=
  match J with
  | [] => Join0 (fun k w => M (fun e' w => k w) w) (fun w => K base w) w
  | [s0] => Join1 (fun k w => M (fun e' w => vget e' s0 fun v0 => k v0 w) w) (fun v0 w => K ((s0, .val v0) :: base) w) w
  | [s0, s1] => Join2 (fun k w => M (fun e' w => vget e' s0 fun v0 => vget e' s1 fun v1 => k v0 v1 w) w) (fun v0 v1 w => K ((s0, .val v0) :: (s1, .val v1) :: base) w) w
  | [s0, s1, s2] => Join3 (fun k w => M (fun e' w => vget e' s0 fun v0 => vget e' s1 fun v1 => vget e' s2 fun v2 => k v0 v1 v2 w) w) (fun v0 v1 v2 w => K ((s0, .val v0) :: (s1, .val v1) :: (s2, .val v2) :: base) w) w
  | [s0, s1, s2, s3] => Join4 (fun k w => M (fun e' w => vget e' s0 fun v0 => vget e' s1 fun v1 => vget e' s2 fun v2 => vget e' s3 fun v3 => k v0 v1 v2 v3 w) w) (fun v0 v1 v2 v3 w => K ((s0, .val v0) :: (s1, .val v1) :: (s2, .val v2) :: (s3, .val v3) :: base) w) w
  | [s0, s1, s2, s3, s4] => Join5 (fun k w => M (fun e' w => vget e' s0 fun v0 => vget e' s1 fun v1 => vget e' s2 fun v2 => vget e' s3 fun v3 => vget e' s4 fun v4 => k v0 v1 v2 v3 v4 w) w) (fun v0 v1 v2 v3 v4 w => K ((s0, .val v0) :: (s1, .val v1) :: (s2, .val v2) :: (s3, .val v3) :: (s4, .val v4) :: base) w) w
  | [s0, s1, s2, s3, s4, s5] => Join6 (fun k w => M (fun e' w => vget e' s0 fun v0 => vget e' s1 fun v1 => vget e' s2 fun v2 => vget e' s3 fun v3 => vget e' s4 fun v4 => vget e' s5 fun v5 => k v0 v1 v2 v3 v4 v5 w) w) (fun v0 v1 v2 v3 v4 v5 w => K ((s0, .val v0) :: (s1, .val v1) :: (s2, .val v2) :: (s3, .val v3) :: (s4, .val v4) :: (s5, .val v5) :: base) w) w
  | [s0, s1, s2, s3, s4, s5, s6] => Join7 (fun k w => M (fun e' w => vget e' s0 fun v0 => vget e' s1 fun v1 => vget e' s2 fun v2 => vget e' s3 fun v3 => vget e' s4 fun v4 => vget e' s5 fun v5 => vget e' s6 fun v6 => k v0 v1 v2 v3 v4 v5 v6 w) w) (fun v0 v1 v2 v3 v4 v5 v6 w => K ((s0, .val v0) :: (s1, .val v1) :: (s2, .val v2) :: (s3, .val v3) :: (s4, .val v4) :: (s5, .val v5) :: (s6, .val v6) :: base) w) w
  | [s0, s1, s2, s3, s4, s5, s6, s7] => Join8 (fun k w => M (fun e' w => vget e' s0 fun v0 => vget e' s1 fun v1 => vget e' s2 fun v2 => vget e' s3 fun v3 => vget e' s4 fun v4 => vget e' s5 fun v5 => vget e' s6 fun v6 => vget e' s7 fun v7 => k v0 v1 v2 v3 v4 v5 v6 v7 w) w) (fun v0 v1 v2 v3 v4 v5 v6 v7 w => K ((s0, .val v0) :: (s1, .val v1) :: (s2, .val v2) :: (s3, .val v3) :: (s4, .val v4) :: (s5, .val v5) :: (s6, .val v6) :: (s7, .val v7) :: base) w) w
  | _ => False
def loopL (L : List Nat) (e : Env) (base : Env) (body : Env → (Env → World → Prop) → World → Prop) (w : World) : Prop :=
  match L with
  | [] => Loop0 (fun next w => body (base) (fun e' w => next w) w) w
  | [s0] => vget e s0 fun u0 => Loop1 u0 (fun v0 next w => body ((s0, .val v0) :: base) (fun e' w => vget e' s0 fun v0 => next v0 w) w) w
  | [s0, s1] => vget e s0 fun u0 => vget e s1 fun u1 => Loop2 u0 u1 (fun v0 v1 next w => body ((s0, .val v0) :: (s1, .val v1) :: base) (fun e' w => vget e' s0 fun v0 => vget e' s1 fun v1 => next v0 v1 w) w) w
  | [s0, s1, s2] => vget e s0 fun u0 => vget e s1 fun u1 => vget e s2 fun u2 => Loop3 u0 u1 u2 (fun v0 v1 v2 next w => body ((s0, .val v0) :: (s1, .val v1) :: (s2, .val v2) :: base) (fun e' w => vget e' s0 fun v0 => vget e' s1 fun v1 => vget e' s2 fun v2 => next v0 v1 v2 w) w) w
  | [s0, s1, s2, s3] => vget e s0 fun u0 => vget e s1 fun u1 => vget e s2 fun u2 => vget e s3 fun u3 => Loop4 u0 u1 u2 u3 (fun v0 v1 v2 v3 next w => body ((s0, .val v0) :: (s1, .val v1) :: (s2, .val v2) :: (s3, .val v3) :: base) (fun e' w => vget e' s0 fun v0 => vget e' s1 fun v1 => vget e' s2 fun v2 => vget e' s3 fun v3 => next v0 v1 v2 v3 w) w) w
  | [s0, s1, s2, s3, s4] => vget e s0 fun u0 => vget e s1 fun u1 => vget e s2 fun u2 => vget e s3 fun u3 => vget e s4 fun u4 => Loop5 u0 u1 u2 u3 u4 (fun v0 v1 v2 v3 v4 next w => body ((s0, .val v0) :: (s1, .val v1) :: (s2, .val v2) :: (s3, .val v3) :: (s4, .val v4) :: base) (fun e' w => vget e' s0 fun v0 => vget e' s1 fun v1 => vget e' s2 fun v2 => vget e' s3 fun v3 => vget e' s4 fun v4 => next v0 v1 v2 v3 v4 w) w) w
  | [s0, s1, s2, s3, s4, s5] => vget e s0 fun u0 => vget e s1 fun u1 => vget e s2 fun u2 => vget e s3 fun u3 => vget e s4 fun u4 => vget e s5 fun u5 => Loop6 u0 u1 u2 u3 u4 u5 (fun v0 v1 v2 v3 v4 v5 next w => body ((s0, .val v0) :: (s1, .val v1) :: (s2, .val v2) :: (s3, .val v3) :: (s4, .val v4) :: (s5, .val v5) :: base) (fun e' w => vget e' s0 fun v0 => vget e' s1 fun v1 => vget e' s2 fun v2 => vget e' s3 fun v3 => vget e' s4 fun v4 => vget e' s5 fun v5 => next v0 v1 v2 v3 v4 v5 w) w) w
  | [s0, s1, s2, s3, s4, s5, s6] => vget e s0 fun u0 => vget e s1 fun u1 => vget e s2 fun u2 => vget e s3 fun u3 => vget e s4 fun u4 => vget e s5 fun u5 => vget e s6 fun u6 => Loop7 u0 u1 u2 u3 u4 u5 u6 (fun v0 v1 v2 v3 v4 v5 v6 next w => body ((s0, .val v0) :: (s1, .val v1) :: (s2, .val v2) :: (s3, .val v3) :: (s4, .val v4) :: (s5, .val v5) :: (s6, .val v6) :: base) (fun e' w => vget e' s0 fun v0 => vget e' s1 fun v1 => vget e' s2 fun v2 => vget e' s3 fun v3 => vget e' s4 fun v4 => vget e' s5 fun v5 => vget e' s6 fun v6 => next v0 v1 v2 v3 v4 v5 v6 w) w) w
  | [s0, s1, s2, s3, s4, s5, s6, s7] => vget e s0 fun u0 => vget e s1 fun u1 => vget e s2 fun u2 => vget e s3 fun u3 => vget e s4 fun u4 => vget e s5 fun u5 => vget e s6 fun u6 => vget e s7 fun u7 => Loop8 u0 u1 u2 u3 u4 u5 u6 u7 (fun v0 v1 v2 v3 v4 v5 v6 v7 next w => body ((s0, .val v0) :: (s1, .val v1) :: (s2, .val v2) :: (s3, .val v3) :: (s4, .val v4) :: (s5, .val v5) :: (s6, .val v6) :: (s7, .val v7) :: base) (fun e' w => vget e' s0 fun v0 => vget e' s1 fun v1 => vget e' s2 fun v2 => vget e' s3 fun v3 => vget e' s4 fun v4 => vget e' s5 fun v5 => vget e' s6 fun v6 => vget e' s7 fun v7 => next v0 v1 v2 v3 v4 v5 v6 v7 w) w) w
  | [s0, s1, s2, s3, s4, s5, s6, s7, s8] => vget e s0 fun u0 => vget e s1 fun u1 => vget e s2 fun u2 => vget e s3 fun u3 => vget e s4 fun u4 => vget e s5 fun u5 => vget e s6 fun u6 => vget e s7 fun u7 => vget e s8 fun u8 => Loop9 u0 u1 u2 u3 u4 u5 u6 u7 u8 (fun v0 v1 v2 v3 v4 v5 v6 v7 v8 next w => body ((s0, .val v0) :: (s1, .val v1) :: (s2, .val v2) :: (s3, .val v3) :: (s4, .val v4) :: (s5, .val v5) :: (s6, .val v6) :: (s7, .val v7) :: (s8, .val v8) :: base) (fun e' w => vget e' s0 fun v0 => vget e' s1 fun v1 => vget e' s2 fun v2 => vget e' s3 fun v3 => vget e' s4 fun v4 => vget e' s5 fun v5 => vget e' s6 fun v6 => vget e' s7 fun v7 => vget e' s8 fun v8 => next v0 v1 v2 v3 v4 v5 v6 v7 v8 w) w) w
  | [s0, s1, s2, s3, s4, s5, s6, s7, s8, s9] => vget e s0 fun u0 => vget e s1 fun u1 => vget e s2 fun u2 => vget e s3 fun u3 => vget e s4 fun u4 => vget e s5 fun u5 => vget e s6 fun u6 => vget e s7 fun u7 => vget e s8 fun u8 => vget e s9 fun u9 => Loop10 u0 u1 u2 u3 u4 u5 u6 u7 u8 u9 (fun v0 v1 v2 v3 v4 v5 v6 v7 v8 v9 next w => body ((s0, .val v0) :: (s1, .val v1) :: (s2, .val v2) :: (s3, .val v3) :: (s4, .val v4) :: (s5, .val v5) :: (s6, .val v6) :: (s7, .val v7) :: (s8, .val v8) :: (s9, .val v9) :: base) (fun e' w => vget e' s0 fun v0 => vget e' s1 fun v1 => vget e' s2 fun v2 => vget e' s3 fun v3 => vget e' s4 fun v4 => vget e' s5 fun v5 => vget e' s6 fun v6 => vget e' s7 fun v7 => vget e' s8 fun v8 => vget e' s9 fun v9 => next v0 v1 v2 v3 v4 v5 v6 v7 v8 v9 w) w) w
  | _ => False
inductive LSt where
  | ready
  | busy
  | gone (ex : Ex)
  | over (ex : Ex)
def nthV : List Value → Nat → Value
  | [], _ => undef
  | v :: _, 0 => v
  | _ :: l, n + 1 => nthV l n
def YCall (P : Program) (yv : Value) (vs : List Value) (K : Value → World → Prop) (w : World) : Prop :=
  ∀ (ats : Array TypeId) (ty : TypeId), OpX P (.call { callee := .value (.const yv), args := (vs.map Operand.const).toArray, argTypes := ats }) ty K w
inductive CallV (P : Program) (fv : Value) (vs : List Value) (w : World) (R : World → Prop) : Prop
  | mk (f : FuncId) (us cs : List Value) (hf : fv = .func (.func f) us.toArray cs.toArray) (hb : Bodied P f) (h : Calls P f (us ++ vs ++ cs).toArray w (retK fun _ w' => R w'))
inductive RngX (P : Program) (fv : Value) (np : Nat) (M : List Value → ((World → Prop) → World → Prop) → (World → Prop) → (World → Prop) → (Nat → World → Prop) → World → Prop)
    (QN QR : Nat → World → Prop) (QE : List (Nat × (Nat → World → Prop))) (w : World) : Prop
  | mk (h : ∀ (Lp : LSt → Obj) (yv : Value),
      (∀ vs w2 K, vs.length = np → w2.heap[w.heap.size + 1]? = some (Lp .ready) →
        M vs (fun K w1 => w1.heap[w.heap.size + 1]? = some (Lp .ready) ∧ K (setBlk w1 (w.heap.size + 1) (Lp .busy)))
          (fun w3 => w3.heap[w.heap.size + 1]? = some (Lp .busy) ∧ K (.bool true) (setBlk w3 (w.heap.size + 1) (Lp .ready)))
          (fun w3 => w3.heap[w.heap.size + 1]? = some (Lp .busy) ∧ K (.bool false) (setBlk w3 (w.heap.size + 1) (Lp (.gone .ret))))
          (fun id w3 => w3.heap[w.heap.size + 1]? = some (Lp .busy) ∧ K (.bool false) (setBlk w3 (w.heap.size + 1) (Lp (.gone (.exit id)))))
          w2 → YCall P yv vs K w2) →
      CallV P fv [yv] ((w.alloc (.deferred (some []))).alloc (Lp .ready)) fun w3 =>
        (w3.heap[w.heap.size + 1]? = some (Lp .ready) ∧ QN w.heap.size (setBlk w3 (w.heap.size + 1) (Lp (.over .normal)))) ∨
        (w3.heap[w.heap.size + 1]? = some (Lp (.gone .ret)) ∧ QR w.heap.size (setBlk w3 (w.heap.size + 1) (Lp (.over .ret)))) ∨
        (∃ id q, (id, q) ∈ QE ∧ w3.heap[w.heap.size + 1]? = some (Lp (.gone (.exit id))) ∧ q w.heap.size (setBlk w3 (w.heap.size + 1) (Lp (.over (.exit id))))))
abbrev Hints := List (Nat × List Nat)
def hint : Hints → Nat → Option (List Nat)
  | [], _ => none
  | (m, l) :: hs, n => bif Nat.beq m n then some l else hint hs n
def dsts : List Oper → List Nat
  | [] => []
  | o :: os => match o.dst with
    | some d => d :: dsts os
    | none => dsts os
def writes : Code → List Nat
  | .region _ ops _ => dsts ops.toList
  | .seq x y => writes x ++ writes y
  | .cond _ x y => writes x ++ writes y
  | .block _ c => writes c
  | .loop c => writes c
  | .scope c => writes c
  | .rangeFunc _ _ _ _ => [DK]
  | _ => []
def csize : Code → Nat
  | .seq x y => csize x + csize y + 1
  | .cond _ x y => csize x + csize y + 1
  | .block _ c => csize c + 1
  | .loop c => csize c + 1
  | .scope c => csize c + 1
  | .rangeFunc _ _ x y => csize x + csize y + 1
  | _ => 1
def thnE (next : Env → World → Prop) (Q : Ex → Env → World → Prop) : Ex → Env → World → Prop
  | .normal, e, w => next e w
  | .exit id, e, w => Q (.exit id) e w
  | .ret, e, w => Q .ret e w
def inBlkE (id : Nat) (next : Env → World → Prop) (Q : Ex → Env → World → Prop) : Ex → Env → World → Prop
  | .normal, e, w => next e w
  | .exit id', e, w => bif Nat.beq id' id then next e w else Q (.exit id') e w
  | .ret, e, w => Q .ret e w
def memB : List Nat → Nat → Bool
  | [], _ => false
  | d :: ds, n => Nat.beq d n || memB ds n
def exIds : Code → List Nat → List Nat → List Nat
  | .exit id, bound, acc => bif memB bound id || memB acc id then acc else acc ++ [id]
  | .seq x y, bound, acc => exIds y bound (exIds x bound acc)
  | .cond _ x y, bound, acc => exIds y bound (exIds x bound acc)
  | .block id c, bound, acc => exIds c (id :: bound) acc
  | .loop c, bound, acc => exIds c bound acc
  | .scope c, bound, acc => exIds c bound acc
  | _, _, acc => acc
def hasRet : Code → Bool
  | .ret => true
  | .seq x y => hasRet x || hasRet y
  | .cond _ x y => hasRet x || hasRet y
  | .block _ c => hasRet c
  | .loop c => hasRet c
  | .scope c => hasRet c
  | _ => false
def bindR : List Tmp → Nat → List Value → Env → Env
  | [], _, _, e => e
  | p :: ps, i, vs, e => bindR ps (i + 1) vs ((p, .val (nthV vs i)) :: e)
def rndQ (kn kr : World → Prop) (kx : Nat → World → Prop) : Ex → Env → World → Prop
  | .normal, _, w => kn w
  | .ret, _, w => kr w
  | .exit id, _, w => kx id w
def qret (b : Bool) (q : Nat → World → Prop) : Nat → World → Prop := bif b then q else fun _ _ => False
def refine1 (e : Env) (c : Operand) (b : Bool) : Env :=
  match c with
  | .tmp t => (t, .lit b) :: e
  | _ => e
def tr (P : Program) (top : Bool) (hs : Hints) : Code → Nat → (Ex → Env → World → Prop) → Env → World → Prop
  | .skip, _, Q, e, w => Q .normal e w
  | .region _ ops false, n, Q, e, w => match hint hs n with
    | none => trOps P ops.toList ops.toList e (fun e w => Q .normal e w) w
    | some J => joinL J (killAll (dsts ops.toList) e) (fun k w => trOps P ops.toList ops.toList e k w) (fun e w => Q .normal e w) w
  | .region _ ops true, n, Q, e, w => match apartOK ops (masks ops.toList []) with
    | false => False
    | true => match hint hs n with
      | none => trD P ops.toList (masks ops.toList []) ops.size 0 [] e (fun e w => Q .normal e w) w.drew
      | some J => joinL J (killAll (dsts ops.toList) e) (fun k w => trD P ops.toList (masks ops.toList []) ops.size 0 [] e k w) (fun e w => Q .normal e w) w.drew
  | .seq x y, n, Q, e, w => match hint hs n with
    | none => tr P top hs x (n + 1) (thnE (fun e w => tr P top hs y (n + 1 + csize x) Q e w) Q) e w
    | some J => joinL J (killAll (writes x) e) (fun k w => tr P top hs x (n + 1) (thnE k Q) e w) (fun e w => tr P top hs y (n + 1 + csize x) Q e w) w
  | .cond c x y, n, Q, e, w => match entO e c with
    | .unk => False
    | .und => False
    | .lit b => bif b then tr P top hs x (n + 1) Q e w else tr P top hs y (n + 1 + csize x) Q e w
    | .val v => BrW v (tr P top hs x (n + 1) Q (refine1 e c true) w) (tr P top hs y (n + 1 + csize x) Q (refine1 e c false) w) ()
  | .block id c, n, Q, e, w => match hint hs n with
    | none => tr P top hs c (n + 1) (inBlkE id (fun e w => Q .normal e w) Q) e w
    | some J => joinL J (killAll (writes c) e) (fun k w => tr P top hs c (n + 1) (inBlkE id k Q) e w) (fun e w => Q .normal e w) w
  | .loop c, n, Q, e, w => match hint hs n with
    | none => False
    | some L => loopL L e (killAll (writes c) e) (fun e next w => tr P top hs c (n + 1) (thnE next Q) e w) w
  | .rangeFunc f params x y, n, Q, e, w => match top, entO e f, Env.get e DK with
    | true, .val fv, .val dv => RngX P fv params.size
        (fun vs bg kn kr kx w => tr P false hs x (n + 1) (thnE (fun e w => bg (fun w => tr P false hs y (n + 1 + csize x) (rndQ kn kr kx) e w) w) (fun _ _ _ => False)) (bindR params.toList 0 vs ((DK, .unk) :: e)) w)
        (fun r w => Q .normal ((DK, .val (dcons r dv)) :: e) w)
        (qret (hasRet y) fun r w => Q .ret ((DK, .val (dcons r dv)) :: e) w)
        ((exIds y [] []).map fun id => (id, fun r w => Q (.exit id) ((DK, .val (dcons r dv)) :: e) w)) w
    | _, _, _ => False
  | .scope c, n, Q, e, w => tr P top hs c (n + 1) Q e w
  | .label _, _, Q, e, w => Q .normal e w
  | .exit id, _, Q, e, w => Q (.exit id) e w
  | .ret, _, Q, e, w => Q .ret e w
  | _, _, _, _, _ => False
def pack : List Value → Value
  | [v] => v
  | vs => .tuple vs.toArray
def trRes (P : Program) : List ResultVar → List Value → (Value → World → Prop) → Env → World → Prop
  | [], acc, K, _, w => K (pack acc.reverse) w
  | .tmp t :: rs, acc, K, e, w => tvget e t fun v => trRes P rs (v :: acc) K e w
  | .cell a t :: rs, acc, K, e, w => tvget e a fun v => LdR P t v (fun x w => trRes P rs (x :: acc) K e w) w
def retQ (P : Program) (rs : List ResultVar) (K : Value → World → Prop) : Ex → Env → World → Prop
  | .normal, e, w => vget e DK fun v => closeV v (fun w => trRes P rs [] K e w) w
  | .ret, e, w => vget e DK fun v => closeV v (fun w => trRes P rs [] K e w) w
  | .exit _, _, _ => False
def enterE : Nat → List Value → Env
  | _, [] => []
  | i, v :: vs => (i, .val v) :: enterE (i + 1) vs
def enterD (vs : List Value) : Env := (DK, .val (.tuple #[])) :: enterE 0 vs
def okOps (N : Nat) : List Oper → Bool
  | [] => true
  | o :: os => (match o.dst with | some d => Nat.blt d N | none => true) && okOps N os
def wfc (N : Nat) : Code → Bool
  | .region _ ops _ => okOps N ops.toList
  | .seq x y => wfc N x && wfc N y
  | .cond _ x y => wfc N x && wfc N y
  | .block _ c => wfc N c
  | .loop c => wfc N c
  | .scope c => wfc N c
  | .rangeFunc _ ps x y => ps.toList.all (fun p => Nat.blt p N) && wfc N x && wfc N y
  | _ => true
end Lyc
namespace Lyc
open Go
def Frz (ds : List Nat) (a a' : Act) : Prop := a'.tmps.size = a.tmps.size ∧ ∀ s, s ∉ ds → slot a' s = slot a s
theorem Frz.refl (ds : List Nat) (a : Act) : Frz ds a a := ⟨rfl, fun _ _ => rfl⟩
theorem Frz.trans {ds ds' : List Nat} {a b c : Act} (h : Frz ds a b) (h' : Frz ds' b c) : Frz (ds ++ ds') a c :=
  ⟨h'.1.trans h.1, fun s hs => by
    simp only [List.mem_append, not_or] at hs
    rw [h'.2 s hs.2, h.2 s hs.1]⟩
theorem Frz.mono {ds ds' : List Nat} {a b : Act} (h : Frz ds a b) (hs : ∀ s ∈ ds, s ∈ ds') : Frz ds' a b :=
  ⟨h.1, fun s hn => h.2 s fun hm => hn (hs s hm)⟩
theorem Env.get_cons (d : Nat) (x : Ent) (e : Env) (i : Nat) : Env.get ((d, x) :: e) i = if d = i then x else Env.get e i := by
  show (bif Nat.beq d i then x else Env.get e i) = _
  by_cases h : d = i
  · subst h; simp [Nat.beq_refl]
  · have hb : Nat.beq d i = false := by
      cases hb : Nat.beq d i with
      | true => exact absurd (Nat.eq_of_beq_eq_true hb) h
      | false => rfl
    simp [h, hb]
theorem slot_tmp (a : Act) {d : Nat} (h : d ≠ DK) : slot a d = a.tmps.getD d undef := by unfold slot; rw [if_neg h]
theorem beq_DK (t : Nat) : Nat.beq t DK = decide (t = DK) := by
  cases h : Nat.beq t DK with
  | true => simp [Nat.eq_of_beq_eq_true h]
  | false =>
    have : t ≠ DK := by rintro rfl; rw [Nat.beq_refl] at h; cases h
    simp [this]
theorem agree_refine {e : Env} {a : Act} {d : Nat} {x : Ent} (h : Agree e a) (hx : x.ok (slot a d)) : Agree ((d, x) :: e) a := by
  refine ⟨h.1, fun i => ?_⟩
  rw [Env.get_cons]
  split
  · rename_i hi; subst hi; exact hx
  · exact h.2 i
theorem tget_ok {e : Env} {a : Act} (h : Agree e a) (d : Nat) : (tget e d).ok (a.tmps.getD d undef) := by
  unfold tget
  rw [beq_DK]
  by_cases hd : d = DK
  · simp [hd, Ent.ok]
  · simp only [hd, decide_false, cond_false]
    have := h.2 d
    rw [slot_tmp a hd] at this
    exact this
theorem agree_refineT {e : Env} {a : Act} {d : Nat} {x : Ent} (h : Agree e a) (hd : tget e d ≠ .unk) (hx : x.ok (a.tmps.getD d undef)) : Agree ((d, x) :: e) a := by
  refine agree_refine h ?_
  rw [slot_tmp]
  · exact hx
  · rintro rfl
    apply hd
    unfold tget
    rw [Nat.beq_refl]
    rfl
theorem put_getD (a : Act) (d : Nat) (v : Value) (hd : d < a.tmps.size) (hD : a.tmps.size ≤ DK) (i : Nat) : slot (a.put (some d) v) i = if d = i then v else slot a i := by
  have hdk : d ≠ DK := by omega
  by_cases hi : i = DK
  · subst hi
    rw [if_neg hdk]
    rfl
  · rw [slot_tmp _ hi, slot_tmp _ hi]
    simp only [Act.put, Array.getD_eq_getD_getElem?]
    by_cases h : d = i
    · subst h; simp [hd]
    · simp [h, Array.getElem?_setIfInBounds_ne h]
theorem agree_put {e : Env} {a : Act} {dst : Option Nat} {x : Ent} {v : Value} (h : Agree e a) (hx : x.ok v) (hd : ∀ d, dst = some d → d < a.tmps.size) : Agree (putE e dst x) (a.put dst v) := by
  cases dst with
  | none => exact h
  | some d =>
    refine ⟨by simpa [Act.put] using h.1, fun i => ?_⟩
    show (Env.get ((d, x) :: e) i).ok _
    rw [Env.get_cons, put_getD a d v (hd d rfl) h.1]
    split
    · exact hx
    · exact h.2 i
theorem frz_put (a : Act) (dst : Option Nat) (v : Value) (hd : ∀ d, dst = some d → d < a.tmps.size) (hD : a.tmps.size ≤ DK) : Frz dst.toList a (a.put dst v) := by
  cases dst with
  | none => exact Frz.refl _ _
  | some d =>
    refine ⟨by simp [Act.put], fun s hs => ?_⟩
    rw [put_getD a d v (hd d rfl) hD]
    have : d ≠ s := fun e => hs (by simp [e])
    simp [this]
theorem get_killAll (ds : List Nat) (e : Env) (i : Nat) : Env.get (killAll ds e) i = if i ∈ ds then .unk else Env.get e i := by
  induction ds with
  | nil => simp [killAll]
  | cons d ds ih =>
    show Env.get ((d, .unk) :: killAll ds e) i = _
    rw [Env.get_cons, ih]
    by_cases h : d = i
    · simp [h]
    · have : ¬ i = d := fun e => h e.symm
      simp [h, this]
theorem agree_kill {e : Env} {a a' : Act} {ds : List Nat} (h : Agree e a) (hf : Frz ds a a') : Agree (killAll ds e) a' := by
  refine ⟨by rw [hf.1]; exact h.1, fun i => ?_⟩
  rw [get_killAll]
  split
  · trivial
  · rename_i hi; rw [hf.2 i hi]; exact h.2 i
theorem ent_ok {e : Env} {a : Act} (h : Agree e a) (x : Operand) : (entO e x).ok (a.eval x) := by
  cases x with
  | tmp t => exact tget_ok h t
  | const v => cases v <;> simp [entO, Ent.ok, Act.eval]
  | global g => simp [entO, Ent.ok, Act.eval]
  | func f => simp [entO, Ent.ok, Act.eval]
theorem sub_eval {e : Env} {a : Act} (h : Agree e a) (x : Operand) : a.eval (subO e x) = a.eval x := by
  cases x with
  | tmp t =>
    have := tget_ok h t
    simp only [subO]
    split <;> rename_i hx <;> simp only [hx, Ent.ok] at this
    · rfl
    · rfl
    · simp [Act.eval, this]
    · simp [Act.eval, this]
  | _ => rfl
theorem vget_some {e : Env} {a : Act} {s : Nat} {k : Value → Prop} (h : Agree e a) (hv : vget e s k) : k (slot a s) := by
  have := h.2 s
  unfold vget at hv
  split at hv <;> rename_i hx <;> simp only [hx, Ent.ok] at this
  · exact hv.elim
  · exact hv.elim
  · rw [this]; exact hv
  · rw [this]; exact hv
theorem tvget_some {e : Env} {a : Act} {s : Nat} {k : Value → Prop} (h : Agree e a) (hv : tvget e s k) : k (a.tmps.getD s undef) := by
  unfold tvget at hv
  rw [beq_DK] at hv
  by_cases hs : s = DK
  · simp [hs] at hv
  · simp only [hs, decide_false, cond_false] at hv
    have := vget_some h hv
    rwa [slot_tmp a hs] at this
theorem value?_ok {x : Ent} {u v : Value} (h : x.ok u) (hv : x.value? = some v) : u = v := by
  cases x <;> simp [Ent.value?] at hv <;> subst hv <;> exact h
theorem sem_assoc {α β γ : Type} (g : Sem α) (f : α → Sem β) (h : β → Sem γ) : (g.bind f).bind h = g.bind fun x => (f x).bind h := by
  induction g <;> simp only [Sem.bind]
  all_goals (first | (congr 1; funext x; rename_i ih; exact ih x) | (congr 1))
section
variable {P : Program}
theorem stepO_sound {o : Oper} {e : Env} {k : Env → World → Prop} {a : Act} {w : World} (h : Agree e a) (hd : ∀ d, o.dst = some d → d < a.tmps.size) (ht : stepO P o e k w) :
    (∀ c, o.op ≠ .defer c) ∧ Upon P w (fun v w' => ∃ e', Agree e' (a.put o.dst v) ∧ k e' w') ((execOp a.eval o).run P w) := by
  have gen : odd o.op = false → OpX P (mapO (subO e) o.op) o.type (fun v w => k (putE e o.dst (.val v)) w) w →
      (∀ c, o.op ≠ .defer c) ∧ Upon P w (fun v w' => ∃ e', Agree e' (a.put o.dst v) ∧ k e' w') ((execOp a.eval o).run P w) := by
    intro hodd hx
    refine ⟨fun c hc => by rw [hc] at hodd; simp [odd] at hodd, ?_⟩
    rw [execOp_map o (sub_eval h) hodd]
    have := OpX.out.1 hx a.eval (Act_good a)
    revert this
    generalize (execOp a.eval (mkOper (mapO (subO e) o.op) o.type)).run P w = r
    have up : ∀ (K K' : Value → World → Prop), (∀ v w, K v w → K' v w) → ∀ r, Upon P w K r → Upon P w K' r := by
      intro K K' hk r
      unfold Upon
      split
      · exact hk _ _
      · exact hk _ _
      · exact fun hc => hc.mono fun e w h => by cases e <;> first | exact hk _ _ h | exact h
      · rintro ⟨h⟩; exact ⟨fun c cs => let ⟨v, w', hK, hs⟩ := h c cs; ⟨v, w', hk _ _ hK, hs⟩⟩
      · exact fun hc => hc.mono fun v w h => hk _ _ h
      · rintro ⟨e, ⟨h⟩⟩; exact ⟨e, ⟨fun fr cs es he => let ⟨v, w', hK, hs⟩ := h fr cs es he; ⟨v, w', hk _ _ hK, hs⟩⟩⟩
      · exact id
    exact up _ _ (fun v w hk => ⟨_, agree_put h (by simp [Ent.ok]) hd, hk⟩) r
  have bin : ∀ (op : BinOp) (t : TypeId) (x y : Operand) (u : TypeId), o.op = .binOp op t x y u →
      BinX P op t (a.eval x) (a.eval y) (fun v w => k (putE e o.dst (.val v)) w) w →
      (∀ c, o.op ≠ .defer c) ∧ Upon P w (fun v w' => ∃ e', Agree e' (a.put o.dst v) ∧ k e' w') ((execOp a.eval o).run P w) := by
    intro op t x y u ho ⟨hx⟩
    refine ⟨fun c hc => by rw [ho] at hc; simp at hc, ?_⟩
    have he : execOp a.eval o = (do eqGuard op t x y (a.eval x) (a.eval y); return Next.value (← binOp op t (a.eval x) (a.eval y))) := by
      unfold execOp; rw [ho]
      simp only [bind, pure, sem_assoc]
    rw [he]
    have := hx x y
    revert this
    generalize Sem.run P _ w = r
    unfold Upon
    have ag : ∀ v, Agree (putE e o.dst (.val v)) (a.put o.dst v) := fun v => agree_put h (by simp [Ent.ok]) hd
    split
    · exact fun hk => ⟨_, ag _, hk⟩
    · exact fun hk => ⟨_, ag _, hk⟩
    · exact fun hc => hc.mono fun e w h => by cases e <;> first | exact ⟨_, ag _, h⟩ | exact h
    · rintro ⟨h⟩; exact ⟨fun c cs => let ⟨v, w', hK, hs⟩ := h c cs; ⟨v, w', ⟨_, ag _, hK⟩, hs⟩⟩
    · exact fun hc => hc.mono fun v w h => ⟨_, ag _, h⟩
    · rintro ⟨e, ⟨h⟩⟩; exact ⟨e, ⟨fun fr cs es he => let ⟨v, w', hK, hs⟩ := h fr cs es he; ⟨v, w', ⟨_, ag _, hK⟩, hs⟩⟩⟩
    · exact id
  unfold stepO at ht
  split at ht
  · rename_i x ho
    refine ⟨fun c hc => by rw [ho] at hc; simp at hc, ?_⟩
    unfold execOp; rw [ho]
    exact ⟨_, agree_put h (ent_ok h x) hd, ht⟩
  · rename_i x ho
    refine ⟨fun c hc => by rw [ho] at hc; simp at hc, ?_⟩
    unfold execOp; rw [ho]
    exact ⟨_, agree_put h (ent_ok h x) hd, ht⟩
  · rename_i c x y ho
    refine ⟨fun c hc => by rw [ho] at hc; simp at hc, ?_⟩
    have hc := ent_ok h c
    have key : ∀ b, a.eval c = .bool b → (b = true → k (putE e o.dst (entO e x)) w) → (b = false → k (putE e o.dst (entO e y)) w) →
        Upon P w (fun v w' => ∃ e', Agree e' (a.put o.dst v) ∧ k e' w') ((execOp a.eval o).run P w) := by
      intro b hb h1 h2
      unfold execOp; rw [ho]
      simp only [hb]
      cases b
      · exact ⟨_, agree_put h (ent_ok h y) hd, h2 rfl⟩
      · exact ⟨_, agree_put h (ent_ok h x) hd, h1 rfl⟩
    split at ht <;> rename_i hce <;> simp only [hce, Ent.ok] at hc
    · rename_i b
      refine key b hc ?_ ?_ <;> (rintro rfl; exact ht)
    · obtain ⟨b, hb, h1, h2⟩ := ht
      exact key b (hc.trans hb) h1 h2
    · exact ht.elim
  · rename_i op t x y u ho
    refine bin op t x y u ho ?_
    split at ht
    · rename_i va vb ha hb
      rw [value?_ok (ent_ok h x) ha, value?_ok (ent_ok h y) hb]
      exact ht
    · exact ht.elim
  · exact ht.elim
  · exact ht.elim
  · exact ht.elim
  · exact ht.elim
  · rename_i n1 n2 n3 n4 n5 n6 n7 n8
    refine gen ?_ ht
    unfold odd
    split
    · rename_i c hc; exact absurd hc (n5 c)
    · rename_i c hc; exact absurd hc (n6 c)
    · rename_i _ _ _ _ _ hc; exact absurd hc (n4 _ _ _ _ _)
    · rename_i _ _ hc; exact absurd hc (n7 _ _)
    · rename_i _ _ hc; exact absurd hc (n8 _ _)
    · rfl
theorem dstOf_eq (l : List Oper) (j : Nat) : dstOf l j = (l[j]?).bind (·.dst) := by
  induction l generalizing j with
  | nil => simp [dstOf]
  | cons o os ih => cases j <;> simp [dstOf, ih]
theorem okOps_dst {N : Nat} : ∀ {l : List Oper}, okOps N l = true → ∀ o ∈ l, ∀ d, o.dst = some d → d < N
  | [], _, o, ho, _, _ => by simp at ho
  | p :: l, h, o, ho, d, hd => by
    simp only [okOps, Bool.and_eq_true] at h
    rcases List.mem_cons.1 ho with rfl | ho
    · have := h.1; rw [hd] at this; simpa [Nat.blt_eq] using this
    · exact okOps_dst h.2 o ho d hd
theorem wanted_of {ops : Array Oper} {o : Oper} {a : Act} {j : Nat} {want b : Bool} {d : Nat} (hg : o.guard = some (j, want)) (hd : dstOf ops.toList j = some d)
    (hv : a.tmps.getD d undef = .bool b) : Region.wanted o (yielded ops a.tmps) = (b == want) := by
  have hd' : (ops[j]?).bind (·.dst) = some d := by rw [dstOf_eq] at hd; simpa using hd
  have ht : a.tmps[d]? = some (.bool b) := by
    rw [Array.getD_eq_getD_getElem?] at hv
    cases h : a.tmps[d]? with
    | none => rw [h] at hv; simp [undef] at hv
    | some x => rw [h] at hv; simpa using hv
  simp only [Region.wanted, hg, yielded, hd', Option.bind_some, ht]
  cases b <;> cases want <;> rfl
theorem wanted_und {ops : Array Oper} {o : Oper} {a : Act} {j : Nat} {want : Bool} {d : Nat} (hg : o.guard = some (j, want)) (hd : dstOf ops.toList j = some d)
    (hv : a.tmps.getD d undef = undef) : Region.wanted o (yielded ops a.tmps) = false := by
  have hd' : (ops[j]?).bind (·.dst) = some d := by rw [dstOf_eq] at hd; simpa using hd
  simp only [Region.wanted, hg, yielded, hd', Option.bind_some]
  rw [Array.getD_eq_getD_getElem?] at hv
  cases h : a.tmps[d]? with
  | none => rfl
  | some x => rw [h] at hv; simp only [Option.getD_some] at hv; subst hv; rfl
theorem guardO_sound {ops : Array Oper} {o : Oper} {e : Env} {k : Env → World → Prop} {a : Act} {w : World} {i : Nat} (ho : ops[i]? = some o) (h : Agree e a)
    (hd : ∀ d, o.dst = some d → d < a.tmps.size) (ht : guardO P ops.toList o e k w) (b : Frame) (rest : List Nat) (ks : List Item) (cs : List Frame) :
    ∃ v w', (∃ e', Agree e' (a.put o.dst v) ∧ k e' w') ∧ Steps P (lone (At b a (.inRegion ops (i :: rest) :: ks)) cs w) (lone (At b (a.put o.dst v) (.inRegion ops rest :: ks)) cs w') := by
  have run : ∀ e, Agree e a → Region.wanted o (yielded ops a.tmps) = true → stepO P o e k w →
      ∃ v w', (∃ e', Agree e' (a.put o.dst v) ∧ k e' w') ∧ Steps P (lone (At b a (.inRegion ops (i :: rest) :: ks)) cs w) (lone (At b (a.put o.dst v) (.inRegion ops rest :: ks)) cs w') := by
    intro e he hw hs
    obtain ⟨hdef, hu⟩ := stepO_sound he hd hs
    exact op_steps ho hw hdef hu
  have pass : ∀ e, Agree e a → Region.wanted o (yielded ops a.tmps) = false → k (putE e o.dst .und) w →
      ∃ v w', (∃ e', Agree e' (a.put o.dst v) ∧ k e' w') ∧ Steps P (lone (At b a (.inRegion ops (i :: rest) :: ks)) cs w) (lone (At b (a.put o.dst v) (.inRegion ops rest :: ks)) cs w') := by
    intro e he hw hk
    refine ⟨undef, w, ⟨_, agree_put he (x := .und) rfl hd, hk⟩, .one ?_⟩
    have := st_opSkip (P := P) (b := b) (a := a) (k := ks) (cs := cs) (w := w) (ops := ops) (i := i) (rest := rest) (by simp [ho, hw])
    simpa only [ho, Option.bind_some] using this
  unfold guardO at ht
  split at ht
  · rename_i hg
    exact run e h (by simp [Region.wanted, hg]) ht
  · rename_i j want hg
    split at ht
    · exact ht.elim
    · rename_i d hdj
      have hv := tget_ok h d
      split at ht <;> rename_i hx <;> simp only [hx, Ent.ok] at hv
      · exact ht.elim
      · rename_i b
        have hw := wanted_of hg hdj hv
        cases b <;> cases want <;> simp at ht hw
        · exact run e h hw ht
        · exact pass e h hw ht
        · exact pass e h hw ht
        · exact run e h hw ht
      · exact pass e h (wanted_und hg hdj hv) ht
      · obtain ⟨b, hb, h1, h2⟩ := ht
        have hv' := hv.trans hb
        have hw := wanted_of hg hdj hv'
        cases b <;> cases want <;> simp at h1 h2 hw
        · exact run _ (agree_refineT h (by rw [hx]; simp) (x := .lit false) hv') hw h2
        · exact pass _ (agree_refineT h (by rw [hx]; simp) (x := .lit false) hv') hw h2
        · exact pass _ (agree_refineT h (by rw [hx]; simp) (x := .lit true) hv') hw h1
        · exact run _ (agree_refineT h (by rw [hx]; simp) (x := .lit true) hv') hw h1
theorem trOps_sound {ops : Array Oper} {K : Env → World → Prop} : ∀ (l : List Oper) (i : Nat) (e : Env) (a : Act) (w : World), ops.toList.drop i = l → okOps a.tmps.size l = true → Agree e a →
    trOps P ops.toList l e K w → ∀ (b : Frame) (k : List Item) (cs : List Frame), ∃ a' w', (Frz (dsts l) a a' ∧ ∃ e', Agree e' a' ∧ K e' w') ∧
      Steps P (lone (At b a (.inRegion ops (List.range' i l.length) :: k)) cs w) (lone (At b a' (.inRegion ops [] :: k)) cs w')
  | [], _, e, a, w, _, _, he, h, _, _, _ => ⟨a, w, ⟨Frz.refl _ _, e, he, h⟩, .refl _ _⟩
  | o :: l, i, e, a, w, hl, hN, he, h, b, k, cs => by
    have ho : ops[i]? = some o := by
      have : (ops.toList.drop i)[0]? = some o := by rw [hl]; rfl
      simpa using this
    have hl' : ops.toList.drop (i + 1) = l := by
      have : (ops.toList.drop i).drop 1 = l := by rw [hl]; rfl
      simpa [List.drop_drop] using this
    have hd : ∀ d, o.dst = some d → d < a.tmps.size := okOps_dst hN o (by simp)
    have hN' : okOps a.tmps.size l = true := by simp only [okOps, Bool.and_eq_true] at hN; exact hN.2
    obtain ⟨v, w₁, ⟨e₁, he₁, h₁⟩, hs⟩ := guardO_sound ho he hd h b (List.range' (i + 1) l.length) k cs
    have hf := frz_put a o.dst v hd he.1
    obtain ⟨a', w', ⟨hf', e', he', hK⟩, hs'⟩ := trOps_sound l (i + 1) e₁ (a.put o.dst v) w₁ hl' (by rw [hf.1]; exact hN') he₁ h₁ b k cs
    refine ⟨a', w', ⟨(hf.trans hf').mono ?_, e', he', hK⟩, ?_⟩
    · intro s hs
      unfold dsts
      cases hd : o.dst <;> simp [hd] at hs ⊢ <;> exact hs
    · simp only [List.length_cons, List.range'_succ]
      exact hs.trans hs'
theorem region_sound {ro : Option Nat} {ops : Array Oper} {id : Nat} {K : Env → World → Prop} {e : Env} {a : Act} {w : World} (hN : okOps a.tmps.size ops.toList = true) (he : Agree e a)
    (h : trOps P ops.toList ops.toList e K w) : WP P ro (.region id ops false) (fun ex a' w' => ex = .normal ∧ Frz (dsts ops.toList) a a' ∧ ∃ e', Agree e' a' ∧ K e' w') a w := by
  intro b k cs _
  obtain ⟨a', w', hp, hs⟩ := trOps_sound ops.toList 0 e a w rfl hN he h b k cs
  refine ⟨.normal, a', w', ⟨rfl, hp⟩, .head st_region ?_⟩
  have : List.range ops.size = List.range' 0 ops.toList.length := by simp [List.range_eq_range']
  rw [this]
  exact hs.trans (.one st_regionEnd)
end
end Lyc
namespace Lyc
open Go
theorem nthO_eq (l : List Oper) (i : Nat) : nthO l i = l[i]? := by
  induction l generalizing i with
  | nil => simp [nthO]
  | cons o os ih => cases i <;> simp [nthO, ih]
inductive TW (ops : Array Oper) : Nat → Nat → Prop
  | one {j i : Nat} {o : Oper} {e : Edge} (ho : ops[j]? = some o) (he : e ∈ o.after) (hb : Region.binds .any e = true) (hi : e.on = i) : TW ops j i
  | more {j i : Nat} {o : Oper} {e : Edge} (ho : ops[j]? = some o) (he : e ∈ o.after) (hb : Region.binds .any e = true) (h : TW ops e.on i) : TW ops j i
def Closed (ops : Array Oper) (m : Nat) : Prop := ∀ (j : Nat) (o : Oper), m.testBit j = true → ops[j]? = some o → ∀ e ∈ o.after, Region.binds .any e = true → m.testBit e.on = true
def Rdy (ops : Array Oper) (m j : Nat) : Prop := m.testBit j = false ∧ ∃ o, ops[j]? = some o ∧ ∀ e ∈ o.after, Region.binds .any e = true → m.testBit e.on = true
theorem bit_or (m i j : Nat) : (m ||| 2 ^ i).testBit j = (m.testBit j || decide (i = j)) := by
  rw [Nat.testBit_or, Nat.testBit_two_pow]
theorem tw_done {ops : Array Oper} {m j i : Nat} (hc : Closed ops m) (h : TW ops j i) (hj : ∀ o, ops[j]? = some o → ∀ e ∈ o.after, Region.binds .any e = true → m.testBit e.on = true) : m.testBit i = true := by
  induction h with
  | one ho he hb hi => subst hi; exact hj _ ho _ he hb
  | more ho he hb _ ih => exact ih fun o' ho' e' he' hb' => hc _ o' (hj _ ho _ he hb) ho' e' he' hb'
theorem closed_or {ops : Array Oper} {m j : Nat} (hc : Closed ops m) (hr : Rdy ops m j) : Closed ops (m ||| 2 ^ j) := by
  intro k o hk ho e he hb
  rw [bit_or] at *
  obtain ⟨_, o', ho', hall⟩ := hr
  by_cases hjk : j = k
  · subst hjk
    rw [ho] at ho'; cases ho'
    simp [hall e he hb]
  · simp [hjk] at hk
    simp [hc k o hk ho e he hb]
theorem rdy_mono {ops : Array Oper} {m i j : Nat} (hj : Rdy ops m j) (hne : j ≠ i) : Rdy ops (m ||| 2 ^ i) j := by
  obtain ⟨h0, o, ho, hall⟩ := hj
  refine ⟨by rw [bit_or, h0]; simp; exact fun h => hne h.symm, o, ho, fun e he hb => by rw [bit_or, hall e he hb]; rfl⟩
theorem or_swap (m i j : Nat) : m ||| 2 ^ i ||| 2 ^ j = m ||| 2 ^ j ||| 2 ^ i := by
  apply Nat.eq_of_testBit_eq; intro k; simp only [Nat.testBit_or]; cases m.testBit k <;> cases (2 ^ i).testBit k <;> cases (2 ^ j).testBit k <;> rfl
section
variable {P : Program}
theorem upon_mono {w0 : World} {K K' : Value → World → Prop} (hk : ∀ v w, K v w → K' v w) (r : Result Next) (h : Upon P w0 K r) : Upon P w0 K' r := by
  revert h
  unfold Upon
  split
  · exact hk _ _
  · exact hk _ _
  · exact fun hc => hc.mono fun e w h => by cases e <;> first | exact hk _ _ h | exact h
  · rintro ⟨h⟩; exact ⟨fun c cs => let ⟨v, w', hK, hs⟩ := h c cs; ⟨v, w', hk _ _ hK, hs⟩⟩
  · exact fun hc => hc.mono fun v w h => hk _ _ h
  · rintro ⟨e, ⟨h⟩⟩; exact ⟨e, ⟨fun fr cs es he => let ⟨v, w', hK, hs⟩ := h fr cs es he; ⟨v, w', hk _ _ hK, hs⟩⟩⟩
  · exact id
def opK (P : Program) (ops : Array Oper) (j : Nat) (K : Act → World → Prop) (a : Act) (w : World) : Prop :=
  ∃ o, ops[j]? = some o ∧ ((Region.wanted o (yielded ops a.tmps) = true ∧ (∀ c, o.op ≠ .defer c) ∧ Upon P w (fun v w' => K (a.put o.dst v) w') ((execOp a.eval o).run P w)) ∨
    (Region.wanted o (yielded ops a.tmps) = false ∧ K (a.put o.dst undef) w))
theorem opK_mono {ops : Array Oper} {j : Nat} {K K' : Act → World → Prop} {a : Act} {w : World} (hk : ∀ a w, K a w → K' a w) (h : opK P ops j K a w) : opK P ops j K' a w := by
  obtain ⟨o, ho, h⟩ := h
  refine ⟨o, ho, ?_⟩
  rcases h with ⟨hw, hd, h⟩ | ⟨hw, h⟩
  · exact .inl ⟨hw, hd, upon_mono (fun v w h => hk _ _ h) _ h⟩
  · exact .inr ⟨hw, hk _ _ h⟩
def anyX (P : Program) (ops : Array Oper) (ms : List Nat) (K : Act → World → Prop) : Nat → Nat → Held → Act → World → Prop
  | 0, m, _, a, w => (∀ j, ¬ Rdy ops m j) ∧ K a w
  | n + 1, m, held, a, w => ((∀ j, ¬ Rdy ops m j) → K a w) ∧
      ∀ j, Rdy ops m j → opK P ops j (fun a' w' => (∀ p ∈ keepH ms j held, p.2 w') ∧ anyX P ops ms K n (m ||| 2 ^ j) (keepH ms j held) a' w') a w
theorem mem_keepH {ms : List Nat} {j : Nat} {held : Held} {p : Nat × (World → Prop)} : p ∈ keepH ms j held ↔ p ∈ held ∧ twB ms j p.1 = false := by
  induction held with
  | nil => simp [keepH]
  | cons q l ih =>
    unfold keepH
    cases h : twB ms j q.1
    · simp only [cond_false, List.mem_cons, ih]
      constructor
      · rintro (rfl | ⟨h1, h2⟩)
        · exact ⟨.inl rfl, h⟩
        · exact ⟨.inr h1, h2⟩
      · rintro ⟨rfl | h1, h2⟩
        · exact .inl rfl
        · exact .inr ⟨h1, h2⟩
    · simp only [cond_true, ih, List.mem_cons]
      constructor
      · rintro ⟨h1, h2⟩; exact ⟨.inr h1, h2⟩
      · rintro ⟨rfl | h1, h2⟩
        · rw [h] at h2; cases h2
        · exact ⟨h1, h2⟩
theorem anyX_mono {ops : Array Oper} {ms : List Nat} {K : Act → World → Prop} : ∀ (n m : Nat) (held held' : Held) (a : Act) (w : World), (∀ p ∈ held', p ∈ held) →
    anyX P ops ms K n m held a w → anyX P ops ms K n m held' a w
  | 0, _, _, _, _, _, _, h => h
  | n + 1, m, held, held', a, w, hs, h => ⟨h.1, fun j hj => opK_mono (fun a' w' ⟨h1, h2⟩ =>
      have hs' : ∀ p ∈ keepH ms j held', p ∈ keepH ms j held := fun p hp => by rw [mem_keepH] at *; exact ⟨hs p hp.1, hp.2⟩
      ⟨fun p hp => h1 p (hs' p hp), anyX_mono n _ _ _ a' w' hs' h2⟩) (h.2 j hj)⟩
theorem anyX_true {ops : Array Oper} {ms : List Nat} {K : Act → World → Prop} {i : Nat} : ∀ (n m : Nat) (held : Held) (a : Act) (w : World),
    anyX P ops ms K n m held a w → anyX P ops ms K n m ((i, fun _ => True) :: held) a w
  | 0, _, _, _, _, h => h
  | n + 1, m, held, a, w, h => ⟨h.1, fun j hj => opK_mono (fun a' w' ⟨h1, h2⟩ => by
      refine ⟨fun p hp => ?_, ?_⟩
      · rw [mem_keepH, List.mem_cons] at hp
        rcases hp with ⟨rfl | hp, ht⟩
        · trivial
        · exact h1 p (mem_keepH.2 ⟨hp, ht⟩)
      · unfold keepH
        cases twB ms j i
        · exact anyX_true n _ _ a' w' h2
        · exact h2) (h.2 j hj)⟩
def YS (P : Program) (ops : Array Oper) (S : World → Prop) (o : Oper) (v : Value) (a : Act) : Prop :=
  (Region.wanted o (yielded ops a.tmps) = true ∧ (∀ c, o.op ≠ .defer c) ∧ ∀ w, S w → (execOp a.eval o).run P w = .ok (.value v) w) ∨
  (Region.wanted o (yielded ops a.tmps) = false ∧ v = undef)
theorem YS.op {ops : Array Oper} {S : World → Prop} {o : Oper} {v : Value} {a : Act} {w : World} {i : Nat} {K : Act → World → Prop} (hi : ops[i]? = some o) (h : YS P ops S o v a) (hS : S w)
    (hk : K (a.put o.dst v) w) : opK P ops i K a w := by
  refine ⟨o, hi, ?_⟩
  rcases h with ⟨hw, hd, h⟩ | ⟨hw, rfl⟩
  · exact .inl ⟨hw, hd, by rw [h w hS]; exact hk⟩
  · exact .inr ⟨hw, hk⟩
theorem YS.put {ops : Array Oper} {S : World → Prop} {o : Oper} {v u : Value} {a : Act} {dst : Option Nat} (h : YS P ops S o v a) (hs : ∀ cs b, o.op ≠ .select cs b) (hd : ∀ d, dst = some d → d ∉ o.looksAt ops) :
    YS P ops S o v (a.put dst u) := by
  unfold YS at *
  rw [execOp_put o hs a dst u hd, wanted_put o a dst u hd]
  exact h
theorem opK_put {ops : Array Oper} {S : World → Prop} {i j : Nat} {oi oj : Oper} {v : Value} {K : Act → World → Prop} {a : Act} {w : World} (hj : ops[j]? = some oj) (hap : oi.apart ops oj = true)
    (hsi : ∀ cs b, oi.op ≠ .select cs b) (hsj : ∀ cs b, oj.op ≠ .select cs b) (hy : YS P ops S oi v a) (h : opK P ops j K (a.put oi.dst v) w) :
    opK P ops j (fun a' w' => YS P ops S oi v a' ∧ K (a'.put oi.dst v) w') a w := by
  obtain ⟨h1, h2, h3⟩ := Oper.apart_spec hap
  obtain ⟨o, ho, h⟩ := h
  rw [hj] at ho; cases ho
  rw [wanted_put oj a oi.dst v h1, execOp_put oj hsj a oi.dst v h1] at h
  refine ⟨oj, hj, ?_⟩
  rcases h with ⟨hw, hd, h⟩ | ⟨hw, h⟩
  · exact .inl ⟨hw, hd, upon_mono (fun u w' hk => ⟨hy.put hsi h3, by rw [← Act.put_comm a v u h2]; exact hk⟩) _ h⟩
  · exact .inr ⟨hw, hy.put hsi h3, by rw [← Act.put_comm a v undef h2]; exact h⟩
theorem anyX_first {ops : Array Oper} {ms : List Nat} {K : Act → World → Prop} {S : World → Prop} {i : Nat} {oi : Oper} {v : Value} (hi : ops[i]? = some oi)
    (hms : ∀ j i, twB ms j i = true → TW ops j i)
    (hap : ∀ j oj, ops[j]? = some oj → j ≠ i → waitsOn oj i = false → twB ms i j = false → oi.apart ops oj = true)
    (hsel : ∀ (j : Nat) (o : Oper) cs b, ops[j]? = some o → o.op ≠ .select cs b) :
    ∀ (n m : Nat) (held : Held) (a : Act) (w : World), Closed ops m → Rdy ops m i → YS P ops S oi v a → S w → (∀ p ∈ held, p.2 w) →
      anyX P ops ms K n (m ||| 2 ^ i) ((i, S) :: held) (a.put oi.dst v) w → anyX P ops ms K (n + 1) m held a w := by
  intro n
  induction n with
  | zero =>
    intro m held a w hc hr hy hS hh H
    refine ⟨fun h => absurd hr (h i), fun j hj => ?_⟩
    by_cases hji : j = i
    · subst hji
      exact hy.op hi hS ⟨fun p hp => hh p (mem_keepH.1 hp).1, H⟩
    · exact absurd (rdy_mono hj hji) (H.1 j)
  | succ n ih =>
    intro m held a w hc hr hy hS hh H
    refine ⟨fun h => absurd hr (h i), fun j hj => ?_⟩
    by_cases hji : j = i
    · subst hji
      exact hy.op hi hS ⟨fun p hp => hh p (mem_keepH.1 hp).1, anyX_mono _ _ _ _ _ _ (fun p hp => List.mem_cons_of_mem _ (mem_keepH.1 hp).1) H⟩
    · have h1 := H.2 j (rdy_mono hj hji)
      obtain ⟨hjun, oj, hoj, hall⟩ := hj
      have hnw : waitsOn oj i = false := by
        cases hwt : waitsOn oj i with
        | false => rfl
        | true =>
          unfold waitsOn at hwt
          obtain ⟨e, he, hb⟩ := List.any_eq_true.1 hwt
          simp only [Bool.and_eq_true] at hb
          have := hall e (by simpa using he) hb.1
          rw [Nat.eq_of_beq_eq_true hb.2, hr.1] at this
          cases this
      have hnt : twB ms j i = false := by
        cases ht : twB ms j i with
        | false => rfl
        | true =>
          have := tw_done hc (hms j i ht) (fun o ho => by rw [hoj] at ho; cases ho; exact hall)
          rw [hr.1] at this; cases this
      have hnt' : twB ms i j = false := by
        cases ht : twB ms i j with
        | false => rfl
        | true =>
          obtain ⟨_, o, ho, hal⟩ := hr
          have := tw_done hc (hms i j ht) (fun o' ho' => by rw [ho] at ho'; cases ho'; exact hal)
          rw [hjun] at this; cases this
      have hk : keepH ms j ((i, S) :: held) = (i, S) :: keepH ms j held := by
        conv => lhs; unfold keepH
        simp [hnt]
      rw [hk] at h1
      refine opK_mono ?_ (opK_put (i := i) hoj (hap j oj hoj hji hnw hnt') (fun cs b => hsel i oi cs b hi) (fun cs b => hsel j oj cs b hoj) hy h1)
      rintro a' w' ⟨hy', hhs, hX⟩
      refine ⟨fun p hp => hhs p (List.mem_cons_of_mem _ hp), ?_⟩
      refine ih (m ||| 2 ^ j) (keepH ms j held) a' w' (closed_or hc ⟨hjun, oj, hoj, hall⟩) (rdy_mono hr (Ne.symm hji)) hy' (hhs (i, S) (List.mem_cons_self ..)) (fun p hp => hhs p (List.mem_cons_of_mem _ hp)) ?_
      rw [or_swap]; exact hX
def RelM (ops : Array Oper) (listed : Array Bool) (m : Nat) : Prop := listed.size = ops.size ∧ (∀ i, i < ops.size → listed.getD i false = m.testBit i) ∧ ∀ i, ops.size ≤ i → m.testBit i = false
theorem rel_ready {ops : Array Oper} {listed : Array Bool} {m : Nat} (h : RelM ops listed m) (j : Nat) : j ∈ Region.ready .any ops listed ↔ Rdy ops m j := by
  have hb : ∀ i, listed.getD i false = m.testBit i := fun i => by
    rcases Nat.lt_or_ge i ops.size with hi | hi
    · exact h.2.1 i hi
    · rw [h.2.2 i hi, Array.getD_eq_getD_getElem?, Array.getElem?_eq_none (by rw [h.1]; exact hi)]; rfl
  rw [mem_ready]
  constructor
  · rintro ⟨h0, o, ho, hall⟩
    have hj : j < ops.size := (Array.getElem?_eq_some_iff.1 ho).1
    refine ⟨?_, o, ho, fun e he hbd => by rw [← hb]; exact hall e he hbd⟩
    rw [← hb]
    have hj' : j < listed.size := by rw [h.1]; exact hj
    simpa [Array.getD_eq_getD_getElem?, hj'] using h0
  · rintro ⟨h0, o, ho, hall⟩
    have hj : j < ops.size := (Array.getElem?_eq_some_iff.1 ho).1
    refine ⟨?_, o, ho, fun e he hbd => by rw [hb]; exact hall e he hbd⟩
    rw [← hb] at h0
    have hj' : j < listed.size := by rw [h.1]; exact hj
    simpa [Array.getD_eq_getD_getElem?, hj'] using h0
theorem rel_set {ops : Array Oper} {listed : Array Bool} {m j : Nat} (h : RelM ops listed m) (hj : j < ops.size) : RelM ops (listed.setIfInBounds j true) (m ||| 2 ^ j) := by
  refine ⟨by simpa using h.1, fun i hi => ?_, fun i hi => ?_⟩
  · rw [bit_or, ← h.2.1 i hi]
    by_cases hij : j = i
    · subst hij
      simp [Array.getD_eq_getD_getElem?, h.1, hj]
    · simp [Array.getD_eq_getD_getElem?, Array.getElem?_setIfInBounds_ne hij, hij]
  · rw [bit_or, h.2.2 i hi]
    have : j ≠ i := by omega
    simp [this]
theorem opK_steps {ops : Array Oper} {j : Nat} {K : Act → World → Prop} {a : Act} {w : World} (h : opK P ops j K a w) (b : Frame) (rest : List Nat) (k : List Item) (cs : List Frame) :
    ∃ a' w', K a' w' ∧ Steps P (lone (At b a (.inRegion ops (j :: rest) :: k)) cs w) (lone (At b a' (.inRegion ops rest :: k)) cs w') := by
  obtain ⟨o, ho, h⟩ := h
  rcases h with ⟨hw, hd, h⟩ | ⟨hw, h⟩
  · obtain ⟨v, w', hk, hs⟩ := op_steps (b := b) (k := k) (cs := cs) (rest := rest) ho hw hd h
    exact ⟨_, _, hk, hs⟩
  · refine ⟨_, _, h, .one ?_⟩
    have := st_opSkip (P := P) (b := b) (a := a) (k := k) (cs := cs) (w := w) (ops := ops) (i := j) (rest := rest) (by simp [ho, hw])
    simpa only [ho, Option.bind_some] using this
theorem anyX_run {ops : Array Oper} {ms : List Nat} {K : Act → World → Prop} : ∀ (n t : Nat) (listed : Array Bool) (m : Nat) (held : Held) (a : Act) (w : World), RelM ops listed m → anyX P ops ms K n m held a w →
    ∀ (b : Frame) (k : List Item) (cs : List Frame), ∃ a' w', K a' w' ∧
      Steps P (lone (At b a (.inRegion ops (Region.linearise.go .any ops n t listed []) :: k)) cs w) (lone (At b a' (.inRegion ops [] :: k)) cs w') := by
  intro n
  induction n with
  | zero =>
    intro t listed m held a w _ h b k cs
    exact ⟨a, w, h.2, by simp only [Region.linearise.go, List.reverse_nil]; exact .refl _ _⟩
  | succ n ih =>
    intro t listed m held a w hrel h b k cs
    simp only [Region.linearise.go]
    change ∃ a' w', K a' w' ∧ Steps P (lone (At b a (.inRegion ops (match (Region.ready .any ops listed)[t % (Region.ready .any ops listed).length]? with
      | some i => Region.linearise.go .any ops n (t / (Region.ready .any ops listed).length) (listed.setIfInBounds i true) [i]
      | none => [].reverse) :: k)) cs w) _
    cases hi : (Region.ready .any ops listed)[t % (Region.ready .any ops listed).length]? with
    | none =>
      have hnil : Region.ready .any ops listed = [] := by
        cases hr : Region.ready .any ops listed with
        | nil => rfl
        | cons x xs =>
          rw [hr] at hi
          have hlt : t % (x :: xs).length < (x :: xs).length := Nat.mod_lt _ (by simp)
          simp at hi
          simp at hlt
          omega
      refine ⟨a, w, h.1 fun j hj => ?_, by simp only [List.reverse_nil]; exact .refl _ _⟩
      have := (rel_ready hrel j).2 hj
      rw [hnil] at this; cases this
    | some i =>
      have hri := (rel_ready hrel i).1 (List.mem_of_getElem? hi)
      simp only []
      rw [linearise_go_acc, List.reverse_singleton, List.singleton_append]
      obtain ⟨a₁, w₁, ⟨_, hX⟩, hs⟩ := opK_steps (h.2 i hri) b (Region.linearise.go .any ops n (t / (Region.ready .any ops listed).length) (listed.setIfInBounds i true) []) k cs
      obtain ⟨_, o, ho, _⟩ := hri
      obtain ⟨a', w', hk, hs'⟩ := ih (t / (Region.ready .any ops listed).length) (listed.setIfInBounds i true) (m ||| 2 ^ i) _ a₁ w₁ (rel_set hrel (Array.getElem?_eq_some_iff.1 ho).1) hX b k cs
      exact ⟨a', w', hk, hs.trans hs'⟩
theorem masks_tw {ops : Array Oper} : ∀ (l : List Oper) (acc : List Nat), ops.toList = (ops.toList.take acc.length) ++ l → acc.length ≤ ops.toList.length →
    (∀ j i, twB acc j i = true → TW ops j i) → ∀ j i, twB (masks l acc) j i = true → TW ops j i
  | [], acc, _, _, h => h
  | o :: l, acc, hl, hlen, h => by
    have ho : ops[acc.length]? = some o := by
      have h1 : ops.toList[acc.length]? = some o := by
        rw [hl, List.getElem?_append_right (by simp; omega)]
        have : (List.take acc.length ops.toList).length = acc.length := by simp at hlen ⊢; omega
        rw [this]; simp
      simpa using h1
    have hlt : acc.length < ops.toList.length := by have := (Array.getElem?_eq_some_iff.1 ho).1; simpa using this
    unfold masks
    refine masks_tw l _ ?_ (by simp at hlt ⊢; omega) ?_
    · rw [List.length_append, List.length_singleton, List.take_add_one]
      have h1 : ops.toList[acc.length]? = some o := by simpa using ho
      rw [h1]
      simp only [Option.toList_some, List.append_assoc, List.singleton_append]
      exact hl
    · intro j i ht
      unfold twB at ht
      rcases Nat.lt_trichotomy j acc.length with hj | hj | hj
      · refine h j i ?_
        unfold twB
        rw [List.getD_eq_getElem?_getD, List.getElem?_append_left hj, ← List.getD_eq_getElem?_getD] at ht
        exact ht
      · subst hj
        have hval : (acc ++ [maskE acc o.after.toList 0]).getD acc.length 0 = maskE acc o.after.toList 0 := by simp [List.getD_eq_getElem?_getD]
        rw [hval] at ht
        have key : ∀ (es : List Edge) (s : Nat), (∀ e ∈ es, e ∈ o.after) → (s.testBit i = true → TW ops acc.length i) → (maskE acc es s).testBit i = true → TW ops acc.length i := by
          intro es
          induction es with
          | nil => intro s _ hs ht; exact hs ht
          | cons e es ih =>
            intro s hm hs ht
            unfold maskE at ht
            refine ih _ (fun e he => hm e (List.mem_cons_of_mem _ he)) ?_ ht
            intro hb
            cases hbd : Region.binds .any e with
            | false => rw [hbd] at hb; exact hs hb
            | true =>
              rw [hbd, cond_true, Nat.testBit_or, Nat.testBit_or, Nat.testBit_two_pow] at hb
              simp only [Bool.or_eq_true, decide_eq_true_eq] at hb
              rcases hb with (hb | hb) | hb
              · exact hs hb
              · exact .one ho (hm e (by simp)) hbd hb
              · exact .more ho (hm e (by simp)) hbd (h e.on i hb)
        exact key _ 0 (fun e he => by simpa using he) (by simp) ht
      · rw [List.getD_eq_getElem?_getD, List.getElem?_eq_none (by simp; omega)] at ht
        simp at ht
end
end Lyc
namespace Lyc
open Go
section
variable {P : Program}
def unS (S : Option (World → Prop)) : World → Prop := S.getD fun _ => True
theorem stepQ_sound {o : Oper} {e : Env} {k : Env → Option (World → Prop) → Prop} {a : Act} {w : World} (h : Agree e a) (hd : ∀ d, o.dst = some d → d < a.tmps.size) (ht : stepQ P o e k w) :
    ∃ (v : Value) (e' : Env) (S : Option (World → Prop)), Agree e' (a.put o.dst v) ∧ k e' S ∧ (∀ c, o.op ≠ .defer c) ∧ unS S w ∧ ∀ w', unS S w' → (execOp a.eval o).run P w' = .ok (.value v) w' := by
  have bin : ∀ (op : BinOp) (t : TypeId) (x y : Operand) (u : TypeId), o.op = .binOp op t x y u → execOp a.eval o = binS op t (a.eval x) (a.eval y) x y := by
    intro op t x y u ho
    unfold execOp binS; rw [ho]
    simp only [bind, pure, sem_assoc]
  unfold stepQ at ht
  split at ht
  · rename_i x ho
    refine ⟨a.eval x, _, none, agree_put h (ent_ok h x) hd, ht, fun c hc => by rw [ho] at hc; simp at hc, trivial, fun w' _ => ?_⟩
    unfold execOp; rw [ho]; rfl
  · rename_i x ho
    refine ⟨a.eval x, _, none, agree_put h (ent_ok h x) hd, ht, fun c hc => by rw [ho] at hc; simp at hc, trivial, fun w' _ => ?_⟩
    unfold execOp; rw [ho]; rfl
  · rename_i c x y ho
    have hc := ent_ok h c
    have key : ∀ b, a.eval c = .bool b → (b = true → k (putE e o.dst (entO e x)) none) → (b = false → k (putE e o.dst (entO e y)) none) →
        ∃ (v : Value) (e' : Env) (S : Option (World → Prop)), Agree e' (a.put o.dst v) ∧ k e' S ∧ (∀ c, o.op ≠ .defer c) ∧ unS S w ∧ ∀ w', unS S w' → (execOp a.eval o).run P w' = .ok (.value v) w' := by
      intro b hb h1 h2
      cases b
      · refine ⟨a.eval y, _, none, agree_put h (ent_ok h y) hd, h2 rfl, fun c hc => by rw [ho] at hc; simp at hc, trivial, fun w' _ => ?_⟩
        unfold execOp; rw [ho]; simp only [hb]; rfl
      · refine ⟨a.eval x, _, none, agree_put h (ent_ok h x) hd, h1 rfl, fun c hc => by rw [ho] at hc; simp at hc, trivial, fun w' _ => ?_⟩
        unfold execOp; rw [ho]; simp only [hb]; rfl
    split at ht <;> rename_i hce <;> simp only [hce, Ent.ok] at hc
    · refine key _ hc ?_ ?_ <;> (rintro rfl; exact ht)
    · obtain ⟨b, hb, h1, h2⟩ := ht
      exact key b (hc.trans hb) h1 h2
    · exact ht.elim
  · rename_i op t x y u ho
    have hnd : ∀ c, o.op ≠ .defer c := fun c hc => by rw [ho] at hc; simp at hc
    split at ht
    · rename_i va vb ha hb
      have hx := value?_ok (ent_ok h x) ha
      have hy := value?_ok (ent_ok h y) hb
      cases hq : Nat.beq (quietK o.op) 2 <;> rw [hq] at ht
      · obtain ⟨v, ⟨hv⟩, hk⟩ := ht
        refine ⟨v, _, some (YldB P op t va vb v), agree_put h (by simp [Ent.ok]) hd, hk, hnd, ⟨hv⟩, fun w' ⟨hw⟩ => ?_⟩
        rw [bin op t x y u ho, hx, hy]; exact hw x y
      · obtain ⟨v, hv, hk⟩ := ht
        refine ⟨v, _, none, agree_put h (by simp [Ent.ok]) hd, hk, hnd, trivial, fun w' _ => ?_⟩
        rw [bin op t x y u ho, hx, hy]; exact hv x y w'
    · exact ht.elim
  · rename_i n1 n2 n3 n4
    have gen : quietK o.op = 2 ∨ quietK o.op = 3 → odd o.op = false ∧ ∀ c, o.op ≠ .defer c := by
      intro hq
      refine ⟨?_, fun c hc => by rw [hc] at hq; simp [quietK] at hq⟩
      unfold odd
      split
      · rename_i c hc; rw [hc] at hq; simp [quietK] at hq
      · rename_i c hc; rw [hc] at hq; simp [quietK] at hq
      · rename_i _ _ _ _ _ hc; exact absurd hc (n4 _ _ _ _ _)
      · rename_i _ _ hc; rw [hc] at hq; simp [quietK] at hq
      · rename_i _ _ hc; rw [hc] at hq; simp [quietK] at hq
      · rfl
    split at ht
    · rename_i hq
      obtain ⟨ho, hnd⟩ := gen (.inl hq)
      obtain ⟨v, hv, hk⟩ := ht
      refine ⟨v, _, none, agree_put h (by simp [Ent.ok]) hd, hk, hnd, trivial, fun w' _ => ?_⟩
      rw [execOp_map o (sub_eval h) ho]
      exact hv _ (Act_good a) w'
    · rename_i hq
      obtain ⟨ho, hnd⟩ := gen (.inr hq)
      obtain ⟨v, ⟨hv⟩, hk⟩ := ht
      refine ⟨v, _, some (Yld P (mapO (subO e) o.op) o.type v), agree_put h (by simp [Ent.ok]) hd, hk, hnd, ⟨hv⟩, fun w' ⟨hw⟩ => ?_⟩
      rw [execOp_map o (sub_eval h) ho]
      exact hw _ (Act_good a)
    · exact ht.elim
theorem guardQ_sound {ops : Array Oper} {o : Oper} {e : Env} {run skip : Env → Prop} {a : Act} (h : Agree e a) (ht : guardQ ops.toList o e run skip) :
    (∃ e', Agree e' a ∧ Region.wanted o (yielded ops a.tmps) = true ∧ run e') ∨ (∃ e', Agree e' a ∧ Region.wanted o (yielded ops a.tmps) = false ∧ skip e') := by
  unfold guardQ at ht
  split at ht
  · rename_i hg
    exact .inl ⟨e, h, by simp [Region.wanted, hg], ht⟩
  · rename_i j want hg
    split at ht
    · exact ht.elim
    · rename_i d hdj
      have hv := tget_ok h d
      split at ht <;> rename_i hx <;> simp only [hx, Ent.ok] at hv
      · exact ht.elim
      · rename_i b
        have hw := wanted_of hg hdj hv
        cases b <;> cases want <;> simp at ht hw
        · exact .inl ⟨e, h, hw, ht⟩
        · exact .inr ⟨e, h, hw, ht⟩
        · exact .inr ⟨e, h, hw, ht⟩
        · exact .inl ⟨e, h, hw, ht⟩
      · exact .inr ⟨e, h, wanted_und hg hdj hv, ht⟩
      · obtain ⟨b, hb, h1, h2⟩ := ht
        have hv' := hv.trans hb
        have hw := wanted_of hg hdj hv'
        cases b <;> cases want <;> simp at h1 h2 hw
        · exact .inl ⟨_, agree_refineT h (by rw [hx]; simp) (x := .lit false) hv', hw, h2⟩
        · exact .inr ⟨_, agree_refineT h (by rw [hx]; simp) (x := .lit false) hv', hw, h2⟩
        · exact .inr ⟨_, agree_refineT h (by rw [hx]; simp) (x := .lit true) hv', hw, h1⟩
        · exact .inl ⟨_, agree_refineT h (by rw [hx]; simp) (x := .lit true) hv', hw, h1⟩
theorem okE_iff {m : Nat} {es : List Edge} : okE m es = true ↔ ∀ e ∈ es, Region.binds .any e = true → m.testBit e.on = true := by
  induction es with
  | nil => simp [okE]
  | cons e es ih =>
    simp only [okE, Bool.and_eq_true, ih, List.mem_cons, forall_eq_or_imp]
    cases Region.binds .any e <;> simp
theorem mem_readyL {m : Nat} : ∀ (l : List Oper) (i j : Nat), j ∈ readyL l i m ↔ ∃ o, i ≤ j ∧ l[j - i]? = some o ∧ m.testBit j = false ∧ okE m o.after.toList = true
  | [], i, j => by simp [readyL]
  | o :: l, i, j => by
    have ih := mem_readyL (m := m) l (i + 1) j
    have split : (∃ o', i ≤ j ∧ (o :: l)[j - i]? = some o' ∧ m.testBit j = false ∧ okE m o'.after.toList = true) ↔
        (j = i ∧ m.testBit i = false ∧ okE m o.after.toList = true) ∨ j ∈ readyL l (i + 1) m := by
      rw [ih]
      constructor
      · rintro ⟨o', hij, ho, hb, hk⟩
        rcases Nat.eq_or_lt_of_le hij with rfl | hlt
        · simp at ho; subst ho; exact .inl ⟨rfl, hb, hk⟩
        · obtain ⟨d, rfl⟩ : ∃ d, j = i + 1 + d := ⟨j - (i + 1), by omega⟩
          have e1 : i + 1 + d - i = d + 1 := by omega
          have e2 : i + 1 + d - (i + 1) = d := by omega
          rw [e1] at ho
          exact .inr ⟨o', by omega, by rw [e2]; simpa using ho, hb, hk⟩
      · rintro (⟨rfl, hb, hk⟩ | ⟨o', hij, ho, hb, hk⟩)
        · exact ⟨o, Nat.le_refl _, by simp, hb, hk⟩
        · obtain ⟨d, rfl⟩ : ∃ d, j = i + 1 + d := ⟨j - (i + 1), by omega⟩
          have e1 : i + 1 + d - i = d + 1 := by omega
          have e2 : i + 1 + d - (i + 1) = d := by omega
          rw [e2] at ho
          exact ⟨o', by omega, by rw [e1]; simpa using ho, hb, hk⟩
    rw [split]
    have e : readyL (o :: l) i m = bif (!m.testBit i && okE m o.after.toList) then i :: readyL l (i + 1) m else readyL l (i + 1) m := rfl
    rw [e]
    cases hb : m.testBit i <;> cases hk : okE m o.after.toList <;> simp
theorem readyL_iff {ops : Array Oper} {m j : Nat} : j ∈ readyL ops.toList 0 m ↔ Rdy ops m j := by
  rw [mem_readyL]
  unfold Rdy
  constructor
  · rintro ⟨o, _, ho, hb, hk⟩
    exact ⟨hb, o, by simpa using ho, fun e he => okE_iff.1 hk e (by simpa using he)⟩
  · rintro ⟨hb, o, ho, hall⟩
    exact ⟨o, Nat.zero_le _, by simpa using ho, hb, okE_iff.2 fun e he => hall e (by simpa using he)⟩
theorem apartOK_spec {ops : Array Oper} {ms : List Nat} (h : apartOK ops ms = true) :
    (∀ (i : Nat) (oi : Oper), ops[i]? = some oi → ∀ j oj, ops[j]? = some oj → j ≠ i → waitsOn oj i = false → twB ms i j = false → oi.apart ops oj = true) ∧
    (∀ (j : Nat) (o : Oper) cs b, ops[j]? = some o → o.op ≠ .select cs b) := by
  unfold apartOK at h
  rw [Bool.and_eq_true] at h
  refine ⟨fun i oi hi j oj hj hne hw ht => ?_, fun j o cs b ho => Region.noSelect_spec h.1 j o cs b ho⟩
  have mem : ∀ (i : Nat) (o : Oper), ops[i]? = some o → (o, i) ∈ ops.toList.zipIdx := fun i o ho => by
    rw [List.mem_zipIdx_iff_getElem?]; simpa using ho
  have h1 := List.all_eq_true.1 h.2 (oi, i) (mem i oi hi)
  have h2 := List.all_eq_true.1 h1 (oj, j) (mem j oj hj)
  simp only [hw, ht, Bool.or_false, Bool.or_eq_true] at h2
  rcases h2 with h2 | h2
  · exact absurd (Nat.eq_of_beq_eq_true h2).symm hne
  · exact h2
theorem oblW_spec {l : Held} {w : World} {X : Prop} (h : oblW l w X) : (∀ p ∈ l, p.2 w) ∧ X := by
  induction l with
  | nil => exact ⟨by simp, h⟩
  | cons p l ih => exact ⟨fun q hq => by rcases List.mem_cons.1 hq with rfl | hq; exact h.1; exact (ih h.2).1 q hq, (ih h.2).2⟩
theorem allL_spec {l : List Nat} {f : Nat → Prop} (h : allL l f) : ∀ j ∈ l, f j := by
  induction l with
  | nil => simp
  | cons j l ih =>
    cases l with
    | nil => intro i hi; simp at hi; subst hi; exact h
    | cons k l => intro i hi; rcases List.mem_cons.1 hi with rfl | hi; exact h.1; exact ih h.2 i hi
theorem firstQ_mem {ops : List Oper} {l : List Nat} {i : Nat} (h : firstQ ops l = some i) : i ∈ l := by
  induction l with
  | nil => simp [firstQ] at h
  | cons j l ih =>
    unfold firstQ at h
    cases hq : quietAt ops j <;> rw [hq] at h
    · exact List.mem_cons_of_mem _ (ih h)
    · simp at h; subst h; simp
theorem dst_mem {l : List Oper} {o : Oper} (ho : o ∈ l) : ∀ d ∈ o.dst.toList, d ∈ dsts l := by
  induction l with
  | nil => simp at ho
  | cons p l ih =>
    intro d hd
    unfold dsts
    rcases List.mem_cons.1 ho with rfl | ho
    · cases hp : o.dst with
      | none => rw [hp] at hd; simp at hd
      | some x => rw [hp] at hd; simp at hd ⊢; exact .inl hd
    · cases hp : p.dst with
      | none => exact ih ho d hd
      | some x => exact List.mem_cons_of_mem _ (ih ho d hd)
theorem trD_sound {ops : Array Oper} {ms : List Nat} {K : Env → World → Prop} {a0 : Act} (hms : ms = masks ops.toList []) (hap : apartOK ops ms = true) (hN : okOps a0.tmps.size ops.toList = true) (hD : a0.tmps.size ≤ DK) :
    ∀ (n m : Nat) (held : Held) (e : Env) (a : Act) (w : World), Closed ops m → Frz (dsts ops.toList) a0 a → Agree e a → (∀ p ∈ held, p.2 w) → trD P ops.toList ms n m held e K w →
      anyX P ops ms (fun a' w' => Frz (dsts ops.toList) a0 a' ∧ ∃ e', Agree e' a' ∧ K e' w') n m held a w := by
  have htw : ∀ j i, twB ms j i = true → TW ops j i := by
    subst hms
    exact masks_tw ops.toList [] (by simp) (by simp) (by intro j i h; simp [twB] at h)
  obtain ⟨hapart, hsel⟩ := apartOK_spec hap
  intro n
  have bound : ∀ {a : Act}, Frz (dsts ops.toList) a0 a → ∀ {i : Nat} {o : Oper}, ops[i]? = some o → ∀ d, o.dst = some d → d < a.tmps.size := by
    intro a hf i o ho d hd
    rw [hf.1]
    exact okOps_dst hN o (by simpa using List.mem_of_getElem? (l := ops.toList) (by simpa using ho)) d hd
  have frz : ∀ {a : Act} (hf : Frz (dsts ops.toList) a0 a) {i : Nat} {o : Oper} (ho : ops[i]? = some o) (v : Value), Frz (dsts ops.toList) a0 (a.put o.dst v) := by
    intro a hf i o ho v
    refine (hf.trans (frz_put a o.dst v (bound hf ho) (by rw [hf.1]; exact hD))).mono fun s hs => ?_
    rcases List.mem_append.1 hs with h | h
    · exact h
    · exact dst_mem (List.mem_of_getElem? (l := ops.toList) (by simpa using ho)) s h
  induction n with
  | zero =>
    intro m held e a w hc hf he hh ht
    unfold trD at ht
    split at ht
    · rename_i hr
      exact ⟨fun j hj => by rw [← readyL_iff, hr] at hj; simp at hj, hf, e, he, ht⟩
    · exact ht.elim
  | succ n ih =>
    intro m held e a w hc hf he hh ht
    unfold trD at ht
    split at ht
    · rename_i hr
      exact ⟨fun _ => ⟨hf, e, he, ht⟩, fun j hj => by rw [← readyL_iff, hr] at hj; simp at hj⟩
    · split at ht
      · rename_i i hq
        have hri : Rdy ops m i := readyL_iff.1 (firstQ_mem hq)
        split at ht
        · exact ht.elim
        · rename_i o hno
          have ho : ops[i]? = some o := by rw [nthO_eq] at hno; simpa using hno
          have first := fun (S : World → Prop) (v : Value) => anyX_first (P := P) (K := fun a' w' => Frz (dsts ops.toList) a0 a' ∧ ∃ e', Agree e' a' ∧ K e' w') (S := S) (v := v) ho htw (hapart i o ho) hsel n m held a w hc hri
          rcases guardQ_sound he ht with ⟨e', he', hw, ht⟩ | ⟨e', he', hw, ht⟩
          · obtain ⟨v, e'', S, hag, hk, hnd, hS, hrun⟩ := stepQ_sound he' (bound hf ho) ht
            cases S with
            | none =>
              refine first (fun _ => True) v (.inl ⟨hw, hnd, fun w' _ => hrun w' trivial⟩) trivial hh (anyX_true _ _ _ _ _ ?_)
              exact ih _ _ _ _ _ (closed_or hc hri) (frz hf ho v) hag hh hk
            | some S =>
              refine first S v (.inl ⟨hw, hnd, hrun⟩) hS hh ?_
              refine ih _ _ _ _ _ (closed_or hc hri) (frz hf ho v) hag ?_ hk
              intro p hp
              rcases List.mem_cons.1 hp with rfl | hp
              · exact hS
              · exact hh p hp
          · refine first (fun _ => True) undef (.inr ⟨hw, rfl⟩) trivial hh (anyX_true _ _ _ _ _ ?_)
            exact ih _ _ _ _ _ (closed_or hc hri) (frz hf ho undef) (agree_put he' (x := .und) rfl (bound hf ho)) hh ht
      · have hall := allL_spec ht
        refine ⟨fun hn => ?_, fun j hj => ?_⟩
        · rename_i hne _ _
          cases hr : readyL ops.toList 0 m with
          | nil => exact absurd hr hne
          | cons j l => exact absurd (readyL_iff.1 (by rw [hr]; simp)) (hn j)
        · have hj' := hall j (readyL_iff.2 hj)
          split at hj'
          · exact hj'.elim
          · rename_i o hno
            have ho : ops[j]? = some o := by rw [nthO_eq] at hno; simpa using hno
            refine ⟨o, ho, ?_⟩
            rcases guardQ_sound he hj' with ⟨e', he', hw, ht⟩ | ⟨e', he', hw, ht⟩
            · obtain ⟨hnd, hu⟩ := stepO_sound he' (bound hf ho) ht
              refine .inl ⟨hw, hnd, upon_mono (fun v w' ⟨e'', hag, hk⟩ => ?_) _ hu⟩
              obtain ⟨h1, h2⟩ := oblW_spec hk
              exact ⟨h1, ih _ _ _ _ _ (closed_or hc hj) (frz hf ho v) hag h1 h2⟩
            · have h1 : ∀ p ∈ keepH ms j held, p.2 w := fun p hp => hh p (mem_keepH.1 hp).1
              exact .inr ⟨hw, h1, ih _ _ _ _ _ (closed_or hc hj) (frz hf ho undef) (agree_put he' (x := .und) rfl (bound hf ho)) h1 ht⟩
theorem regionD_sound {ro : Option Nat} (hm : P.follows .mixedOrders = true) {ops : Array Oper} {id : Nat} {K : Env → World → Prop} {e : Env} {a : Act} {w : World} (hN : okOps a.tmps.size ops.toList = true) (he : Agree e a)
    (hap : apartOK ops (masks ops.toList []) = true) (h : trD P ops.toList (masks ops.toList []) ops.size 0 [] e K w.drew) :
    WP P ro (.region id ops true) (fun ex a' w' => ex = .normal ∧ Frz (dsts ops.toList) a a' ∧ ∃ e', Agree e' a' ∧ K e' w') a w := by
  intro b k cs _
  have hX := trD_sound (P := P) (a0 := a) rfl hap hN he.1 ops.size 0 [] e a w.drew (by intro j o hj; simp at hj) (Frz.refl _ _) he (by simp) h
  obtain ⟨a', w', hp, hs⟩ := anyX_run ops.size (w.tape w.drawn (.order b.fn id)) (Array.replicate ops.size false) 0 [] a w.drew ⟨by simp, fun i hi => by simp [hi, Array.getD_eq_getD_getElem?], by simp⟩ hX b k cs
  refine ⟨.normal, a', w', ⟨rfl, hp⟩, .head st_regionDraw ?_⟩
  have e1 : Region.schedule (P.follows .mixedOrders) ops (w.tape w.drawn (.order b.fn id)) = Region.linearise.go .any ops ops.size (w.tape w.drawn (.order b.fn id)) (Array.replicate ops.size false) [] := by
    simp only [Region.schedule, hm, Bool.true_or, if_true]; rfl
  rw [e1]
  exact hs.trans (.one st_regionEnd)
end
end Lyc
namespace Lyc
open Go
section
variable {P : Program}
theorem joinL_split {J : List Nat} {base : Env} {M : (Env → World → Prop) → World → Prop} {K : Env → World → Prop} {w : World} (h : joinL J base M K w) :
    ∃ R : Env → World → Prop, M R w ∧ ∀ (e' : Env) (a' : Act) (w' : World), Agree e' a' → R e' w' → Agree base a' → ∃ e'', Agree e'' a' ∧ K e'' w' := by
  unfold joinL at h
  split at h
  · obtain ⟨R, h1, h2⟩ := h
    exact ⟨fun _ w => R w, h1, fun e' a' w' _ hr hb => ⟨_, hb, h2 w' hr⟩⟩
  · rename_i s0
    obtain ⟨R, h1, h2⟩ := h
    refine ⟨_, h1, fun e' a' w' he hr hb => ?_⟩
    have r0 := vget_some he hr
    refine ⟨_, ?_, h2 _ w' r0⟩
    exact (agree_refine hb (x := .val _) rfl)
  · rename_i s0 s1
    obtain ⟨R, h1, h2⟩ := h
    refine ⟨_, h1, fun e' a' w' he hr hb => ?_⟩
    have r0 := vget_some he hr
    have r1 := vget_some he r0
    refine ⟨_, ?_, h2 _ _ w' r1⟩
    exact (agree_refine (agree_refine hb (x := .val _) rfl) (x := .val _) rfl)
  · rename_i s0 s1 s2
    obtain ⟨R, h1, h2⟩ := h
    refine ⟨_, h1, fun e' a' w' he hr hb => ?_⟩
    have r0 := vget_some he hr
    have r1 := vget_some he r0
    have r2 := vget_some he r1
    refine ⟨_, ?_, h2 _ _ _ w' r2⟩
    exact (agree_refine (agree_refine (agree_refine hb (x := .val _) rfl) (x := .val _) rfl) (x := .val _) rfl)
  · rename_i s0 s1 s2 s3
    obtain ⟨R, h1, h2⟩ := h
    refine ⟨_, h1, fun e' a' w' he hr hb => ?_⟩
    have r0 := vget_some he hr
    have r1 := vget_some he r0
    have r2 := vget_some he r1
    have r3 := vget_some he r2
    refine ⟨_, ?_, h2 _ _ _ _ w' r3⟩
    exact (agree_refine (agree_refine (agree_refine (agree_refine hb (x := .val _) rfl) (x := .val _) rfl) (x := .val _) rfl) (x := .val _) rfl)
  · rename_i s0 s1 s2 s3 s4
    obtain ⟨R, h1, h2⟩ := h
    refine ⟨_, h1, fun e' a' w' he hr hb => ?_⟩
    have r0 := vget_some he hr
    have r1 := vget_some he r0
    have r2 := vget_some he r1
    have r3 := vget_some he r2
    have r4 := vget_some he r3
    refine ⟨_, ?_, h2 _ _ _ _ _ w' r4⟩
    exact (agree_refine (agree_refine (agree_refine (agree_refine (agree_refine hb (x := .val _) rfl) (x := .val _) rfl) (x := .val _) rfl) (x := .val _) rfl) (x := .val _) rfl)
  · rename_i s0 s1 s2 s3 s4 s5
    obtain ⟨R, h1, h2⟩ := h
    refine ⟨_, h1, fun e' a' w' he hr hb => ?_⟩
    have r0 := vget_some he hr
    have r1 := vget_some he r0
    have r2 := vget_some he r1
    have r3 := vget_some he r2
    have r4 := vget_some he r3
    have r5 := vget_some he r4
    refine ⟨_, ?_, h2 _ _ _ _ _ _ w' r5⟩
    exact (agree_refine (agree_refine (agree_refine (agree_refine (agree_refine (agree_refine hb (x := .val _) rfl) (x := .val _) rfl) (x := .val _) rfl) (x := .val _) rfl) (x := .val _) rfl) (x := .val _) rfl)
  · rename_i s0 s1 s2 s3 s4 s5 s6
    obtain ⟨R, h1, h2⟩ := h
    refine ⟨_, h1, fun e' a' w' he hr hb => ?_⟩
    have r0 := vget_some he hr
    have r1 := vget_some he r0
    have r2 := vget_some he r1
    have r3 := vget_some he r2
    have r4 := vget_some he r3
    have r5 := vget_some he r4
    have r6 := vget_some he r5
    refine ⟨_, ?_, h2 _ _ _ _ _ _ _ w' r6⟩
    exact (agree_refine (agree_refine (agree_refine (agree_refine (agree_refine (agree_refine (agree_refine hb (x := .val _) rfl) (x := .val _) rfl) (x := .val _) rfl) (x := .val _) rfl) (x := .val _) rfl) (x := .val _) rfl) (x := .val _) rfl)
  · rename_i s0 s1 s2 s3 s4 s5 s6 s7
    obtain ⟨R, h1, h2⟩ := h
    refine ⟨_, h1, fun e' a' w' he hr hb => ?_⟩
    have r0 := vget_some he hr
    have r1 := vget_some he r0
    have r2 := vget_some he r1
    have r3 := vget_some he r2
    have r4 := vget_some he r3
    have r5 := vget_some he r4
    have r6 := vget_some he r5
    have r7 := vget_some he r6
    refine ⟨_, ?_, h2 _ _ _ _ _ _ _ _ w' r7⟩
    exact (agree_refine (agree_refine (agree_refine (agree_refine (agree_refine (agree_refine (agree_refine (agree_refine hb (x := .val _) rfl) (x := .val _) rfl) (x := .val _) rfl) (x := .val _) rfl) (x := .val _) rfl) (x := .val _) rfl) (x := .val _) rfl) (x := .val _) rfl)
  · exact h.elim
theorem loopL_split {L : List Nat} {e base : Env} {body : Env → (Env → World → Prop) → World → Prop} {a : Act} {w : World} (he : Agree e a) (h : loopL L e base body w) :
    ∃ (I : Act → World → Prop) (μ : Act → World → Nat), I a w ∧ ∀ (a1 : Act) (w1 : World), I a1 w1 → Agree base a1 →
      ∃ (e1 : Env) (nx : Env → World → Prop), Agree e1 a1 ∧ body e1 nx w1 ∧ ∀ e2 a2 w2, Agree e2 a2 → nx e2 w2 → I a2 w2 ∧ μ a2 w2 < μ a1 w1 := by
  unfold loopL at h
  split at h
  · obtain ⟨I, μ, h0, h1⟩ := h
    exact ⟨fun _ w => I w, fun _ w => μ w, h0, fun a1 w1 hi hb => ⟨_, _, hb, h1 w1 hi, fun _ _ _ _ h => h⟩⟩
  · rename_i s0
    have r0 := vget_some he h
    obtain ⟨I, μ, h0, h1⟩ := r0
    refine ⟨fun a w => I (slot a s0) w, fun a w => μ (slot a s0) w, h0, fun a1 w1 hi hb => ⟨_, _, ?_, h1 _ w1 hi, fun e2 a2 w2 he2 hn => ?_⟩⟩
    · exact (agree_refine hb (x := .val _) rfl)
    · have q0 := vget_some he2 hn
      exact q0
  · rename_i s0 s1
    have r0 := vget_some he h
    have r1 := vget_some he r0
    obtain ⟨I, μ, h0, h1⟩ := r1
    refine ⟨fun a w => I (slot a s0) (slot a s1) w, fun a w => μ (slot a s0) (slot a s1) w, h0, fun a1 w1 hi hb => ⟨_, _, ?_, h1 _ _ w1 hi, fun e2 a2 w2 he2 hn => ?_⟩⟩
    · exact (agree_refine (agree_refine hb (x := .val _) rfl) (x := .val _) rfl)
    · have q0 := vget_some he2 hn
      have q1 := vget_some he2 q0
      exact q1
  · rename_i s0 s1 s2
    have r0 := vget_some he h
    have r1 := vget_some he r0
    have r2 := vget_some he r1
    obtain ⟨I, μ, h0, h1⟩ := r2
    refine ⟨fun a w => I (slot a s0) (slot a s1) (slot a s2) w, fun a w => μ (slot a s0) (slot a s1) (slot a s2) w, h0, fun a1 w1 hi hb => ⟨_, _, ?_, h1 _ _ _ w1 hi, fun e2 a2 w2 he2 hn => ?_⟩⟩
    · exact (agree_refine (agree_refine (agree_refine hb (x := .val _) rfl) (x := .val _) rfl) (x := .val _) rfl)
    · have q0 := vget_some he2 hn
      have q1 := vget_some he2 q0
      have q2 := vget_some he2 q1
      exact q2
  · rename_i s0 s1 s2 s3
    have r0 := vget_some he h
    have r1 := vget_some he r0
    have r2 := vget_some he r1
    have r3 := vget_some he r2
    obtain ⟨I, μ, h0, h1⟩ := r3
    refine ⟨fun a w => I (slot a s0) (slot a s1) (slot a s2) (slot a s3) w, fun a w => μ (slot a s0) (slot a s1) (slot a s2) (slot a s3) w, h0, fun a1 w1 hi hb => ⟨_, _, ?_, h1 _ _ _ _ w1 hi, fun e2 a2 w2 he2 hn => ?_⟩⟩
    · exact (agree_refine (agree_refine (agree_refine (agree_refine hb (x := .val _) rfl) (x := .val _) rfl) (x := .val _) rfl) (x := .val _) rfl)
    · have q0 := vget_some he2 hn
      have q1 := vget_some he2 q0
      have q2 := vget_some he2 q1
      have q3 := vget_some he2 q2
      exact q3
  · rename_i s0 s1 s2 s3 s4
    have r0 := vget_some he h
    have r1 := vget_some he r0
    have r2 := vget_some he r1
    have r3 := vget_some he r2
    have r4 := vget_some he r3
    obtain ⟨I, μ, h0, h1⟩ := r4
    refine ⟨fun a w => I (slot a s0) (slot a s1) (slot a s2) (slot a s3) (slot a s4) w, fun a w => μ (slot a s0) (slot a s1) (slot a s2) (slot a s3) (slot a s4) w, h0, fun a1 w1 hi hb => ⟨_, _, ?_, h1 _ _ _ _ _ w1 hi, fun e2 a2 w2 he2 hn => ?_⟩⟩
    · exact (agree_refine (agree_refine (agree_refine (agree_refine (agree_refine hb (x := .val _) rfl) (x := .val _) rfl) (x := .val _) rfl) (x := .val _) rfl) (x := .val _) rfl)
    · have q0 := vget_some he2 hn
      have q1 := vget_some he2 q0
      have q2 := vget_some he2 q1
      have q3 := vget_some he2 q2
      have q4 := vget_some he2 q3
      exact q4
  · rename_i s0 s1 s2 s3 s4 s5
    have r0 := vget_some he h
    have r1 := vget_some he r0
    have r2 := vget_some he r1
    have r3 := vget_some he r2
    have r4 := vget_some he r3
    have r5 := vget_some he r4
    obtain ⟨I, μ, h0, h1⟩ := r5
    refine ⟨fun a w => I (slot a s0) (slot a s1) (slot a s2) (slot a s3) (slot a s4) (slot a s5) w, fun a w => μ (slot a s0) (slot a s1) (slot a s2) (slot a s3) (slot a s4) (slot a s5) w, h0, fun a1 w1 hi hb => ⟨_, _, ?_, h1 _ _ _ _ _ _ w1 hi, fun e2 a2 w2 he2 hn => ?_⟩⟩
    · exact (agree_refine (agree_refine (agree_refine (agree_refine (agree_refine (agree_refine hb (x := .val _) rfl) (x := .val _) rfl) (x := .val _) rfl) (x := .val _) rfl) (x := .val _) rfl) (x := .val _) rfl)
    · have q0 := vget_some he2 hn
      have q1 := vget_some he2 q0
      have q2 := vget_some he2 q1
      have q3 := vget_some he2 q2
      have q4 := vget_some he2 q3
      have q5 := vget_some he2 q4
      exact q5
  · rename_i s0 s1 s2 s3 s4 s5 s6
    have r0 := vget_some he h
    have r1 := vget_some he r0
    have r2 := vget_some he r1
    have r3 := vget_some he r2
    have r4 := vget_some he r3
    have r5 := vget_some he r4
    have r6 := vget_some he r5
    obtain ⟨I, μ, h0, h1⟩ := r6
    refine ⟨fun a w => I (slot a s0) (slot a s1) (slot a s2) (slot a s3) (slot a s4) (slot a s5) (slot a s6) w, fun a w => μ (slot a s0) (slot a s1) (slot a s2) (slot a s3) (slot a s4) (slot a s5) (slot a s6) w, h0, fun a1 w1 hi hb => ⟨_, _, ?_, h1 _ _ _ _ _ _ _ w1 hi, fun e2 a2 w2 he2 hn => ?_⟩⟩
    · exact (agree_refine (agree_refine (agree_refine (agree_refine (agree_refine (agree_refine (agree_refine hb (x := .val _) rfl) (x := .val _) rfl) (x := .val _) rfl) (x := .val _) rfl) (x := .val _) rfl) (x := .val _) rfl) (x := .val _) rfl)
    · have q0 := vget_some he2 hn
      have q1 := vget_some he2 q0
      have q2 := vget_some he2 q1
      have q3 := vget_some he2 q2
      have q4 := vget_some he2 q3
      have q5 := vget_some he2 q4
      have q6 := vget_some he2 q5
      exact q6
  · rename_i s0 s1 s2 s3 s4 s5 s6 s7
    have r0 := vget_some he h
    have r1 := vget_some he r0
    have r2 := vget_some he r1
    have r3 := vget_some he r2
    have r4 := vget_some he r3
    have r5 := vget_some he r4
    have r6 := vget_some he r5
    have r7 := vget_some he r6
    obtain ⟨I, μ, h0, h1⟩ := r7
    refine ⟨fun a w => I (slot a s0) (slot a s1) (slot a s2) (slot a s3) (slot a s4) (slot a s5) (slot a s6) (slot a s7) w, fun a w => μ (slot a s0) (slot a s1) (slot a s2) (slot a s3) (slot a s4) (slot a s5) (slot a s6) (slot a s7) w, h0, fun a1 w1 hi hb => ⟨_, _, ?_, h1 _ _ _ _ _ _ _ _ w1 hi, fun e2 a2 w2 he2 hn => ?_⟩⟩
    · exact (agree_refine (agree_refine (agree_refine (agree_refine (agree_refine (agree_refine (agree_refine (agree_refine hb (x := .val _) rfl) (x := .val _) rfl) (x := .val _) rfl) (x := .val _) rfl) (x := .val _) rfl) (x := .val _) rfl) (x := .val _) rfl) (x := .val _) rfl)
    · have q0 := vget_some he2 hn
      have q1 := vget_some he2 q0
      have q2 := vget_some he2 q1
      have q3 := vget_some he2 q2
      have q4 := vget_some he2 q3
      have q5 := vget_some he2 q4
      have q6 := vget_some he2 q5
      have q7 := vget_some he2 q6
      exact q7
  · rename_i s0 s1 s2 s3 s4 s5 s6 s7 s8
    have r0 := vget_some he h
    have r1 := vget_some he r0
    have r2 := vget_some he r1
    have r3 := vget_some he r2
    have r4 := vget_some he r3
    have r5 := vget_some he r4
    have r6 := vget_some he r5
    have r7 := vget_some he r6
    have r8 := vget_some he r7
    obtain ⟨I, μ, h0, h1⟩ := r8
    refine ⟨fun a w => I (slot a s0) (slot a s1) (slot a s2) (slot a s3) (slot a s4) (slot a s5) (slot a s6) (slot a s7) (slot a s8) w, fun a w => μ (slot a s0) (slot a s1) (slot a s2) (slot a s3) (slot a s4) (slot a s5) (slot a s6) (slot a s7) (slot a s8) w, h0, fun a1 w1 hi hb => ⟨_, _, ?_, h1 _ _ _ _ _ _ _ _ _ w1 hi, fun e2 a2 w2 he2 hn => ?_⟩⟩
    · exact (agree_refine (agree_refine (agree_refine (agree_refine (agree_refine (agree_refine (agree_refine (agree_refine (agree_refine hb (x := .val _) rfl) (x := .val _) rfl) (x := .val _) rfl) (x := .val _) rfl) (x := .val _) rfl) (x := .val _) rfl) (x := .val _) rfl) (x := .val _) rfl) (x := .val _) rfl)
    · have q0 := vget_some he2 hn
      have q1 := vget_some he2 q0
      have q2 := vget_some he2 q1
      have q3 := vget_some he2 q2
      have q4 := vget_some he2 q3
      have q5 := vget_some he2 q4
      have q6 := vget_some he2 q5
      have q7 := vget_some he2 q6
      have q8 := vget_some he2 q7
      exact q8
  · rename_i s0 s1 s2 s3 s4 s5 s6 s7 s8 s9
    have r0 := vget_some he h
    have r1 := vget_some he r0
    have r2 := vget_some he r1
    have r3 := vget_some he r2
    have r4 := vget_some he r3
    have r5 := vget_some he r4
    have r6 := vget_some he r5
    have r7 := vget_some he r6
    have r8 := vget_some he r7
    have r9 := vget_some he r8
    obtain ⟨I, μ, h0, h1⟩ := r9
    refine ⟨fun a w => I (slot a s0) (slot a s1) (slot a s2) (slot a s3) (slot a s4) (slot a s5) (slot a s6) (slot a s7) (slot a s8) (slot a s9) w, fun a w => μ (slot a s0) (slot a s1) (slot a s2) (slot a s3) (slot a s4) (slot a s5) (slot a s6) (slot a s7) (slot a s8) (slot a s9) w, h0, fun a1 w1 hi hb => ⟨_, _, ?_, h1 _ _ _ _ _ _ _ _ _ _ w1 hi, fun e2 a2 w2 he2 hn => ?_⟩⟩
    · exact (agree_refine (agree_refine (agree_refine (agree_refine (agree_refine (agree_refine (agree_refine (agree_refine (agree_refine (agree_refine hb (x := .val _) rfl) (x := .val _) rfl) (x := .val _) rfl) (x := .val _) rfl) (x := .val _) rfl) (x := .val _) rfl) (x := .val _) rfl) (x := .val _) rfl) (x := .val _) rfl) (x := .val _) rfl)
    · have q0 := vget_some he2 hn
      have q1 := vget_some he2 q0
      have q2 := vget_some he2 q1
      have q3 := vget_some he2 q2
      have q4 := vget_some he2 q3
      have q5 := vget_some he2 q4
      have q6 := vget_some he2 q5
      have q7 := vget_some he2 q6
      have q8 := vget_some he2 q7
      have q9 := vget_some he2 q8
      exact q9
  · exact h.elim
theorem okAll {N : Nat} {ds : List Nat} {a a' : Act} (h : a.tmps.size = N) (hf : Frz ds a a') : a'.tmps.size = N := by rw [hf.1, h]
theorem dval_cons (r : Nat) (ds : List Deferred) : dval ({ target := .collected r, args := #[] } :: ds) = dcons r (dval ds) := by
  unfold dval
  simp only [drefs, dref]
  cases drefs ds with
  | none => rfl
  | some rs => simp [dcons]
def lpOf (L : Loop) : LSt → Obj
  | .ready => .loop L
  | .busy => .loop { L with state := .busy }
  | .gone .ret => .loop { L with state := .done, pending := some .ret }
  | .gone (.exit id) => .loop { L with state := .done, pending := some (.exit id) }
  | .gone .normal => .loop { L with state := .done }
  | .over .ret => .loop { L with state := .exhausted, pending := some .ret }
  | .over (.exit id) => .loop { L with state := .exhausted, pending := some (.exit id) }
  | .over .normal => .loop { L with state := .exhausted }
theorem size_bind (l : List (Nat × Value)) (tmps : Array Value) : (l.foldl (fun tmps p => tmps.setIfInBounds p.1 p.2) tmps).size = tmps.size := by
  induction l generalizing tmps with
  | nil => rfl
  | cons p l ih => rw [List.foldl_cons, ih]; simp
theorem agree_bind : ∀ (ps : List Nat) (i : Nat) (vs us : List Value) (e : Env) (a : Act), Agree e a → (∀ p ∈ ps, p < a.tmps.size) → ps.length = us.length → us = vs.drop i →
    Agree (bindR ps i vs e) { tmps := (ps.zip us).foldl (fun tmps p => tmps.setIfInBounds p.1 p.2) a.tmps, defers := a.defers }
  | [], i, vs, us, e, a, h, _, _, _ => by simpa [bindR] using h
  | p :: ps, i, vs, [], e, a, h, _, hl, _ => by simp at hl
  | p :: ps, i, vs, u :: us, e, a, h, hp, hl, hu => by
    have hn : nthV vs i = u := by
      clear h hp hl
      induction vs generalizing i with
      | nil => simp at hu
      | cons v vs ih =>
        cases i with
        | zero => simp at hu; exact hu.1.symm
        | succ i => exact ih i (by simpa using hu)
    have hu' : us = vs.drop (i + 1) := by
      have := congrArg (List.drop 1) hu
      simpa [List.drop_drop] using this
    have h1 := agree_put (dst := some p) (x := .val u) (v := u) h rfl (fun d hd => by cases hd; exact hp p (by simp))
    have := agree_bind ps (i + 1) vs us ((p, .val u) :: e) (a.put (some p) u) h1 (fun q hq => by simpa [Act.put] using hp q (by simp [hq])) (by simpa using hl) hu'
    show Agree (bindR ps (i + 1) vs ((p, .val (nthV vs i)) :: e)) _
    rw [hn]
    exact this
def Post (ds : List Nat) (Q : Ex → Env → World → Prop) (a : Act) (ex : Ex) (a' : Act) (w' : World) : Prop := Frz ds a a' ∧ ∃ e', Agree e' a' ∧ Q ex e' w'
theorem tr_sound (hm : P.follows .mixedOrders = true) {hs : Hints} {N : Nat} : ∀ (c : Code) (top : Bool) (ro : Option Nat), (top = true → ro = none) → ∀ (n : Nat) (Q : Ex → Env → World → Prop) (e : Env) (a : Act) (w : World), wfc N c = true → a.tmps.size = N → Agree e a →
    tr P top hs c n Q e w → WP P ro c (Post (writes c) Q a) a w := by
  intro c
  induction c with
  | skip => exact fun top ro hro n Q e a w _ _ he h => .skip ⟨Frz.refl _ _, e, he, h⟩
  | label l => exact fun top ro hro n Q e a w _ _ he h => .label ⟨Frz.refl _ _, e, he, h⟩
  | scope c ih =>
    intro top ro hro n Q e a w hw hN he h
    unfold tr at h
    exact .scope (ih top ro hro _ _ e a w hw hN he h)
  | exit id => exact fun top ro hro n Q e a w _ _ he h => .exit ⟨Frz.refl _ _, e, he, h⟩
  | ret => exact fun top ro hro n Q e a w _ _ he h => .ret ⟨Frz.refl _ _, e, he, h⟩
  | region id ops draw =>
    intro top ro hro n Q e a w hw hN he h
    subst hN
    cases draw with
    | true =>
      unfold tr at h
      split at h
      · exact h.elim
      · rename_i hap
        split at h
        · exact (regionD_sound hm hw he hap h).mono fun ex a' w' ⟨hx, hf, e', he', hk⟩ => by subst hx; exact ⟨hf, e', he', hk⟩
        · obtain ⟨R, hM, hK⟩ := joinL_split h
          refine (regionD_sound hm hw he hap hM).mono fun ex a' w' ⟨hx, hf, e', he', hk⟩ => ?_
          subst hx
          exact ⟨hf, hK e' a' w' he' hk (agree_kill he hf)⟩
    | false =>
      unfold tr at h
      split at h
      · exact (region_sound hw he h).mono fun ex a' w' ⟨hx, hf, e', he', hk⟩ => by subst hx; exact ⟨hf, e', he', hk⟩
      · obtain ⟨R, hM, hK⟩ := joinL_split h
        refine (region_sound hw he hM).mono fun ex a' w' ⟨hx, hf, e', he', hk⟩ => ?_
        subst hx
        exact ⟨hf, hK e' a' w' he' hk (agree_kill he hf)⟩
  | seq x y ihx ihy =>
    intro top ro hro n Q e a w hw hN he h
    simp only [wfc, Bool.and_eq_true] at hw
    unfold tr at h
    split at h
    · refine .seq ((ihx top ro hro _ _ e a w hw.1 hN he h).mono ?_)
      rintro ex a' w' ⟨hf, e', he', hq⟩
      cases ex with
      | normal =>
        refine (ihy top ro hro _ _ e' a' w' hw.2 (okAll hN hf) he' hq).mono ?_
        rintro ex a₂ w₂ ⟨hf₂, e₂, he₂, hq₂⟩
        exact ⟨hf.trans hf₂, e₂, he₂, hq₂⟩
      | exit id => exact ⟨hf.mono fun s hs => List.mem_append.2 (.inl hs), e', he', hq⟩
      | ret => exact ⟨hf.mono fun s hs => List.mem_append.2 (.inl hs), e', he', hq⟩
    · obtain ⟨R, hM, hK⟩ := joinL_split h
      refine .seq ((ihx top ro hro _ _ e a w hw.1 hN he hM).mono ?_)
      rintro ex a' w' ⟨hf, e', he', hq⟩
      cases ex with
      | normal =>
        obtain ⟨e'', he'', hk⟩ := hK e' a' w' he' hq (agree_kill he hf)
        refine (ihy top ro hro _ _ e'' a' w' hw.2 (okAll hN hf) he'' hk).mono ?_
        rintro ex a₂ w₂ ⟨hf₂, e₂, he₂, hq₂⟩
        exact ⟨hf.trans hf₂, e₂, he₂, hq₂⟩
      | exit id => exact ⟨hf.mono fun s hs => List.mem_append.2 (.inl hs), e', he', hq⟩
      | ret => exact ⟨hf.mono fun s hs => List.mem_append.2 (.inl hs), e', he', hq⟩
  | cond c x y ihx ihy =>
    intro top ro hro n Q e a w hw hN he h
    simp only [wfc, Bool.and_eq_true] at hw
    have hc := ent_ok he c
    have go : ∀ (b : Bool), a.eval c = .bool b → ∀ e, Agree e a → (b = true → tr P top hs x (n + 1) Q e w) → (b = false → tr P top hs y (n + 1 + csize x) Q e w) → WP P ro (.cond c x y) (Post (writes (.cond c x y)) Q a) a w := by
      intro b hb e he h1 h2
      refine .cond hb ?_
      cases b
      · exact (ihy top ro hro _ _ e a w hw.2 hN he (h2 rfl)).mono fun ex a' w' ⟨hf, r⟩ => ⟨hf.mono fun s hs => List.mem_append.2 (.inr hs), r⟩
      · exact (ihx top ro hro _ _ e a w hw.1 hN he (h1 rfl)).mono fun ex a' w' ⟨hf, r⟩ => ⟨hf.mono fun s hs => List.mem_append.2 (.inl hs), r⟩
    have ref : ∀ b, entO e c ≠ .unk → a.eval c = .bool b → Agree (refine1 e c b) a := by
      intro b hne hb
      cases c with
      | tmp t => exact agree_refineT he hne (x := .lit b) hb
      | _ => exact he
    unfold tr at h
    split at h <;> rename_i hx <;> simp only [hx, Ent.ok] at hc
    · exact h.elim
    · exact h.elim
    · rename_i b
      refine go b hc e he ?_ ?_ <;> (rintro rfl; exact h)
    · obtain ⟨b, hb, h1, h2⟩ := h
      have hv := hc.trans hb
      cases b
      · exact go _ hv _ (ref _ (by rw [hx]; simp) hv) (fun h => by cases h) h2
      · exact go _ hv _ (ref _ (by rw [hx]; simp) hv) h1 (fun h => by cases h)
  | block id c ih =>
    intro top ro hro n Q e a w hw hN he h
    unfold tr at h
    refine .block ?_
    split at h
    · refine (ih top ro hro _ _ e a w hw hN he h).mono ?_
      rintro ex a' w' ⟨hf, e', he', hq⟩
      cases ex with
      | normal => exact ⟨hf, e', he', hq⟩
      | ret => exact ⟨hf, e', he', hq⟩
      | exit id' =>
        by_cases hid : id' = id
        · subst hid
          simp only [inBlkE, Nat.beq_refl, cond_true] at hq
          simp only [Ex.inBlk, if_true]
          exact ⟨hf, e', he', hq⟩
        · have hb : Nat.beq id' id = false := by
            cases hb : Nat.beq id' id with
            | true => exact absurd (Nat.eq_of_beq_eq_true hb) hid
            | false => rfl
          simp only [inBlkE, hb, cond_false] at hq
          simp only [Ex.inBlk, hid, if_false]
          exact ⟨hf, e', he', hq⟩
    · obtain ⟨R, hM, hK⟩ := joinL_split h
      refine (ih top ro hro _ _ e a w hw hN he hM).mono ?_
      rintro ex a' w' ⟨hf, e', he', hq⟩
      cases ex with
      | normal => exact ⟨hf, hK e' a' w' he' hq (agree_kill he hf)⟩
      | ret => exact ⟨hf, e', he', hq⟩
      | exit id' =>
        by_cases hid : id' = id
        · subst hid
          simp only [inBlkE, Nat.beq_refl, cond_true] at hq
          simp only [Ex.inBlk, if_true]
          exact ⟨hf, hK e' a' w' he' hq (agree_kill he hf)⟩
        · have hb : Nat.beq id' id = false := by
            cases hb : Nat.beq id' id with
            | true => exact absurd (Nat.eq_of_beq_eq_true hb) hid
            | false => rfl
          simp only [inBlkE, hb, cond_false] at hq
          simp only [Ex.inBlk, hid, if_false]
          exact ⟨hf, e', he', hq⟩
  | loop c ih =>
    intro top ro hro n Q e a w hw hN he h
    unfold tr at h
    split at h
    · exact h.elim
    · obtain ⟨I, μ, h0, hr⟩ := loopL_split he h
      refine .loop (fun a1 w1 => I a1 w1 ∧ Frz (writes c) a a1) μ ⟨h0, Frz.refl _ _⟩ ?_
      rintro a1 w1 ⟨hI, hf1⟩
      obtain ⟨e1, nx, he1, hb, hnx⟩ := hr a1 w1 hI (agree_kill he hf1)
      refine (ih top ro hro _ _ e1 a1 w1 hw (okAll hN hf1) he1 hb).mono ?_
      rintro ex a2 w2 ⟨hf2, e2, he2, hq⟩
      have hf : Frz (writes c) a a2 := (hf1.trans hf2).mono fun s hs => by simpa using hs
      cases ex with
      | normal =>
        obtain ⟨hI2, hlt⟩ := hnx e2 a2 w2 he2 hq
        exact ⟨⟨hI2, hf⟩, hlt⟩
      | exit id => exact ⟨hf, e2, he2, hq⟩
      | ret => exact ⟨hf, e2, he2, hq⟩
  | rangeFunc f params x y ihx ihy =>
    intro top ro hro n Q e a w hw hN he h
    simp only [wfc, Bool.and_eq_true] at hw
    obtain ⟨⟨hwp, hwx⟩, hwy⟩ := hw
    unfold tr at h
    split at h
    · rename_i fv dv hfv hdv
      have hro' : ro = none := hro rfl
      have hev := ent_ok he f
      rw [hfv] at hev
      have hev : a.eval f = fv := hev
      obtain ⟨h⟩ := h
      intro b k cs hb
      have h := h (lpOf { state := .ready, pending := none, fn := b.fn, tmps := a.tmps, params, assign := x, body := y, defers := w.heap.size }) (.func (.yield (w.heap.size + 1)) #[] #[]) ?_
      · obtain ⟨g, us, cs', hgf, hgb, hcalls⟩ := h
        have hst := st_rangeFunc (P := P) (b := b) (a := a) (k := k) (cs := cs) (w := w) (f := f) (params := params) (assign := x) (body := y) (hb.trans hro') (hev.trans hgf) hgb
        have hargs : us.toArray ++ #[Value.func (.yield (w.heap.size + 1)) #[] #[]] ++ cs'.toArray = (us ++ [Value.func (.yield (w.heap.size + 1)) #[] #[]] ++ cs').toArray := by simp
        rw [hargs] at hst
        obtain ⟨en, w3, fr, hR, hs, _, hl⟩ := hcalls (At b { a with defers := { target := .collected w.heap.size, args := #[] } :: a.defers } (.inRangeFunc (w.heap.size + 1) :: k) :: cs)
        cases en with
        | returned v =>
          have hfin : (At b { a with defers := { target := .collected w.heap.size, args := #[] } :: a.defers } (.inRangeFunc (w.heap.size + 1) :: k)).finish v = At b { a with defers := { target := .collected w.heap.size, args := #[] } :: a.defers } (.endRangeFunc (w.heap.size + 1) :: k) := by simp [Frame.finish, At]
          have hgo := Steps.trans (.head hst hs) (.one (hfin ▸ step_leave_returned hl))
          have hfz : Frz [DK] a { a with defers := { target := .collected w.heap.size, args := #[] } :: a.defers } := ⟨rfl, fun s hs => by
            have : s ≠ DK := by simpa using hs
            rw [slot_tmp _ this, slot_tmp _ this]⟩
          have hag : Agree ((DK, .val (dcons w.heap.size dv)) :: e) { a with defers := { target := .collected w.heap.size, args := #[] } :: a.defers } := by
            refine ⟨he.1, fun i => ?_⟩
            rw [Env.get_cons]
            split
            · rename_i hi
              subst hi
              have h1 := he.2 DK
              rw [hdv] at h1
              have h1 : slot a DK = dv := h1
              have h2 : dval a.defers = dv := by rw [← h1]; simp [slot]
              show slot _ DK = _
              unfold slot
              rw [if_pos rfl, ← h2]
              exact dval_cons _ _
            · rename_i hi
              have hi : i ≠ DK := fun e => hi e.symm
              have := he.2 i
              rw [slot_tmp _ hi] at this ⊢
              exact this
          rcases hR with ⟨hh, hq⟩ | ⟨hh, hq⟩ | ⟨id, q, hmem, hh, hq⟩
          · exact ⟨.normal, _, _, ⟨hfz, _, hag, hq⟩, hgo.trans (.one (st_endRange hh (by simp)))⟩
          · cases hr : hasRet y with
            | false => rw [hr] at hq; exact hq.elim
            | true =>
              rw [hr] at hq
              exact ⟨.ret, _, _, ⟨hfz, _, hag, hq⟩, k, hgo.trans (.one (st_endRange hh (by simp)))⟩
          · obtain ⟨id', -, hid⟩ := List.mem_map.1 hmem
            cases hid
            exact ⟨.exit id, _, _, ⟨hfz, _, hag, hq⟩, k, rfl, hgo.trans (.one (st_endRange hh (by simp)))⟩
        | panicked chain => exact hR.elim
        | outgrown => exact hR.elim
      · intro vs w2 K hlen hh2 hM ats ty
        refine ⟨fun ρ hg => ?_⟩
        have hrun : (execOp ρ (mkOper (.call { callee := .value (.const (.func (.yield (w.heap.size + 1)) #[] #[])), args := (vs.map Operand.const).toArray, argTypes := ats }) ty)).run P w2 =
            .ok (.round (w.heap.size + 1) b.fn ((params.toList.zip vs).foldl (fun tmps p => tmps.setIfInBounds p.1 p.2) a.tmps) x y) w2 := by
          have hsz : ¬ (vs.length ≠ params.size) := by simp [hlen]
          have hmap : (vs.map Operand.const).toArray.map ρ = vs.toArray := by
            simp only [List.map_toArray, List.map_map]
            congr 1
            rw [show ρ ∘ Operand.const = id from funext fun v => hg.1 v]
            simp
          have hz : (params.zip vs.toArray).foldl (fun tmps (p : Nat × Value) => tmps.setIfInBounds p.1 p.2) a.tmps = (params.toList.zip vs).foldl (fun tmps p => tmps.setIfInBounds p.1 p.2) a.tmps := by
            rw [← Array.foldl_toList]; simp
          simp only [execOp, mkOper, resolve, hmap, hg.1, Deferred.ofValue]
          simp [invoke, Instr.yield, getLoop_ok hh2, hlen, ← hz]
        rw [hrun]
        refine ⟨fun c cs' => ?_⟩
        let b' : Frame := { (default : Frame) with fn := b.fn, kind := .normal, roundOf := some (w.heap.size + 1) }
        let a' : Act := { tmps := (params.toList.zip vs).foldl (fun tmps p => tmps.setIfInBounds p.1 p.2) a.tmps, defers := [] }
        have hfr : Frame.round (w.heap.size + 1) b.fn ((params.toList.zip vs).foldl (fun tmps p => tmps.setIfInBounds p.1 p.2) a.tmps) x y .normal = At b' a' [.code x, .beginRound, .code y] := by simp [Frame.round, At, b', a']
        rw [hfr]
        have hag0 : Agree ((DK, .unk) :: e) { tmps := a.tmps, defers := [] } := by
          refine ⟨he.1, fun i => ?_⟩
          rw [Env.get_cons]
          split
          · trivial
          · rename_i hi
            have hi : i ≠ DK := fun e => hi e.symm
            have := he.2 i
            rw [slot_tmp _ hi] at this ⊢
            exact this
        have hps : ∀ p ∈ params.toList, p < a.tmps.size := by
          intro p hp
          have := List.all_eq_true.1 hwp p hp
          rw [hN]; simpa [Nat.blt_eq] using this
        have hag : Agree (bindR params.toList 0 vs ((DK, .unk) :: e)) a' := agree_bind params.toList 0 vs vs _ { tmps := a.tmps, defers := [] } hag0 hps (by simp [hlen]) rfl
        have hsz : a'.tmps.size = N := by
          show ((params.toList.zip vs).foldl (fun tmps p => tmps.setIfInBounds p.1 p.2) a.tmps).size = N
          rw [size_bind, hN]
        obtain ⟨ex1, a1, w1, ⟨hf1, e1, he1, hq1⟩, hr1⟩ := ihx false (some (w.heap.size + 1)) (by simp) _ _ _ a' w2 hwx hsz hag hM b' [.beginRound, .code y] (c :: cs') rfl
        cases ex1 with
        | exit id => exact hq1.elim
        | ret => exact hq1.elim
        | normal =>
          obtain ⟨hb1, hq1⟩ := hq1
          have hgo1 := Steps.trans hr1 (.one (st_beginRound (P := P) (b := b') (a := a1) (k := [.code y]) (cs := c :: cs') rfl hb1 rfl))
          obtain ⟨ex2, a2, w4, ⟨hf2, e2, he2, hq2⟩, hr2⟩ := ihy false (some (w.heap.size + 1)) (by simp) _ _ e1 a1 _ hwy (okAll hsz hf1) he1 hq1 b' [] (c :: cs') rfl
          cases ex2 with
          | normal =>
            obtain ⟨hb2, hK⟩ := hq2
            exact ⟨_, _, hK, (hgo1.trans hr2).trans (.one (st_leaveRound (P := P) (b := b') (a := a2) rfl rfl hb2))⟩
          | ret =>
            obtain ⟨hb2, hK⟩ := hq2
            obtain ⟨k', hr2⟩ := hr2
            exact ⟨_, _, hK, (hgo1.trans hr2).trans (.one (st_leaveRet (P := P) (b := b') (a := a2) (L := { state := .busy, pending := none, fn := b.fn, tmps := a.tmps, params, assign := x, body := y, defers := w.heap.size }) rfl rfl hb2))⟩
          | exit id =>
            obtain ⟨hb2, hK⟩ := hq2
            obtain ⟨k', hek, hr2⟩ := hr2
            exact ⟨_, _, hK, (hgo1.trans hr2).trans (.one (st_leaveExit (P := P) (b := b') (a := a2) (L := { state := .busy, pending := none, fn := b.fn, tmps := a.tmps, params, assign := x, body := y, defers := w.heap.size }) rfl rfl hek hb2))⟩
    · exact h.elim
  | _ => exact fun top ro hro n Q e a w _ _ _ h => by simp [tr] at h
theorem get_enterE (vs : List Value) (i j : Nat) : Env.get (enterE i vs) j = if i ≤ j then (match vs[j - i]? with | some v => .val v | none => .unk) else .unk := by
  induction vs generalizing i with
  | nil => simp [enterE, Env.get]
  | cons v vs ih =>
    show Env.get ((i, .val v) :: enterE (i + 1) vs) j = _
    rw [Env.get_cons, ih]
    by_cases h : i = j
    · subst h; simp
    · by_cases h2 : i ≤ j
      · obtain ⟨d, rfl⟩ : ∃ d, j = i + 1 + d := ⟨j - (i + 1), by omega⟩
        have e1 : i + 1 + d - i = d + 1 := by omega
        have e2 : i + 1 + d - (i + 1) = d := by omega
        simp [e1, e2, show ¬ i = i + 1 + d by omega, show i ≤ i + 1 + d by omega]
      · simp [h, h2, show ¬ i + 1 ≤ j by omega]
theorem agree_enter (vs : List Value) (n : Nat) (hn : vs.length + n ≤ DK) : Agree (enterD vs) { tmps := vs.toArray ++ Array.replicate n undef, defers := [] } := by
  refine ⟨by simpa using hn, fun j => ?_⟩
  show (Env.get ((DK, .val (.tuple #[])) :: enterE 0 vs) j).ok _
  rw [Env.get_cons]
  split
  · rename_i hj
    subst hj
    simp [slot, dval, drefs, Ent.ok]
  · rename_i hj
    rw [slot_tmp _ fun e => hj e.symm, get_enterE]
    simp only [Nat.zero_le, if_true, Nat.sub_zero]
    cases h : vs[j]? with
    | none => trivial
    | some v =>
      have hj : j < vs.length := (List.getElem?_eq_some_iff.1 h).1
      simp only [Ent.ok, Array.getD_eq_getD_getElem?]
      rw [Array.getElem?_append_left (by simpa using hj)]
      simp [h]
def readR (tmps : Array Value) (r : ResultVar) : Sem Value :=
  match r with
  | .tmp t => pure (tmps.getD t undef)
  | .cell x t => do loadVar t (← asAddr (tmps.getD x undef))
theorem trRes_sound {rs : List ResultVar} {K : Value → World → Prop} {e : Env} {a : Act} {w : World} (he : Agree e a) : ∀ (acc : List Value), trRes P rs acc K e w →
    ∃ vs : List Value, (rs.mapM (readR a.tmps)).run P w = Result.ok vs w ∧ K (pack (acc.reverse ++ vs)) w := by
  induction rs with
  | nil => exact fun acc h => ⟨[], rfl, by simpa [trRes] using h⟩
  | cons r rs ih =>
    intro acc h
    cases r with
    | tmp t =>
      have h' := tvget_some he h
      obtain ⟨vs, hr, hk⟩ := ih _ h'
      refine ⟨a.tmps.getD t undef :: vs, ?_, by simpa using hk⟩
      rw [List.mapM_cons]
      simp only [readR, Sem.run_bind, pure_bind]
      rw [hr]; rfl
    | cell x t =>
      have h' := tvget_some he h
      obtain ⟨ad, v, hv, hl, hk'⟩ := h'
      obtain ⟨vs, hr, hk⟩ := ih _ hk'
      refine ⟨v :: vs, ?_, by simpa using hk⟩
      rw [List.mapM_cons]
      simp only [readR, hv, Sem.run_bind, asAddr, pure_bind, hl, Result.andThen_ok]
      rw [hr]; rfl
theorem results_run {fn : Func} {tmps : Array Value} {w : World} {vs : List Value} (h : (fn.results.toList.mapM (readR tmps)).run P w = Result.ok vs w) :
    (results fn tmps).run P w = .ok (pack vs) w := by
  have e : results fn tmps = (do let vs ← fn.results.mapM (readR tmps); pure (if h : vs.size = 1 then vs[0] else .tuple vs)) := rfl
  rw [e, Array.mapM_eq_mapM_toList]
  simp only [Sem.run_bind, map_eq_pure_bind, bind_assoc, pure_bind, h]
  match vs with
  | [] => rfl
  | [v] => rfl
  | u :: v :: l => rfl
theorem close_steps {M : World → Prop} {cs : List Frame} : ∀ (ds : List Deferred) (fr : Frame) (w : World), fr.defers = ds → fr.mode = .returning → closeV (dval ds) M w →
    ∃ w2, M w2 ∧ Steps P (lone fr cs w) (lone { fr with defers := [] } cs w2)
  | [], fr, w, hd, hm, h => by
    refine ⟨w, by simpa [closeV, dval, drefs, closeA] using h, ?_⟩
    have : { fr with defers := [] } = fr := by rw [← hd]
    rw [this]
    exact .refl _ _
  | d :: ds, fr, w, hd, hm, h => by
    cases hr : dref d with
    | none => simp [closeV, dval, drefs, hr] at h
    | some r =>
      have ht : d.target = .collected r := by
        unfold dref at hr
        split at hr
        · rename_i r' h'; cases hr; exact h'
        · cases hr
      cases hrs : drefs ds with
      | none => simp [closeV, dval, drefs, hr, hrs] at h
      | some rs =>
        simp only [closeV, dval, drefs, hr, hrs, List.map_cons, closeA, Int.toNat_natCast] at h
        obtain ⟨h1, h2⟩ := h
        obtain ⟨w2, h3, h4⟩ := close_steps ds { fr with defers := ds } (setBlk w r (.deferred none)) rfl hm (by simpa [closeV, dval, hrs] using h2)
        exact ⟨w2, h3, .head (st_collect ht hd hm h1) h4⟩
theorem calls_of_tr (hm : P.follows .mixedOrders = true) {f : FuncId} {fn : Func} {c : Code} {args : List Value} {w : World} {K : Value → World → Prop} {hs : Hints} (hf : P.funcs[f]? = some fn) (hb : fn.body = some c)
    (hN : wfc fn.ntmps c = true) (hD : fn.ntmps ≤ DK) (ha : args.length ≤ fn.ntmps) (h : tr P true hs c 0 (retQ P fn.results.toList K) (enterD args) w) : Calls P f args.toArray w (retK K) := by
  intro cs
  let b : Frame := { (default : Frame) with fn := f, kind := .normal, roundOf := none }
  have henter : Frame.enter P f args.toArray .normal = At b { tmps := args.toArray ++ Array.replicate (fn.ntmps - args.length) undef, defers := [] } [.code c] := by
    simp [Frame.enter, At, hf, hb, b]
  obtain ⟨e, a', w', ⟨hfz, e', he', hq⟩, hr⟩ := tr_sound hm c true none (fun _ => rfl) 0 _ _ { tmps := args.toArray ++ Array.replicate (fn.ntmps - args.length) undef, defers := [] } w hN (by simp; omega) (agree_enter _ _ (by omega)) h b [] cs rfl
  rw [← henter] at hr
  have fin : ∀ (fr : Frame), fr.defers = a'.defers → fr.mode = .returning → (vget e' DK fun v => closeV v (fun w => trRes P fn.results.toList [] K e' w) w') → ∃ v w2, K v w2 ∧ (results fn a'.tmps).run P w2 = .ok v w2 ∧ Steps P (lone fr cs w') (lone { fr with defers := [] } cs w2) := by
    intro fr hd hmd ht
    have ht := vget_some he' ht
    have hsl : slot a' DK = dval a'.defers := by simp [slot]
    rw [hsl] at ht
    obtain ⟨w2, ht2, hs2⟩ := close_steps (P := P) (cs := cs) a'.defers fr w' hd hmd ht
    obtain ⟨vs, hm, hk⟩ := trRes_sound he' [] ht2
    exact ⟨_, w2, hk, results_run hm, hs2⟩
  cases e with
  | normal =>
    obtain ⟨v, w2, hk, hres, hs2⟩ := fin { At b a' [] with mode := .returning } rfl rfl hq
    refine ⟨.returned v, w2, _, hk, (Steps.trans hr (.one ?_)).trans hs2, rfl, rfl, rfl, rfl, fn, hf, hres⟩
    exact step_lone_go (by simp [stepG, stepG.exec, At, b])
  | ret =>
    obtain ⟨k', hr⟩ := hr
    obtain ⟨v, w2, hk, hres, hs2⟩ := fin { At b a' (.code .ret :: k') with mode := .returning } rfl rfl hq
    refine ⟨.returned v, w2, _, hk, (Steps.trans hr (.one ?_)).trans hs2, rfl, rfl, rfl, rfl, fn, hf, hres⟩
    exact step_lone_go (by simp [stepG, stepG.exec, At, b])
  | exit id => exact hq.elim
end
end Lyc
namespace Lyc
open Go
def cellAt (x : Option Obj) (o : Nat) : Option Value := match x with | some (.cells c _ _) => c[o]? | _ => none
def aggAt (x : Option Obj) (o n : Nat) : Option (Array Value) := match x with | some (.cells c _ _) => if o + n ≤ c.size then some (c.extract o (o + n)) else none | _ => none
def spl (c : Array Value) (o : Nat) (vs : List Value) : Array Value := (c.toList.take o ++ vs ++ c.toList.drop (o + vs.length)).toArray
def putAt (x : Option Obj) (o : Nat) (vs : List Value) : Option Obj :=
  match x with
  | some (.cells c e (0, 0)) => if o + vs.length ≤ c.size then some (.cells (spl c o vs) e) else none
  | _ => none
@[go_sem] theorem cellAt_cells (c : Array Value) (e : TypeId) (fr : Nat × Nat) (o : Nat) : cellAt (some (.cells c e fr)) o = c[o]? := rfl
@[go_sem] theorem aggAt_cells (c : Array Value) (e : TypeId) (fr : Nat × Nat) (o n : Nat) : aggAt (some (.cells c e fr)) o n = if o + n ≤ c.size then some (c.extract o (o + n)) else none := rfl
@[go_sem] theorem putAt_cells (c : Array Value) (e : TypeId) (o : Nat) (vs : List Value) : putAt (some (.cells c e (0, 0))) o vs = if o + vs.length ≤ c.size then some (.cells (spl c o vs) e) else none := rfl
@[go_sem] theorem spl_list (l : List Value) (o : Nat) (vs : List Value) : spl l.toArray o vs = (l.take o ++ vs ++ l.drop (o + vs.length)).toArray := rfl
@[go_sem] theorem heap_alloc_new (w : World) (o : Obj) (b : Nat) (h : b = w.heap.size) : (w.alloc o).heap[b]? = some o := by subst h; unfold World.alloc; simp
@[go_sem] theorem heap_alloc_old (w : World) (o : Obj) (b : Nat) (h : b < w.heap.size) : (w.alloc o).heap[b]? = w.heap[b]? := by
  simp only [World.alloc, Array.getElem?_push]; rw [if_neg (by omega)]
attribute [go_sem] World.size_alloc World.size_drew
@[go_sem] theorem heap_drew (w : World) (b : Nat) : w.drew.heap[b]? = w.heap[b]? := rfl
@[go_sem] theorem heap_set_same (w : World) (b : Nat) (o : Obj) (c : Nat) (h : c = b) (hb : b < w.heap.size) : (setBlk w b o).heap[c]? = some o := by subst h; simp [setBlk, hb]
@[go_sem] theorem heap_set_other (w : World) (b : Nat) (o : Obj) (c : Nat) (h : c ≠ b) : (setBlk w b o).heap[c]? = w.heap[c]? := by
  simp only [setBlk]; rw [Array.getElem?_setIfInBounds_ne (Ne.symm h)]
@[go_sem] theorem size_setBlk (w : World) (b : Nat) (o : Obj) : (setBlk w b o).heap.size = w.heap.size := by simp [setBlk]
@[go_sem] theorem setBlk_drew (w : World) (b : Nat) (o : Obj) : setBlk w.drew b o = (setBlk w b o).drew := rfl
theorem alloc_drew (w : World) (o : Obj) : w.drew.alloc o = (w.alloc o).drew := rfl
@[go_sem] theorem setBlk_setBlk (w : World) (b : Nat) (o o' : Obj) : setBlk (setBlk w b o) b o' = setBlk w b o' := by simp [setBlk]
@[go_sem] theorem setBlk_alloc_new (w : World) (o o' : Obj) (b : Nat) (h : b = w.heap.size) : setBlk (w.alloc o) b o' = w.alloc o' := by
  subst h; simp only [setBlk, World.alloc]
  congr 1
  apply Array.ext_getElem?
  intro i
  simp only [Array.getElem?_setIfInBounds, Array.getElem?_push, Array.size_push]
  by_cases hi : w.heap.size = i
  · subst hi; simp
  · have : ¬ i = w.heap.size := fun e => hi e.symm
    simp [hi, this]
@[go_sem] theorem setBlk_alloc_old (w : World) (o o' : Obj) (b : Nat) (h : b < w.heap.size) : setBlk (w.alloc o) b o' = (setBlk w b o').alloc o := by
  simp only [setBlk, World.alloc]
  congr 1
  apply Array.ext_getElem?
  intro i
  simp only [Array.getElem?_setIfInBounds, Array.getElem?_push, Array.size_push, Array.size_setIfInBounds]
  by_cases hi : b = i
  · subst hi; simp [h, Nat.ne_of_lt h, Nat.lt_succ_of_lt h]
  · simp [hi]
theorem lt_of_heap {w : World} {b : Nat} {o : Obj} (h : w.heap[b]? = some o) : b < w.heap.size := (Array.getElem?_eq_some_iff.1 h).1
@[go_sem] theorem cell?_at (w : World) (b o : Nat) : w.cell? ⟨b, o, none⟩ = cellAt w.heap[b]? o := by
  unfold World.cell? cellAt
  cases w.heap[b]? with
  | none => rfl
  | some x => cases x <;> rfl
def tsize (P : Program) (t : TypeId) : Option Nat := (P.info? t).map (·.size)
def tbytes (P : Program) (t : TypeId) : Option Nat := (P.info? t).map (·.bytes)
def tzero (P : Program) (t : TypeId) : Option Value := (P.info? t).bind (·.zero)
def tagg (P : Program) (t : TypeId) : Option Bool := (P.underlying t).map fun | .struct _ => true | .array _ _ => true | _ => false
def tkind (P : Program) (t : TypeId) : Option Nat := (P.underlying t).map fun | .slice _ => 1 | .array _ _ => 2 | .string => 3 | .pointer _ => 4 | .map _ _ => 5 | .chan _ _ => 6 | .struct _ => 7 | .int _ => 8 | .bool => 9 | .interface _ => 10 | .func _ _ _ => 11 | _ => 0
def telem (P : Program) (t : TypeId) : Option Nat := (P.underlying t).bind fun | .slice e => some e | .array _ e => some e | .pointer e => some e | .chan _ e => some e | .map _ e => some e | _ => none
def tlen (P : Program) (t : TypeId) : Option Nat := (P.underlying t).bind fun | .array n _ => some n | _ => none
def tint (P : Program) (t : TypeId) : Option IntKind := (P.underlying t).bind fun | .int k => some k | _ => none
def tfield (P : Program) (t : TypeId) (i : Nat) : Option (Nat × Nat) := (P.underlying t).bind fun | .struct fs => (fs[i]?).bind fun f => (P.info? f.type).map fun j => (f.offset, j.size) | _ => none
def tfields (P : Program) (t : TypeId) : Option (List (Nat × Nat)) := (P.underlying t).bind fun | .struct fs => fs.toList.mapM fun f => (P.info? f.type).map fun j => (f.offset, j.size) | _ => none
def tftype (P : Program) (t : TypeId) (i : Nat) : Option TypeId := (P.underlying t).bind fun | .struct fs => (fs[i]?).map (·.type) | _ => none
def tfo (P : Program) (t : TypeId) (i : Nat) : Option Nat := (tfield P t i).bind fun p => if p.2 = 0 then none else some p.1
def tslice (P : Program) (t : TypeId) : Option Nat := (P.underlying t).bind fun | .slice e => tsize P e | _ => none
def tarr (P : Program) (t : TypeId) : Option (Nat × Nat) := (P.underlying t).bind fun | .array n e => (tsize P e).map fun m => (n, m) | _ => none
def tsizeA (P : Program) (t : TypeId) : Option Nat := (tagg P t).bind fun b => bif b then tsize P t else none
def tchan (P : Program) (t : TypeId) : Option Unit := (P.underlying t).bind fun | .chan _ e => (tbytes P e).bind fun n => if n ≤ 1000000 then some () else none | _ => none
def tconv (P : Program) (s t : TypeId) : Option IntKind := (tkind P s).bind fun _ => tint P t
def OrK {α : Type} (x : Option α) (f : α → Prop) (d : Prop) (_ : UK2 f d) : Prop := match x with | some a => f a | none => d
@[go_sem] theorem OrK_some {α : Type} (a : α) (f : α → Prop) (d : Prop) : OrK (some a) f d () = f a := rfl
theorem OrK_by {α : Type} {x : Option α} {f : α → Prop} {d : Prop} {X : Prop} (h : ∀ a, x = some a → X = f a) (hd : d = X) : X = OrK x f d () := by
  cases x with
  | none => exact hd.symm
  | some a => exact h a rfl
section
variable {P : Program}
theorem run_isAgg {t : TypeId} {b : Bool} (h : tagg P t = some b) (w : World) : (isAgg t).run P w = .ok b w := by
  unfold tagg at h
  cases hu : P.underlying t with
  | none => rw [hu] at h; simp at h
  | some d =>
    rw [hu] at h
    simp only [Option.map_some, Option.some.injEq] at h
    unfold isAgg
    simp only [Sem.run_bind, run_underlying hu, Result.andThen_ok]
    cases d <;> simp at h ⊢ <;> exact h
theorem run_size {t : TypeId} {n : Nat} (h : tsize P t = some n) (w : World) : (Go.sizeOf t).run P w = .ok n w := by
  unfold tsize at h
  cases hi : P.info? t with
  | none => rw [hi] at h; simp at h
  | some i => rw [hi] at h; simp at h; rw [run_sizeOf w hi]; simp [Program.cellsOf, hi, h]
theorem run_info {t : TypeId} {n : Nat} (h : tbytes P t = some n) (w : World) : ∃ i, (typeInfo t).run P w = .ok i w ∧ i.bytes = n := by
  unfold tbytes at h
  cases hi : P.info? t with
  | none => rw [hi] at h; simp at h
  | some i => rw [hi] at h; simp at h; exact ⟨i, run_typeInfo w hi, h⟩
theorem run_zero {t : TypeId} {z : Value} (h : tzero P t = some z) (w : World) : (zeroValue t).run P w = .ok z w := by
  unfold tzero at h
  cases hi : P.info? t with
  | none => rw [hi] at h; simp at h
  | some i =>
    rw [hi] at h; simp at h
    unfold zeroValue
    simp only [Sem.run_bind, run_typeInfo w hi, Result.andThen_ok, h]
    rfl
theorem OpX_ok {op : Op} {ty : TypeId} {K : Value → World → Prop} {w w' : World} {v : Value} (h : ∀ ρ, Good ρ → (execOp ρ (mkOper op ty)).run P w = .ok (.value v) w') : OpX P op ty K w = K v w' := by
  apply propext
  constructor
  · rintro ⟨hx⟩
    have := hx (fun | .const v => v | .global g => .pointer (some ⟨g, 0, none⟩) | .func f => .func (.func f) #[] #[] | .tmp _ => undef) ⟨fun _ => rfl, fun _ => rfl, fun _ => rfl⟩
    rw [h _ ⟨fun _ => rfl, fun _ => rfl, fun _ => rfl⟩] at this
    exact this
  · exact fun hk => ⟨fun ρ hg => by rw [h ρ hg]; exact hk⟩
theorem OpX_skip {op : Op} {ty : TypeId} {K : Value → World → Prop} {w w' : World} (h : ∀ ρ, Good ρ → (execOp ρ (mkOper op ty)).run P w = .ok .skip w') : OpX P op ty K w = K undef w' := by
  apply propext
  constructor
  · rintro ⟨hx⟩
    have := hx (fun | .const v => v | .global g => .pointer (some ⟨g, 0, none⟩) | .func f => .func (.func f) #[] #[] | .tmp _ => undef) ⟨fun _ => rfl, fun _ => rfl, fun _ => rfl⟩
    rw [h _ ⟨fun _ => rfl, fun _ => rfl, fun _ => rfl⟩] at this
    exact this
  · exact fun hk => ⟨fun ρ hg => by rw [h ρ hg]; exact hk⟩
theorem PurX_ok {op : Op} {ty : TypeId} {K : Value → Prop} {v : Value} (h : ∀ ρ, Good ρ → ∀ w, (execOp ρ (mkOper op ty)).run P w = .ok (.value v) w) : PurX P op ty K () = K v := by
  apply propext
  constructor
  · rintro ⟨u, hu, hk⟩
    have hg : Good (fun | .const v => v | .global g => .pointer (some ⟨g, 0, none⟩) | .func f => .func (.func f) #[] #[] | .tmp _ => undef) := ⟨fun _ => rfl, fun _ => rfl, fun _ => rfl⟩
    have := hu _ hg default
    rw [h _ hg] at this
    cases this
    exact hk
  · exact fun hk => ⟨v, h, hk⟩
theorem Yld_ok {op : Op} {ty : TypeId} {u v : Value} {w : World} (h : ∀ ρ, Good ρ → (execOp ρ (mkOper op ty)).run P w = .ok (.value v) w) : Yld P op ty u w = (u = v) := by
  apply propext
  constructor
  · rintro ⟨hu⟩
    have hg : Good (fun | .const v => v | .global g => .pointer (some ⟨g, 0, none⟩) | .func f => .func (.func f) #[] #[] | .tmp _ => undef) := ⟨fun _ => rfl, fun _ => rfl, fun _ => rfl⟩
    have := hu _ hg
    rw [h _ hg] at this
    cases this; rfl
  · rintro rfl; exact ⟨h⟩
theorem RdX_ok {op : Op} {ty : TypeId} {K : Value → Prop} {v : Value} {w : World} (h : ∀ ρ, Good ρ → (execOp ρ (mkOper op ty)).run P w = .ok (.value v) w) : RdX P op ty K w = K v := by
  apply propext
  constructor
  · rintro ⟨u, hu, hk⟩
    rw [Yld_ok h] at hu; subst hu; exact hk
  · exact fun hk => ⟨v, ⟨h⟩, hk⟩
theorem BinX_ok {op : BinOp} {t : TypeId} {a b v : Value} {K : Value → World → Prop} {w w' : World} (h : ∀ x y, (binS op t a b x y).run P w = .ok (.value v) w') : BinX P op t a b K w = K v w' := by
  apply propext
  constructor
  · rintro ⟨hx⟩
    have := hx (.const undef) (.const undef)
    have e := h (.const undef) (.const undef)
    unfold binS at e
    rw [e] at this
    exact this
  · exact fun hk => ⟨fun x y => by have e := h x y; unfold binS at e; rw [e]; exact hk⟩
theorem PurB_ok {op : BinOp} {t : TypeId} {a b v : Value} {K : Value → Prop} (h : ∀ x y w, (binS op t a b x y).run P w = .ok (.value v) w) : PurB P op t a b K () = K v := by
  apply propext
  constructor
  · rintro ⟨u, hu, hk⟩
    have := hu (.const undef) (.const undef) default
    rw [h] at this
    cases this
    exact hk
  · exact fun hk => ⟨v, h, hk⟩
theorem YldB_ok {op : BinOp} {t : TypeId} {a b u v : Value} {w : World} (h : ∀ x y, (binS op t a b x y).run P w = .ok (.value v) w) : YldB P op t a b u w = (u = v) := by
  apply propext
  constructor
  · rintro ⟨hu⟩
    have := hu (.const undef) (.const undef)
    rw [h] at this
    cases this; rfl
  · rintro rfl; exact ⟨h⟩
theorem RdB_ok {op : BinOp} {t : TypeId} {a b v : Value} {K : Value → Prop} {w : World} (h : ∀ x y, (binS op t a b x y).run P w = .ok (.value v) w) : RdB P op t a b K w = K v := by
  apply propext
  constructor
  · rintro ⟨u, hu, hk⟩
    rw [YldB_ok h] at hu; subst hu; exact hk
  · exact fun hk => ⟨v, ⟨h⟩, hk⟩
@[go_sem] theorem BrW_true (A B : Prop) : BrW (.bool true) A B () = A := propext ⟨fun ⟨_, hv, ht, _⟩ => by cases hv; exact ht rfl, fun h => ⟨true, rfl, fun _ => h, (fun h => by cases h)⟩⟩
@[go_sem] theorem BrW_false (A B : Prop) : BrW (.bool false) A B () = B := propext ⟨fun ⟨_, hv, _, hf⟩ => by cases hv; exact hf rfl, fun h => ⟨false, rfl, (fun h => by cases h), fun _ => h⟩⟩
theorem BrW.by {b : Bool} {A B : Prop} (ht : b = true → A) (hf : b = false → B) : BrW (.bool b) A B () := ⟨b, rfl, ht, hf⟩
theorem BrW.dec {p : Prop} [Decidable p] {A B : Prop} (ht : p → A) (hf : ¬ p → B) : BrW (.bool (decide p)) A B () := ⟨decide p, rfl, fun h => ht (of_decide_eq_true h), fun h => hf (of_decide_eq_false h)⟩
theorem BrW.beq {α : Type} [BEq α] [LawfulBEq α] {x y : α} {A B : Prop} (ht : x = y → A) (hf : x ≠ y → B) : BrW (.bool (x == y)) A B () := ⟨x == y, rfl, fun h => ht (eq_of_beq h), fun h => hf (by simpa using h)⟩
theorem BrW.bne {α : Type} [BEq α] [LawfulBEq α] {x y : α} {A B : Prop} (ht : x ≠ y → A) (hf : x = y → B) : BrW (.bool (!(x == y))) A B () := ⟨!(x == y), rfl, fun h => ht (by simpa using h), fun h => hf (by simpa using h)⟩
theorem Join0.inl {M : (World → Prop) → World → Prop} {K : World → Prop} {w : World} (h : M K w) : Join0 M K w := ⟨K, h, fun _ h => h⟩
theorem Join0.cut {M : (World → Prop) → World → Prop} {K : World → Prop} {w : World} (R : World → Prop) (h : M R w) (hk : ∀ w', R w' → K w') : Join0 M K w := ⟨R, h, hk⟩
theorem Join1.inl {M : (Value → World → Prop) → World → Prop} {K : Value → World → Prop} {w : World} (h : M K w) : Join1 M K w := ⟨K, h, fun _ _ h => h⟩
theorem Join1.cut {M : (Value → World → Prop) → World → Prop} {K : Value → World → Prop} {w : World} (R : Value → World → Prop) (h : M R w) (hk : ∀ u0 w', R u0 w' → K u0 w') : Join1 M K w := ⟨R, h, hk⟩
theorem Join2.inl {M : (Value → Value → World → Prop) → World → Prop} {K : Value → Value → World → Prop} {w : World} (h : M K w) : Join2 M K w := ⟨K, h, fun _ _ _ h => h⟩
theorem Join2.cut {M : (Value → Value → World → Prop) → World → Prop} {K : Value → Value → World → Prop} {w : World} (R : Value → Value → World → Prop) (h : M R w) (hk : ∀ u0 u1 w', R u0 u1 w' → K u0 u1 w') : Join2 M K w := ⟨R, h, hk⟩
theorem Join3.inl {M : (Value → Value → Value → World → Prop) → World → Prop} {K : Value → Value → Value → World → Prop} {w : World} (h : M K w) : Join3 M K w := ⟨K, h, fun _ _ _ _ h => h⟩
theorem Join3.cut {M : (Value → Value → Value → World → Prop) → World → Prop} {K : Value → Value → Value → World → Prop} {w : World} (R : Value → Value → Value → World → Prop) (h : M R w) (hk : ∀ u0 u1 u2 w', R u0 u1 u2 w' → K u0 u1 u2 w') : Join3 M K w := ⟨R, h, hk⟩
theorem Join4.inl {M : (Value → Value → Value → Value → World → Prop) → World → Prop} {K : Value → Value → Value → Value → World → Prop} {w : World} (h : M K w) : Join4 M K w := ⟨K, h, fun _ _ _ _ _ h => h⟩
theorem Join4.cut {M : (Value → Value → Value → Value → World → Prop) → World → Prop} {K : Value → Value → Value → Value → World → Prop} {w : World} (R : Value → Value → Value → Value → World → Prop) (h : M R w) (hk : ∀ u0 u1 u2 u3 w', R u0 u1 u2 u3 w' → K u0 u1 u2 u3 w') : Join4 M K w := ⟨R, h, hk⟩
theorem Join5.inl {M : (Value → Value → Value → Value → Value → World → Prop) → World → Prop} {K : Value → Value → Value → Value → Value → World → Prop} {w : World} (h : M K w) : Join5 M K w := ⟨K, h, fun _ _ _ _ _ _ h => h⟩
theorem Join5.cut {M : (Value → Value → Value → Value → Value → World → Prop) → World → Prop} {K : Value → Value → Value → Value → Value → World → Prop} {w : World} (R : Value → Value → Value → Value → Value → World → Prop) (h : M R w) (hk : ∀ u0 u1 u2 u3 u4 w', R u0 u1 u2 u3 u4 w' → K u0 u1 u2 u3 u4 w') : Join5 M K w := ⟨R, h, hk⟩
theorem Join6.inl {M : (Value → Value → Value → Value → Value → Value → World → Prop) → World → Prop} {K : Value → Value → Value → Value → Value → Value → World → Prop} {w : World} (h : M K w) : Join6 M K w := ⟨K, h, fun _ _ _ _ _ _ _ h => h⟩
theorem Join6.cut {M : (Value → Value → Value → Value → Value → Value → World → Prop) → World → Prop} {K : Value → Value → Value → Value → Value → Value → World → Prop} {w : World} (R : Value → Value → Value → Value → Value → Value → World → Prop) (h : M R w) (hk : ∀ u0 u1 u2 u3 u4 u5 w', R u0 u1 u2 u3 u4 u5 w' → K u0 u1 u2 u3 u4 u5 w') : Join6 M K w := ⟨R, h, hk⟩
theorem Join7.inl {M : (Value → Value → Value → Value → Value → Value → Value → World → Prop) → World → Prop} {K : Value → Value → Value → Value → Value → Value → Value → World → Prop} {w : World} (h : M K w) : Join7 M K w := ⟨K, h, fun _ _ _ _ _ _ _ _ h => h⟩
theorem Join7.cut {M : (Value → Value → Value → Value → Value → Value → Value → World → Prop) → World → Prop} {K : Value → Value → Value → Value → Value → Value → Value → World → Prop} {w : World} (R : Value → Value → Value → Value → Value → Value → Value → World → Prop) (h : M R w) (hk : ∀ u0 u1 u2 u3 u4 u5 u6 w', R u0 u1 u2 u3 u4 u5 u6 w' → K u0 u1 u2 u3 u4 u5 u6 w') : Join7 M K w := ⟨R, h, hk⟩
theorem Join8.inl {M : (Value → Value → Value → Value → Value → Value → Value → Value → World → Prop) → World → Prop} {K : Value → Value → Value → Value → Value → Value → Value → Value → World → Prop} {w : World} (h : M K w) : Join8 M K w := ⟨K, h, fun _ _ _ _ _ _ _ _ _ h => h⟩
theorem Join8.cut {M : (Value → Value → Value → Value → Value → Value → Value → Value → World → Prop) → World → Prop} {K : Value → Value → Value → Value → Value → Value → Value → Value → World → Prop} {w : World} (R : Value → Value → Value → Value → Value → Value → Value → Value → World → Prop) (h : M R w) (hk : ∀ u0 u1 u2 u3 u4 u5 u6 u7 w', R u0 u1 u2 u3 u4 u5 u6 u7 w' → K u0 u1 u2 u3 u4 u5 u6 u7 w') : Join8 M K w := ⟨R, h, hk⟩
theorem Loop0.by {body : (World → Prop) → World → Prop} {w : World} (I : World → Prop) (μ : World → Nat) (h0 : I w)
    (round : ∀ w, I w → body (fun w' => I w' ∧ μ w' < μ w) w) : Loop0 body w := ⟨I, μ, h0, round⟩
theorem Loop1.by {s0 : Value} {body : Value → (Value → World → Prop) → World → Prop} {w : World} (I : Value → World → Prop) (μ : Value → World → Nat) (h0 : I s0 w)
    (round : ∀ v0 w, I v0 w → body v0 (fun u0 w' => I u0 w' ∧ μ u0 w' < μ v0 w) w) : Loop1 s0 body w := ⟨I, μ, h0, round⟩
theorem Loop2.by {s0 s1 : Value} {body : Value → Value → (Value → Value → World → Prop) → World → Prop} {w : World} (I : Value → Value → World → Prop) (μ : Value → Value → World → Nat) (h0 : I s0 s1 w)
    (round : ∀ v0 v1 w, I v0 v1 w → body v0 v1 (fun u0 u1 w' => I u0 u1 w' ∧ μ u0 u1 w' < μ v0 v1 w) w) : Loop2 s0 s1 body w := ⟨I, μ, h0, round⟩
theorem Loop3.by {s0 s1 s2 : Value} {body : Value → Value → Value → (Value → Value → Value → World → Prop) → World → Prop} {w : World} (I : Value → Value → Value → World → Prop) (μ : Value → Value → Value → World → Nat) (h0 : I s0 s1 s2 w)
    (round : ∀ v0 v1 v2 w, I v0 v1 v2 w → body v0 v1 v2 (fun u0 u1 u2 w' => I u0 u1 u2 w' ∧ μ u0 u1 u2 w' < μ v0 v1 v2 w) w) : Loop3 s0 s1 s2 body w := ⟨I, μ, h0, round⟩
theorem Loop4.by {s0 s1 s2 s3 : Value} {body : Value → Value → Value → Value → (Value → Value → Value → Value → World → Prop) → World → Prop} {w : World} (I : Value → Value → Value → Value → World → Prop) (μ : Value → Value → Value → Value → World → Nat) (h0 : I s0 s1 s2 s3 w)
    (round : ∀ v0 v1 v2 v3 w, I v0 v1 v2 v3 w → body v0 v1 v2 v3 (fun u0 u1 u2 u3 w' => I u0 u1 u2 u3 w' ∧ μ u0 u1 u2 u3 w' < μ v0 v1 v2 v3 w) w) : Loop4 s0 s1 s2 s3 body w := ⟨I, μ, h0, round⟩
theorem Loop5.by {s0 s1 s2 s3 s4 : Value} {body : Value → Value → Value → Value → Value → (Value → Value → Value → Value → Value → World → Prop) → World → Prop} {w : World} (I : Value → Value → Value → Value → Value → World → Prop) (μ : Value → Value → Value → Value → Value → World → Nat) (h0 : I s0 s1 s2 s3 s4 w)
    (round : ∀ v0 v1 v2 v3 v4 w, I v0 v1 v2 v3 v4 w → body v0 v1 v2 v3 v4 (fun u0 u1 u2 u3 u4 w' => I u0 u1 u2 u3 u4 w' ∧ μ u0 u1 u2 u3 u4 w' < μ v0 v1 v2 v3 v4 w) w) : Loop5 s0 s1 s2 s3 s4 body w := ⟨I, μ, h0, round⟩
theorem Loop6.by {s0 s1 s2 s3 s4 s5 : Value} {body : Value → Value → Value → Value → Value → Value → (Value → Value → Value → Value → Value → Value → World → Prop) → World → Prop} {w : World} (I : Value → Value → Value → Value → Value → Value → World → Prop) (μ : Value → Value → Value → Value → Value → Value → World → Nat) (h0 : I s0 s1 s2 s3 s4 s5 w)
    (round : ∀ v0 v1 v2 v3 v4 v5 w, I v0 v1 v2 v3 v4 v5 w → body v0 v1 v2 v3 v4 v5 (fun u0 u1 u2 u3 u4 u5 w' => I u0 u1 u2 u3 u4 u5 w' ∧ μ u0 u1 u2 u3 u4 u5 w' < μ v0 v1 v2 v3 v4 v5 w) w) : Loop6 s0 s1 s2 s3 s4 s5 body w := ⟨I, μ, h0, round⟩
theorem Loop7.by {s0 s1 s2 s3 s4 s5 s6 : Value} {body : Value → Value → Value → Value → Value → Value → Value → (Value → Value → Value → Value → Value → Value → Value → World → Prop) → World → Prop} {w : World} (I : Value → Value → Value → Value → Value → Value → Value → World → Prop) (μ : Value → Value → Value → Value → Value → Value → Value → World → Nat) (h0 : I s0 s1 s2 s3 s4 s5 s6 w)
    (round : ∀ v0 v1 v2 v3 v4 v5 v6 w, I v0 v1 v2 v3 v4 v5 v6 w → body v0 v1 v2 v3 v4 v5 v6 (fun u0 u1 u2 u3 u4 u5 u6 w' => I u0 u1 u2 u3 u4 u5 u6 w' ∧ μ u0 u1 u2 u3 u4 u5 u6 w' < μ v0 v1 v2 v3 v4 v5 v6 w) w) : Loop7 s0 s1 s2 s3 s4 s5 s6 body w := ⟨I, μ, h0, round⟩
theorem Loop8.by {s0 s1 s2 s3 s4 s5 s6 s7 : Value} {body : Value → Value → Value → Value → Value → Value → Value → Value → (Value → Value → Value → Value → Value → Value → Value → Value → World → Prop) → World → Prop} {w : World} (I : Value → Value → Value → Value → Value → Value → Value → Value → World → Prop) (μ : Value → Value → Value → Value → Value → Value → Value → Value → World → Nat) (h0 : I s0 s1 s2 s3 s4 s5 s6 s7 w)
    (round : ∀ v0 v1 v2 v3 v4 v5 v6 v7 w, I v0 v1 v2 v3 v4 v5 v6 v7 w → body v0 v1 v2 v3 v4 v5 v6 v7 (fun u0 u1 u2 u3 u4 u5 u6 u7 w' => I u0 u1 u2 u3 u4 u5 u6 u7 w' ∧ μ u0 u1 u2 u3 u4 u5 u6 u7 w' < μ v0 v1 v2 v3 v4 v5 v6 v7 w) w) : Loop8 s0 s1 s2 s3 s4 s5 s6 s7 body w := ⟨I, μ, h0, round⟩
theorem Loop9.by {s0 s1 s2 s3 s4 s5 s6 s7 s8 : Value} {body : Value → Value → Value → Value → Value → Value → Value → Value → Value → (Value → Value → Value → Value → Value → Value → Value → Value → Value → World → Prop) → World → Prop} {w : World} (I : Value → Value → Value → Value → Value → Value → Value → Value → Value → World → Prop) (μ : Value → Value → Value → Value → Value → Value → Value → Value → Value → World → Nat) (h0 : I s0 s1 s2 s3 s4 s5 s6 s7 s8 w)
    (round : ∀ v0 v1 v2 v3 v4 v5 v6 v7 v8 w, I v0 v1 v2 v3 v4 v5 v6 v7 v8 w → body v0 v1 v2 v3 v4 v5 v6 v7 v8 (fun u0 u1 u2 u3 u4 u5 u6 u7 u8 w' => I u0 u1 u2 u3 u4 u5 u6 u7 u8 w' ∧ μ u0 u1 u2 u3 u4 u5 u6 u7 u8 w' < μ v0 v1 v2 v3 v4 v5 v6 v7 v8 w) w) : Loop9 s0 s1 s2 s3 s4 s5 s6 s7 s8 body w := ⟨I, μ, h0, round⟩
theorem Loop10.by {s0 s1 s2 s3 s4 s5 s6 s7 s8 s9 : Value} {body : Value → Value → Value → Value → Value → Value → Value → Value → Value → Value → (Value → Value → Value → Value → Value → Value → Value → Value → Value → Value → World → Prop) → World → Prop} {w : World} (I : Value → Value → Value → Value → Value → Value → Value → Value → Value → Value → World → Prop) (μ : Value → Value → Value → Value → Value → Value → Value → Value → Value → Value → World → Nat) (h0 : I s0 s1 s2 s3 s4 s5 s6 s7 s8 s9 w)
    (round : ∀ v0 v1 v2 v3 v4 v5 v6 v7 v8 v9 w, I v0 v1 v2 v3 v4 v5 v6 v7 v8 v9 w → body v0 v1 v2 v3 v4 v5 v6 v7 v8 v9 (fun u0 u1 u2 u3 u4 u5 u6 u7 u8 u9 w' => I u0 u1 u2 u3 u4 u5 u6 u7 u8 u9 w' ∧ μ u0 u1 u2 u3 u4 u5 u6 u7 u8 u9 w' < μ v0 v1 v2 v3 v4 v5 v6 v7 v8 v9 w) w) : Loop10 s0 s1 s2 s3 s4 s5 s6 s7 s8 s9 body w := ⟨I, μ, h0, round⟩
end
end Lyc
namespace Lyc
open Go
section
variable {P : Program}
structure PureRun (P : Program) (op : Op) (ty : TypeId) (v : Value) : Prop where
  run : ∀ ρ, Good ρ → ∀ w, (execOp ρ (mkOper op ty)).run P w = .ok (.value v) w
theorem PureRun.op {op : Op} {ty : TypeId} {v : Value} (h : PureRun P op ty v) (K : Value → World → Prop) (w : World) : OpX P op ty K w = K v w := OpX_ok fun ρ hg => h.run ρ hg w
theorem PureRun.pur {op : Op} {ty : TypeId} {v : Value} (h : PureRun P op ty v) (K : Value → Prop) : PurX P op ty K () = K v := PurX_ok h.run
theorem PureRun.rd {op : Op} {ty : TypeId} {v : Value} (h : PureRun P op ty v) (K : Value → Prop) (w : World) : RdX P op ty K w = K v := RdX_ok fun ρ hg => h.run ρ hg w
theorem PureRun.yld {op : Op} {ty : TypeId} {v : Value} (h : PureRun P op ty v) (u : Value) (w : World) : Yld P op ty u w = (u = v) := Yld_ok fun ρ hg => h.run ρ hg w
structure PureBin (P : Program) (op : BinOp) (t : TypeId) (a b v : Value) : Prop where
  run : ∀ x y w, (binS op t a b x y).run P w = .ok (.value v) w
theorem PureBin.op {op : BinOp} {t : TypeId} {a b v : Value} (h : PureBin P op t a b v) (K : Value → World → Prop) (w : World) : BinX P op t a b K w = K v w := BinX_ok fun x y => h.run x y w
theorem PureBin.pur {op : BinOp} {t : TypeId} {a b v : Value} (h : PureBin P op t a b v) (K : Value → Prop) : PurB P op t a b K () = K v := PurB_ok h.run
theorem PureBin.rd {op : BinOp} {t : TypeId} {a b v : Value} (h : PureBin P op t a b v) (K : Value → Prop) (w : World) : RdB P op t a b K w = K v := RdB_ok fun x y => h.run x y w
theorem PureBin.yld {op : BinOp} {t : TypeId} {a b v : Value} (h : PureBin P op t a b v) (u : Value) (w : World) : YldB P op t a b u w = (u = v) := YldB_ok fun x y => h.run x y w
theorem binS_int (op : BinOp) (t : TypeId) (k k' : IntKind) (a b : Int) (x y : Operand) : binS op t (.int k a) (.int k' b) x y = (do return Next.value (← binOp op t (.int k a) (.int k' b))) := by
  cases op <;> rfl
theorem r_arith (op : BinOp) (t : TypeId) (k : IntKind) (a b n : Int) (h : binOp op t (.int k a) (.int k b) = pure (.int k n)) : PureBin P op t (.int k a) (.int k b) (.int k n) :=
  ⟨fun x y w => by rw [binS_int, h]; rfl⟩
theorem r_cmp (op : BinOp) (t : TypeId) (k : IntKind) (a b : Int) (c : Bool) (h : binOp op t (.int k a) (.int k b) = pure (.bool c)) : PureBin P op t (.int k a) (.int k b) (.bool c) :=
  ⟨fun x y w => by rw [binS_int, h]; rfl⟩
theorem bo_add (t : TypeId) (k : IntKind) (a b : Int) : binOp .add t (.int k a) (.int k b) = pure (.int k (k.wrap (a + b))) := by simp [binOp, Op.intArith]
theorem bo_sub (t : TypeId) (k : IntKind) (a b : Int) : binOp .sub t (.int k a) (.int k b) = pure (.int k (k.wrap (a - b))) := by simp [binOp, Op.intArith]
theorem bo_mul (t : TypeId) (k : IntKind) (a b : Int) : binOp .mul t (.int k a) (.int k b) = pure (.int k (k.wrap (a * b))) := by simp [binOp, Op.intArith]
theorem bo_quo (t : TypeId) (k : IntKind) (a b : Int) (h : b ≠ 0) : binOp .quo t (.int k a) (.int k b) = pure (.int k (k.wrap (a.tdiv b))) := by simp [binOp, Op.intDiv, h]
theorem bo_rem (t : TypeId) (k : IntKind) (a b : Int) (h : b ≠ 0) : binOp .rem t (.int k a) (.int k b) = pure (.int k (a.tmod b)) := by simp [binOp, Op.intDiv, h]
def bitV (op : BinOp) (k : IntKind) (a b : Int) : Int :=
  k.wrap (match op with | .and => (BitVec.ofInt k.bits a &&& BitVec.ofInt k.bits b).toNat | .or => (BitVec.ofInt k.bits a ||| BitVec.ofInt k.bits b).toNat | .xor => (BitVec.ofInt k.bits a ^^^ BitVec.ofInt k.bits b).toNat | _ => (BitVec.ofInt k.bits a &&& ~~~BitVec.ofInt k.bits b).toNat)
theorem bo_and (t : TypeId) (k : IntKind) (a b : Int) : binOp .and t (.int k a) (.int k b) = pure (.int k (bitV .and k a b)) := by simp [binOp, Op.intBits, bitV]
theorem bo_or (t : TypeId) (k : IntKind) (a b : Int) : binOp .or t (.int k a) (.int k b) = pure (.int k (bitV .or k a b)) := by simp [binOp, Op.intBits, bitV]
theorem bo_xor (t : TypeId) (k : IntKind) (a b : Int) : binOp .xor t (.int k a) (.int k b) = pure (.int k (bitV .xor k a b)) := by simp [binOp, Op.intBits, bitV]
theorem bo_andNot (t : TypeId) (k : IntKind) (a b : Int) : binOp .andNot t (.int k a) (.int k b) = pure (.int k (bitV .andNot k a b)) := by simp [binOp, Op.intBits, bitV]
theorem bo_shl (t : TypeId) (k k' : IntKind) (a b : Int) (h : 0 ≤ b) : binOp .shl t (.int k a) (.int k' b) = pure (.int k (k.wrap (a * 2 ^ (min b.toNat k.bits)))) := by
  have : ¬ b < 0 := by omega
  simp [binOp, Op.shift, this]
theorem bo_shr (t : TypeId) (k k' : IntKind) (a b : Int) (h : 0 ≤ b) : binOp .shr t (.int k a) (.int k' b) = pure (.int k (a.fdiv (2 ^ (min b.toNat k.bits)))) := by
  have : ¬ b < 0 := by omega
  simp [binOp, Op.shift, this]
theorem bo_lss (t : TypeId) (k : IntKind) (a b : Int) : binOp .lss t (.int k a) (.int k b) = pure (.bool (decide (a < b))) := by simp [binOp, Op.intCmp]
theorem bo_leq (t : TypeId) (k : IntKind) (a b : Int) : binOp .leq t (.int k a) (.int k b) = pure (.bool (decide (a ≤ b))) := by simp [binOp, Op.intCmp]
theorem bo_gtr (t : TypeId) (k : IntKind) (a b : Int) : binOp .gtr t (.int k a) (.int k b) = pure (.bool (decide (b < a))) := by simp [binOp, Op.intCmp]
theorem bo_geq (t : TypeId) (k : IntKind) (a b : Int) : binOp .geq t (.int k a) (.int k b) = pure (.bool (decide (b ≤ a))) := by simp [binOp, Op.intCmp]
theorem bo_eql (t : TypeId) (k : IntKind) (a b : Int) : binOp .eql t (.int k a) (.int k b) = pure (.bool (decide (a = b))) := by simp [binOp, Op.intCmp]; rfl
theorem bo_neq (t : TypeId) (k : IntKind) (a b : Int) : binOp .neq t (.int k a) (.int k b) = pure (.bool (decide (a ≠ b))) := by simp [binOp, Op.intCmp]; rfl
@[go_sem] theorem x_add (t : TypeId) (k : IntKind) (a b : Int) (K : Value → World → Prop) (w : World) : BinX P .add t (.int k a) (.int k b) K w = K (.int k (k.wrap (a + b))) w := (r_arith _ t k a b _ (bo_add t k a b)).op K w
@[go_sem] theorem p_add (t : TypeId) (k : IntKind) (a b : Int) (K : Value → Prop) : PurB P .add t (.int k a) (.int k b) K () = K (.int k (k.wrap (a + b))) := (r_arith _ t k a b _ (bo_add t k a b)).pur K
@[go_sem] theorem x_sub (t : TypeId) (k : IntKind) (a b : Int) (K : Value → World → Prop) (w : World) : BinX P .sub t (.int k a) (.int k b) K w = K (.int k (k.wrap (a - b))) w := (r_arith _ t k a b _ (bo_sub t k a b)).op K w
@[go_sem] theorem p_sub (t : TypeId) (k : IntKind) (a b : Int) (K : Value → Prop) : PurB P .sub t (.int k a) (.int k b) K () = K (.int k (k.wrap (a - b))) := (r_arith _ t k a b _ (bo_sub t k a b)).pur K
@[go_sem] theorem x_mul (t : TypeId) (k : IntKind) (a b : Int) (K : Value → World → Prop) (w : World) : BinX P .mul t (.int k a) (.int k b) K w = K (.int k (k.wrap (a * b))) w := (r_arith _ t k a b _ (bo_mul t k a b)).op K w
@[go_sem] theorem p_mul (t : TypeId) (k : IntKind) (a b : Int) (K : Value → Prop) : PurB P .mul t (.int k a) (.int k b) K () = K (.int k (k.wrap (a * b))) := (r_arith _ t k a b _ (bo_mul t k a b)).pur K
@[go_sem] theorem x_and (t : TypeId) (k : IntKind) (a b : Int) (K : Value → World → Prop) (w : World) : BinX P .and t (.int k a) (.int k b) K w = K (.int k (bitV .and k a b)) w := (r_arith _ t k a b _ (bo_and t k a b)).op K w
@[go_sem] theorem p_and (t : TypeId) (k : IntKind) (a b : Int) (K : Value → Prop) : PurB P .and t (.int k a) (.int k b) K () = K (.int k (bitV .and k a b)) := (r_arith _ t k a b _ (bo_and t k a b)).pur K
@[go_sem] theorem x_or (t : TypeId) (k : IntKind) (a b : Int) (K : Value → World → Prop) (w : World) : BinX P .or t (.int k a) (.int k b) K w = K (.int k (bitV .or k a b)) w := (r_arith _ t k a b _ (bo_or t k a b)).op K w
@[go_sem] theorem p_or (t : TypeId) (k : IntKind) (a b : Int) (K : Value → Prop) : PurB P .or t (.int k a) (.int k b) K () = K (.int k (bitV .or k a b)) := (r_arith _ t k a b _ (bo_or t k a b)).pur K
@[go_sem] theorem x_xor (t : TypeId) (k : IntKind) (a b : Int) (K : Value → World → Prop) (w : World) : BinX P .xor t (.int k a) (.int k b) K w = K (.int k (bitV .xor k a b)) w := (r_arith _ t k a b _ (bo_xor t k a b)).op K w
@[go_sem] theorem p_xor (t : TypeId) (k : IntKind) (a b : Int) (K : Value → Prop) : PurB P .xor t (.int k a) (.int k b) K () = K (.int k (bitV .xor k a b)) := (r_arith _ t k a b _ (bo_xor t k a b)).pur K
@[go_sem] theorem x_andNot (t : TypeId) (k : IntKind) (a b : Int) (K : Value → World → Prop) (w : World) : BinX P .andNot t (.int k a) (.int k b) K w = K (.int k (bitV .andNot k a b)) w := (r_arith _ t k a b _ (bo_andNot t k a b)).op K w
@[go_sem] theorem p_andNot (t : TypeId) (k : IntKind) (a b : Int) (K : Value → Prop) : PurB P .andNot t (.int k a) (.int k b) K () = K (.int k (bitV .andNot k a b)) := (r_arith _ t k a b _ (bo_andNot t k a b)).pur K
@[go_sem] theorem x_quo (t : TypeId) (k : IntKind) (a b : Int) (K : Value → World → Prop) (w : World) (h : b ≠ 0) : BinX P .quo t (.int k a) (.int k b) K w = K (.int k (k.wrap (a.tdiv b))) w := (r_arith _ t k a b _ (bo_quo t k a b h)).op K w
@[go_sem] theorem p_quo (t : TypeId) (k : IntKind) (a b : Int) (K : Value → Prop) (h : b ≠ 0) : PurB P .quo t (.int k a) (.int k b) K () = K (.int k (k.wrap (a.tdiv b))) := (r_arith _ t k a b _ (bo_quo t k a b h)).pur K
@[go_sem] theorem x_rem (t : TypeId) (k : IntKind) (a b : Int) (K : Value → World → Prop) (w : World) (h : b ≠ 0) : BinX P .rem t (.int k a) (.int k b) K w = K (.int k (a.tmod b)) w := (r_arith _ t k a b _ (bo_rem t k a b h)).op K w
@[go_sem] theorem p_rem (t : TypeId) (k : IntKind) (a b : Int) (K : Value → Prop) (h : b ≠ 0) : PurB P .rem t (.int k a) (.int k b) K () = K (.int k (a.tmod b)) := (r_arith _ t k a b _ (bo_rem t k a b h)).pur K
theorem r_shl (t : TypeId) (k k' : IntKind) (a b : Int) (h : 0 ≤ b) : PureBin P .shl t (.int k a) (.int k' b) (.int k (k.wrap (a * 2 ^ (min b.toNat k.bits)))) := ⟨fun x y w => by rw [binS_int, bo_shl t k k' a b h]; rfl⟩
@[go_sem] theorem x_shl (t : TypeId) (k k' : IntKind) (a b : Int) (K : Value → World → Prop) (w : World) (h : 0 ≤ b) : BinX P .shl t (.int k a) (.int k' b) K w = K (.int k (k.wrap (a * 2 ^ (min b.toNat k.bits)))) w := (r_shl t k k' a b h).op K w
@[go_sem] theorem p_shl (t : TypeId) (k k' : IntKind) (a b : Int) (K : Value → Prop) (h : 0 ≤ b) : PurB P .shl t (.int k a) (.int k' b) K () = K (.int k (k.wrap (a * 2 ^ (min b.toNat k.bits)))) := (r_shl t k k' a b h).pur K
theorem r_shr (t : TypeId) (k k' : IntKind) (a b : Int) (h : 0 ≤ b) : PureBin P .shr t (.int k a) (.int k' b) (.int k (a.fdiv (2 ^ (min b.toNat k.bits)))) := ⟨fun x y w => by rw [binS_int, bo_shr t k k' a b h]; rfl⟩
@[go_sem] theorem x_shr (t : TypeId) (k k' : IntKind) (a b : Int) (K : Value → World → Prop) (w : World) (h : 0 ≤ b) : BinX P .shr t (.int k a) (.int k' b) K w = K (.int k (a.fdiv (2 ^ (min b.toNat k.bits)))) w := (r_shr t k k' a b h).op K w
@[go_sem] theorem p_shr (t : TypeId) (k k' : IntKind) (a b : Int) (K : Value → Prop) (h : 0 ≤ b) : PurB P .shr t (.int k a) (.int k' b) K () = K (.int k (a.fdiv (2 ^ (min b.toNat k.bits)))) := (r_shr t k k' a b h).pur K
@[go_sem] theorem x_lss (t : TypeId) (k : IntKind) (a b : Int) (K : Value → World → Prop) (w : World) : BinX P .lss t (.int k a) (.int k b) K w = K (.bool (decide (a < b))) w := (r_cmp _ t k a b _ (bo_lss t k a b)).op K w
@[go_sem] theorem p_lss (t : TypeId) (k : IntKind) (a b : Int) (K : Value → Prop) : PurB P .lss t (.int k a) (.int k b) K () = K (.bool (decide (a < b))) := (r_cmp _ t k a b _ (bo_lss t k a b)).pur K
@[go_sem] theorem x_leq (t : TypeId) (k : IntKind) (a b : Int) (K : Value → World → Prop) (w : World) : BinX P .leq t (.int k a) (.int k b) K w = K (.bool (decide (a ≤ b))) w := (r_cmp _ t k a b _ (bo_leq t k a b)).op K w
@[go_sem] theorem p_leq (t : TypeId) (k : IntKind) (a b : Int) (K : Value → Prop) : PurB P .leq t (.int k a) (.int k b) K () = K (.bool (decide (a ≤ b))) := (r_cmp _ t k a b _ (bo_leq t k a b)).pur K
@[go_sem] theorem x_gtr (t : TypeId) (k : IntKind) (a b : Int) (K : Value → World → Prop) (w : World) : BinX P .gtr t (.int k a) (.int k b) K w = K (.bool (decide (b < a))) w := (r_cmp _ t k a b _ (bo_gtr t k a b)).op K w
@[go_sem] theorem p_gtr (t : TypeId) (k : IntKind) (a b : Int) (K : Value → Prop) : PurB P .gtr t (.int k a) (.int k b) K () = K (.bool (decide (b < a))) := (r_cmp _ t k a b _ (bo_gtr t k a b)).pur K
@[go_sem] theorem x_geq (t : TypeId) (k : IntKind) (a b : Int) (K : Value → World → Prop) (w : World) : BinX P .geq t (.int k a) (.int k b) K w = K (.bool (decide (b ≤ a))) w := (r_cmp _ t k a b _ (bo_geq t k a b)).op K w
@[go_sem] theorem p_geq (t : TypeId) (k : IntKind) (a b : Int) (K : Value → Prop) : PurB P .geq t (.int k a) (.int k b) K () = K (.bool (decide (b ≤ a))) := (r_cmp _ t k a b _ (bo_geq t k a b)).pur K
@[go_sem] theorem x_eql (t : TypeId) (k : IntKind) (a b : Int) (K : Value → World → Prop) (w : World) : BinX P .eql t (.int k a) (.int k b) K w = K (.bool (decide (a = b))) w := (r_cmp _ t k a b _ (bo_eql t k a b)).op K w
@[go_sem] theorem q_eql (t : TypeId) (k : IntKind) (a b : Int) (K : Value → Prop) (w : World) : RdB P .eql t (.int k a) (.int k b) K w = K (.bool (decide (a = b))) := (r_cmp _ t k a b _ (bo_eql t k a b)).rd K w
@[go_sem] theorem y_eql (t : TypeId) (k : IntKind) (a b : Int) (u : Value) (w : World) : YldB P .eql t (.int k a) (.int k b) u w = (u = .bool (decide (a = b))) := (r_cmp _ t k a b _ (bo_eql t k a b)).yld u w
@[go_sem] theorem x_neq (t : TypeId) (k : IntKind) (a b : Int) (K : Value → World → Prop) (w : World) : BinX P .neq t (.int k a) (.int k b) K w = K (.bool (decide (a ≠ b))) w := (r_cmp _ t k a b _ (bo_neq t k a b)).op K w
@[go_sem] theorem q_neq (t : TypeId) (k : IntKind) (a b : Int) (K : Value → Prop) (w : World) : RdB P .neq t (.int k a) (.int k b) K w = K (.bool (decide (a ≠ b))) := (r_cmp _ t k a b _ (bo_neq t k a b)).rd K w
@[go_sem] theorem y_neq (t : TypeId) (k : IntKind) (a b : Int) (u : Value) (w : World) : YldB P .neq t (.int k a) (.int k b) u w = (u = .bool (decide (a ≠ b))) := (r_cmp _ t k a b _ (bo_neq t k a b)).yld u w
@[go_sem] theorem wrap_i64 (n : Int) (h1 : -9223372036854775808 ≤ n) (h2 : n ≤ 9223372036854775807) : IntKind.i64.wrap n = n := by
  simp only [IntKind.wrap, IntKind.bits, IntKind.signed, Bool.true_and, Bool.false_and, decide_eq_true_eq, ge_iff_le, Bool.false_eq_true, if_false]; first | (split <;> omega) | omega
@[go_sem] theorem wrap_i32 (n : Int) (h1 : -2147483648 ≤ n) (h2 : n ≤ 2147483647) : IntKind.i32.wrap n = n := by
  simp only [IntKind.wrap, IntKind.bits, IntKind.signed, Bool.true_and, Bool.false_and, decide_eq_true_eq, ge_iff_le, Bool.false_eq_true, if_false]; first | (split <;> omega) | omega
@[go_sem] theorem wrap_u8 (n : Int) (h1 : 0 ≤ n) (h2 : n ≤ 255) : IntKind.u8.wrap n = n := by
  simp only [IntKind.wrap, IntKind.bits, IntKind.signed, Bool.true_and, Bool.false_and, decide_eq_true_eq, ge_iff_le, Bool.false_eq_true, if_false]; first | (split <;> omega) | omega
@[go_sem] theorem wrap_u32 (n : Int) (h1 : 0 ≤ n) (h2 : n ≤ 4294967295) : IntKind.u32.wrap n = n := by
  simp only [IntKind.wrap, IntKind.bits, IntKind.signed, Bool.true_and, Bool.false_and, decide_eq_true_eq, ge_iff_le, Bool.false_eq_true, if_false]; first | (split <;> omega) | omega
@[go_sem] theorem wrap_u64 (n : Int) (h1 : 0 ≤ n) (h2 : n ≤ 18446744073709551615) : IntKind.u64.wrap n = n := by
  simp only [IntKind.wrap, IntKind.bits, IntKind.signed, Bool.true_and, Bool.false_and, decide_eq_true_eq, ge_iff_le, Bool.false_eq_true, if_false]; first | (split <;> omega) | omega
theorem tkind_4 {t : TypeId} (h : tkind P t = some 4) : ∃ e, P.underlying t = some (.pointer e) := by
  unfold tkind at h
  cases hu : P.underlying t with
  | none => rw [hu] at h; simp at h
  | some d => rw [hu] at h; cases d <;> simp at h; exact ⟨_, rfl⟩
theorem tkind_6 {t : TypeId} (h : tkind P t = some 6) : ∃ d e, P.underlying t = some (.chan d e) := by
  unfold tkind at h
  cases hu : P.underlying t with
  | none => rw [hu] at h; simp at h
  | some d => rw [hu] at h; cases d <;> simp at h; exact ⟨_, _, rfl⟩
theorem tkind_1 {t : TypeId} (h : tkind P t = some 1) : ∃ e, P.underlying t = some (.slice e) := by
  unfold tkind at h
  cases hu : P.underlying t with
  | none => rw [hu] at h; simp at h
  | some d => rw [hu] at h; cases d <;> simp at h; exact ⟨_, rfl⟩
theorem tkind_5 {t : TypeId} (h : tkind P t = some 5) : ∃ k e, P.underlying t = some (.map k e) := by
  unfold tkind at h
  cases hu : P.underlying t with
  | none => rw [hu] at h; simp at h
  | some d => rw [hu] at h; cases d <;> simp at h; exact ⟨_, _, rfl⟩
theorem tkind_3 {t : TypeId} (h : tkind P t = some 3) : P.underlying t = some .string := by
  unfold tkind at h
  cases hu : P.underlying t with
  | none => rw [hu] at h; simp at h
  | some d => rw [hu] at h; cases d <;> simp at h; rfl
theorem tkind_9 {t : TypeId} (h : tkind P t = some 9) : P.underlying t = some .bool := by
  unfold tkind at h
  cases hu : P.underlying t with
  | none => rw [hu] at h; simp at h
  | some d => rw [hu] at h; cases d <;> simp at h; rfl
theorem r_equal {t : TypeId} {a b : Value} {c : Bool} (ha : ∀ x y, eqGuard .eql t x y a b = pure ()) (hb : binOp .eql t a b = (do pure (.bool (← Op.equal t a b)))) (h : ∀ w, (Op.equal t a b).run P w = .ok c w) : PureBin P .eql t a b (.bool c) :=
  ⟨fun x y w => by unfold binS; rw [ha, hb]; simp [h]⟩
theorem r_nequal {t : TypeId} {a b : Value} {c : Bool} (ha : ∀ x y, eqGuard .neq t x y a b = pure ()) (hb : binOp .neq t a b = (do pure (.bool (!(← Op.equal t a b))))) (h : ∀ w, (Op.equal t a b).run P w = .ok c w) : PureBin P .neq t a b (.bool (!c)) :=
  ⟨fun x y w => by unfold binS; rw [ha, hb]; simp [h]⟩
theorem eq_ptr_nil {t : TypeId} (h : tkind P t = some 4) (p : Option Addr) (w : World) : (Op.equal t (.pointer p) (.pointer none)).run P w = .ok p.isNone w := by
  obtain ⟨e, he⟩ := tkind_4 h
  unfold Op.equal Op.maxDepth Op.equalIn
  cases p <;> simp [run_underlying he]
theorem eq_chan {t : TypeId} (h : tkind P t = some 6) (p q : Option Nat) (w : World) : (Op.equal t (.chan p) (.chan q)).run P w = .ok (p == q) w := by
  obtain ⟨d, e, he⟩ := tkind_6 h
  unfold Op.equal Op.maxDepth Op.equalIn
  simp [run_underlying he]
theorem eq_slice_nil {t : TypeId} (h : tkind P t = some 1) (p : Option Addr) (n c n' c' : Nat) (w : World) : (Op.equal t (.slice p n c) (.slice none n' c')).run P w = .ok p.isNone w := by
  obtain ⟨e, he⟩ := tkind_1 h
  unfold Op.equal Op.maxDepth Op.equalIn
  cases p <;> simp [run_underlying he]
theorem eq_map_nil {t : TypeId} (h : tkind P t = some 5) (p : Option Nat) (w : World) : (Op.equal t (.map p) (.map none)).run P w = .ok p.isNone w := by
  obtain ⟨k, e, he⟩ := tkind_5 h
  unfold Op.equal Op.maxDepth Op.equalIn
  cases p <;> simp [run_underlying he]
theorem eq_bool {t : TypeId} (h : tkind P t = some 9) (a b : Bool) (w : World) : (Op.equal t (.bool a) (.bool b)).run P w = .ok (a == b) w := by
  unfold Op.equal Op.maxDepth Op.equalIn
  simp [run_underlying (tkind_9 h)]
@[go_sem] theorem x_eql_ptr (t : TypeId) (p : Option Addr) (K : Value → World → Prop) (w : World) (h : tkind P t = some 4) : BinX P .eql t (.pointer p) (.pointer none) K w = K (.bool p.isNone) w := (r_equal (fun _ _ => rfl) rfl (fun w => eq_ptr_nil h p w)).op K w
@[go_sem] theorem x_neq_ptr (t : TypeId) (p : Option Addr) (K : Value → World → Prop) (w : World) (h : tkind P t = some 4) : BinX P .neq t (.pointer p) (.pointer none) K w = K (.bool (!p.isNone)) w := (r_nequal (fun _ _ => rfl) rfl (fun w => eq_ptr_nil h p w)).op K w
@[go_sem] theorem q_eql_ptr (t : TypeId) (p : Option Addr) (K : Value → Prop) (w : World) (h : tkind P t = some 4) : RdB P .eql t (.pointer p) (.pointer none) K w = K (.bool p.isNone) := (r_equal (fun _ _ => rfl) rfl (fun w => eq_ptr_nil h p w)).rd K w
@[go_sem] theorem q_neq_ptr (t : TypeId) (p : Option Addr) (K : Value → Prop) (w : World) (h : tkind P t = some 4) : RdB P .neq t (.pointer p) (.pointer none) K w = K (.bool (!p.isNone)) := (r_nequal (fun _ _ => rfl) rfl (fun w => eq_ptr_nil h p w)).rd K w
@[go_sem] theorem y_eql_ptr (t : TypeId) (p : Option Addr) (u : Value) (w : World) (h : tkind P t = some 4) : YldB P .eql t (.pointer p) (.pointer none) u w = (u = .bool p.isNone) := (r_equal (fun _ _ => rfl) rfl (fun w => eq_ptr_nil h p w)).yld u w
@[go_sem] theorem y_neq_ptr (t : TypeId) (p : Option Addr) (u : Value) (w : World) (h : tkind P t = some 4) : YldB P .neq t (.pointer p) (.pointer none) u w = (u = .bool (!p.isNone)) := (r_nequal (fun _ _ => rfl) rfl (fun w => eq_ptr_nil h p w)).yld u w
@[go_sem] theorem x_eql_chan (t : TypeId) (p q : Option Nat) (K : Value → World → Prop) (w : World) (h : tkind P t = some 6) : BinX P .eql t (.chan p) (.chan q) K w = K (.bool (p == q)) w := (r_equal (fun _ _ => rfl) rfl (fun w => eq_chan h p q w)).op K w
@[go_sem] theorem x_neq_chan (t : TypeId) (p q : Option Nat) (K : Value → World → Prop) (w : World) (h : tkind P t = some 6) : BinX P .neq t (.chan p) (.chan q) K w = K (.bool (!(p == q))) w := (r_nequal (fun _ _ => rfl) rfl (fun w => eq_chan h p q w)).op K w
@[go_sem] theorem q_eql_chan (t : TypeId) (p q : Option Nat) (K : Value → Prop) (w : World) (h : tkind P t = some 6) : RdB P .eql t (.chan p) (.chan q) K w = K (.bool (p == q)) := (r_equal (fun _ _ => rfl) rfl (fun w => eq_chan h p q w)).rd K w
@[go_sem] theorem q_neq_chan (t : TypeId) (p q : Option Nat) (K : Value → Prop) (w : World) (h : tkind P t = some 6) : RdB P .neq t (.chan p) (.chan q) K w = K (.bool (!(p == q))) := (r_nequal (fun _ _ => rfl) rfl (fun w => eq_chan h p q w)).rd K w
@[go_sem] theorem y_eql_chan (t : TypeId) (p q : Option Nat) (u : Value) (w : World) (h : tkind P t = some 6) : YldB P .eql t (.chan p) (.chan q) u w = (u = .bool (p == q)) := (r_equal (fun _ _ => rfl) rfl (fun w => eq_chan h p q w)).yld u w
@[go_sem] theorem y_neq_chan (t : TypeId) (p q : Option Nat) (u : Value) (w : World) (h : tkind P t = some 6) : YldB P .neq t (.chan p) (.chan q) u w = (u = .bool (!(p == q))) := (r_nequal (fun _ _ => rfl) rfl (fun w => eq_chan h p q w)).yld u w
@[go_sem] theorem x_eql_slice (t : TypeId) (p : Option Addr) (n c n' c' : Nat) (K : Value → World → Prop) (w : World) (h : tkind P t = some 1) : BinX P .eql t (.slice p n c) (.slice none n' c') K w = K (.bool p.isNone) w := (r_equal (fun _ _ => rfl) rfl (fun w => eq_slice_nil h p n c n' c' w)).op K w
@[go_sem] theorem x_neq_slice (t : TypeId) (p : Option Addr) (n c n' c' : Nat) (K : Value → World → Prop) (w : World) (h : tkind P t = some 1) : BinX P .neq t (.slice p n c) (.slice none n' c') K w = K (.bool (!p.isNone)) w := (r_nequal (fun _ _ => rfl) rfl (fun w => eq_slice_nil h p n c n' c' w)).op K w
@[go_sem] theorem q_eql_slice (t : TypeId) (p : Option Addr) (n c n' c' : Nat) (K : Value → Prop) (w : World) (h : tkind P t = some 1) : RdB P .eql t (.slice p n c) (.slice none n' c') K w = K (.bool p.isNone) := (r_equal (fun _ _ => rfl) rfl (fun w => eq_slice_nil h p n c n' c' w)).rd K w
@[go_sem] theorem q_neq_slice (t : TypeId) (p : Option Addr) (n c n' c' : Nat) (K : Value → Prop) (w : World) (h : tkind P t = some 1) : RdB P .neq t (.slice p n c) (.slice none n' c') K w = K (.bool (!p.isNone)) := (r_nequal (fun _ _ => rfl) rfl (fun w => eq_slice_nil h p n c n' c' w)).rd K w
@[go_sem] theorem y_eql_slice (t : TypeId) (p : Option Addr) (n c n' c' : Nat) (u : Value) (w : World) (h : tkind P t = some 1) : YldB P .eql t (.slice p n c) (.slice none n' c') u w = (u = .bool p.isNone) := (r_equal (fun _ _ => rfl) rfl (fun w => eq_slice_nil h p n c n' c' w)).yld u w
@[go_sem] theorem y_neq_slice (t : TypeId) (p : Option Addr) (n c n' c' : Nat) (u : Value) (w : World) (h : tkind P t = some 1) : YldB P .neq t (.slice p n c) (.slice none n' c') u w = (u = .bool (!p.isNone)) := (r_nequal (fun _ _ => rfl) rfl (fun w => eq_slice_nil h p n c n' c' w)).yld u w
@[go_sem] theorem x_eql_map (t : TypeId) (p : Option Nat) (K : Value → World → Prop) (w : World) (h : tkind P t = some 5) : BinX P .eql t (.map p) (.map none) K w = K (.bool p.isNone) w := (r_equal (fun _ _ => rfl) rfl (fun w => eq_map_nil h p w)).op K w
@[go_sem] theorem x_neq_map (t : TypeId) (p : Option Nat) (K : Value → World → Prop) (w : World) (h : tkind P t = some 5) : BinX P .neq t (.map p) (.map none) K w = K (.bool (!p.isNone)) w := (r_nequal (fun _ _ => rfl) rfl (fun w => eq_map_nil h p w)).op K w
@[go_sem] theorem q_eql_map (t : TypeId) (p : Option Nat) (K : Value → Prop) (w : World) (h : tkind P t = some 5) : RdB P .eql t (.map p) (.map none) K w = K (.bool p.isNone) := (r_equal (fun _ _ => rfl) rfl (fun w => eq_map_nil h p w)).rd K w
@[go_sem] theorem q_neq_map (t : TypeId) (p : Option Nat) (K : Value → Prop) (w : World) (h : tkind P t = some 5) : RdB P .neq t (.map p) (.map none) K w = K (.bool (!p.isNone)) := (r_nequal (fun _ _ => rfl) rfl (fun w => eq_map_nil h p w)).rd K w
@[go_sem] theorem y_eql_map (t : TypeId) (p : Option Nat) (u : Value) (w : World) (h : tkind P t = some 5) : YldB P .eql t (.map p) (.map none) u w = (u = .bool p.isNone) := (r_equal (fun _ _ => rfl) rfl (fun w => eq_map_nil h p w)).yld u w
@[go_sem] theorem y_neq_map (t : TypeId) (p : Option Nat) (u : Value) (w : World) (h : tkind P t = some 5) : YldB P .neq t (.map p) (.map none) u w = (u = .bool (!p.isNone)) := (r_nequal (fun _ _ => rfl) rfl (fun w => eq_map_nil h p w)).yld u w
@[go_sem] theorem x_eql_bool (t : TypeId) (a b : Bool) (K : Value → World → Prop) (w : World) (h : tkind P t = some 9) : BinX P .eql t (.bool a) (.bool b) K w = K (.bool (a == b)) w := (r_equal (fun _ _ => rfl) rfl (fun w => eq_bool h a b w)).op K w
@[go_sem] theorem x_neq_bool (t : TypeId) (a b : Bool) (K : Value → World → Prop) (w : World) (h : tkind P t = some 9) : BinX P .neq t (.bool a) (.bool b) K w = K (.bool (!(a == b))) w := (r_nequal (fun _ _ => rfl) rfl (fun w => eq_bool h a b w)).op K w
@[go_sem] theorem q_eql_bool (t : TypeId) (a b : Bool) (K : Value → Prop) (w : World) (h : tkind P t = some 9) : RdB P .eql t (.bool a) (.bool b) K w = K (.bool (a == b)) := (r_equal (fun _ _ => rfl) rfl (fun w => eq_bool h a b w)).rd K w
@[go_sem] theorem q_neq_bool (t : TypeId) (a b : Bool) (K : Value → Prop) (w : World) (h : tkind P t = some 9) : RdB P .neq t (.bool a) (.bool b) K w = K (.bool (!(a == b))) := (r_nequal (fun _ _ => rfl) rfl (fun w => eq_bool h a b w)).rd K w
@[go_sem] theorem y_eql_bool (t : TypeId) (a b : Bool) (u : Value) (w : World) (h : tkind P t = some 9) : YldB P .eql t (.bool a) (.bool b) u w = (u = .bool (a == b)) := (r_equal (fun _ _ => rfl) rfl (fun w => eq_bool h a b w)).yld u w
@[go_sem] theorem y_neq_bool (t : TypeId) (a b : Bool) (u : Value) (w : World) (h : tkind P t = some 9) : YldB P .neq t (.bool a) (.bool b) u w = (u = .bool (!(a == b))) := (r_nequal (fun _ _ => rfl) rfl (fun w => eq_bool h a b w)).yld u w
theorem r_str_eql (t : TypeId) (a b : ByteArray) : PureBin P .eql t (.string a) (.string b) (.bool (a.toList == b.toList)) := ⟨fun x y w => by simp [binS, eqGuard, binOp, Op.stringOp]⟩
theorem r_str_neq (t : TypeId) (a b : ByteArray) : PureBin P .neq t (.string a) (.string b) (.bool (!(a.toList == b.toList))) := ⟨fun x y w => by simp [binS, eqGuard, binOp, Op.stringOp]⟩
@[go_sem] theorem x_eql_str (t : TypeId) (a b : ByteArray) (K : Value → World → Prop) (w : World) : BinX P .eql t (.string a) (.string b) K w = K (.bool (a.toList == b.toList)) w := (r_str_eql t a b).op K w
@[go_sem] theorem x_neq_str (t : TypeId) (a b : ByteArray) (K : Value → World → Prop) (w : World) : BinX P .neq t (.string a) (.string b) K w = K (.bool (!(a.toList == b.toList))) w := (r_str_neq t a b).op K w
@[go_sem] theorem q_eql_str (t : TypeId) (a b : ByteArray) (K : Value → Prop) (w : World) : RdB P .eql t (.string a) (.string b) K w = K (.bool (a.toList == b.toList)) := (r_str_eql t a b).rd K w
@[go_sem] theorem q_neq_str (t : TypeId) (a b : ByteArray) (K : Value → Prop) (w : World) : RdB P .neq t (.string a) (.string b) K w = K (.bool (!(a.toList == b.toList))) := (r_str_neq t a b).rd K w
@[go_sem] theorem y_eql_str (t : TypeId) (a b : ByteArray) (u : Value) (w : World) : YldB P .eql t (.string a) (.string b) u w = (u = .bool (a.toList == b.toList)) := (r_str_eql t a b).yld u w
@[go_sem] theorem y_neq_str (t : TypeId) (a b : ByteArray) (u : Value) (w : World) : YldB P .neq t (.string a) (.string b) u w = (u = .bool (!(a.toList == b.toList))) := (r_str_neq t a b).yld u w
end
end Lyc
namespace Lyc
open Go
section
variable {P : Program}
@[go_sem] theorem add_mk (b o n : Nat) : (⟨b, o, none⟩ : Addr).add n = ⟨b, o + n, none⟩ := by
  unfold Addr.add
  by_cases h : n = 0
  · subst h; simp
  · simp [h]
def LdX (P : Program) (t ty : TypeId) (a : Addr) (o : Option Value) (K : Value → World → Prop) (w : WK K) : Prop :=
  match o with | some v => K v w | none => OpX P (.load t (.const (.pointer (some a)))) ty K w
@[go_sem] theorem LdX_some (t ty : TypeId) (a : Addr) (v : Value) (K : Value → World → Prop) (w : World) : LdX P t ty a (some v) K w = K v w := rfl
def LdA (P : Program) (t ty : TypeId) (a : Addr) (o : Option (Array Value)) (K : Value → World → Prop) (w : WK K) : Prop :=
  match o with | some v => K (.agg v) w | none => OpX P (.load t (.const (.pointer (some a)))) ty K w
@[go_sem] theorem LdA_some (t ty : TypeId) (a : Addr) (v : Array Value) (K : Value → World → Prop) (w : World) : LdA P t ty a (some v) K w = K (.agg v) w := rfl
theorem run_load1 {t : TypeId} (ht : tagg P t = some false) {b o : Nat} {v : Value} {w : World} (h : cellAt w.heap[b]? o = some v) : (loadVar t ⟨b, o, none⟩).run P w = .ok v w := by
  rw [← cell?_at] at h
  unfold loadVar
  simp [run_isAgg ht, h]
theorem run_loadA {t : TypeId} (ht : tagg P t = some true) {n : Nat} (hn : tsize P t = some n) {b o : Nat} {c : Array Value} {w : World} (h : aggAt w.heap[b]? o n = some c) : (loadVar t ⟨b, o, none⟩).run P w = .ok (.agg c) w := by
  unfold loadVar
  have hc : c.toList.length = n ∧ ∀ j v, c.toList[j]? = some v → w.cell? ((⟨b, o, none⟩ : Addr).add j) = some v := by
    unfold aggAt at h
    split at h
    · rename_i x cs e fr hb
      split at h
      · rename_i hle
        cases h
        refine ⟨by simp; omega, fun j v hj => ?_⟩
        rw [add_mk, cell?_at, hb, cellAt_cells]
        have hj' : j < n := by
          have := (List.getElem?_eq_some_iff.1 hj).1
          simp at this; omega
        have := hj
        simp only [Array.getElem?_toList] at this
        rw [Array.getElem?_extract_of_lt (by omega)] at this
        rw [← this]
        have hlt : o + j < cs.size := by omega
        simp [hlt]
      · simp at h
    · simp at h
  obtain ⟨hl, hc⟩ := hc
  have := run_loadCells_list (P := P) w ⟨b, o, none⟩ c.toList hc
  rw [hl] at this
  simp [run_isAgg ht, run_size hn, this]
theorem exec_load (ρ : Operand → Value) (t ty : TypeId) (x : Operand) (a : Addr) (v : Value) (w : World) (hx : ρ x = .pointer (some a)) (h : (loadVar t a).run P w = .ok v w) :
    (execOp ρ (mkOper (.load t x) ty)).run P w = .ok (.value v) w := by
  simp [execOp, mkOper, hx, Instr.loadAt, Instr.sureAddr, h]
@[go_sem] theorem x_load (t ty : TypeId) (b o : Nat) (K : Value → World → Prop) (w : World) (ht : tagg P t = some false) :
    OpX P (.load t (.const (.pointer (some ⟨b, o, none⟩)))) ty K w = LdX P t ty ⟨b, o, none⟩ (cellAt w.heap[b]? o) K w := by
  cases h : cellAt w.heap[b]? o with
  | none => rfl
  | some v => rw [LdX_some]; exact OpX_ok fun ρ hg => exec_load ρ t ty _ _ v w (hg.1 _) (run_load1 ht h)
theorem tsizeA_spec {t : TypeId} {n : Nat} (h : tsizeA P t = some n) : tagg P t = some true ∧ tsize P t = some n := by
  unfold tsizeA at h
  cases ht : tagg P t with
  | none => rw [ht] at h; simp at h
  | some b => rw [ht] at h; cases b <;> simp at h; exact ⟨rfl, h⟩
@[go_sem] theorem x_loadA (t ty : TypeId) (b o : Nat) (K : Value → World → Prop) (w : World) (_ht : tagg P t = some true) :
    OpX P (.load t (.const (.pointer (some ⟨b, o, none⟩)))) ty K w = OrK ((tsizeA P t).bind (aggAt w.heap[b]? o)) (fun c => K (.agg c) w) (OpX P (.load t (.const (.pointer (some ⟨b, o, none⟩)))) ty K w) () := by
  refine OrK_by (fun c h => ?_) rfl
  obtain ⟨n, hn, h⟩ := Option.bind_eq_some_iff.1 h
  exact OpX_ok fun ρ hg => exec_load ρ t ty _ _ _ w (hg.1 _) (run_loadA (tsizeA_spec hn).1 (tsizeA_spec hn).2 h)
def LdQ (P : Program) (t ty : TypeId) (a : Addr) (o : Option Value) (K : Value → Prop) (w : WK K) : Prop :=
  match o with | some v => K v | none => RdX P (.load t (.const (.pointer (some a)))) ty K w
@[go_sem] theorem LdQ_some (t ty : TypeId) (a : Addr) (v : Value) (K : Value → Prop) (w : World) : LdQ P t ty a (some v) K w = K v := rfl
@[go_sem] theorem q_load (t ty : TypeId) (b o : Nat) (K : Value → Prop) (w : World) (ht : tagg P t = some false) :
    RdX P (.load t (.const (.pointer (some ⟨b, o, none⟩)))) ty K w = LdQ P t ty ⟨b, o, none⟩ (cellAt w.heap[b]? o) K w := by
  cases h : cellAt w.heap[b]? o with
  | none => rfl
  | some v => rw [LdQ_some]; exact RdX_ok fun ρ hg => exec_load ρ t ty _ _ v w (hg.1 _) (run_load1 ht h)
@[go_sem] theorem q_loadA (t ty : TypeId) (b o : Nat) (K : Value → Prop) (w : World) (_ht : tagg P t = some true) :
    RdX P (.load t (.const (.pointer (some ⟨b, o, none⟩)))) ty K w = OrK ((tsizeA P t).bind (aggAt w.heap[b]? o)) (fun c => K (.agg c)) (RdX P (.load t (.const (.pointer (some ⟨b, o, none⟩)))) ty K w) () := by
  refine OrK_by (fun c h => ?_) rfl
  obtain ⟨n, hn, h⟩ := Option.bind_eq_some_iff.1 h
  exact RdX_ok fun ρ hg => exec_load ρ t ty _ _ _ w (hg.1 _) (run_loadA (tsizeA_spec hn).1 (tsizeA_spec hn).2 h)
def YdX (P : Program) (t ty : TypeId) (a : Addr) (o : Option Value) (u : Value) (w : World) : Prop :=
  match o with | some v => u = v | none => Yld P (.load t (.const (.pointer (some a)))) ty u w
@[go_sem] theorem YdX_some (t ty : TypeId) (a : Addr) (v u : Value) (w : World) : YdX P t ty a (some v) u w = (u = v) := rfl
@[go_sem] theorem y_load (t ty : TypeId) (b o : Nat) (u : Value) (w : World) (ht : tagg P t = some false) :
    Yld P (.load t (.const (.pointer (some ⟨b, o, none⟩)))) ty u w = YdX P t ty ⟨b, o, none⟩ (cellAt w.heap[b]? o) u w := by
  cases h : cellAt w.heap[b]? o with
  | none => rfl
  | some v => rw [YdX_some]; exact Yld_ok fun ρ hg => exec_load ρ t ty _ _ v w (hg.1 _) (run_load1 ht h)
@[go_sem] theorem y_loadA (t ty : TypeId) (b o : Nat) (u : Value) (w : World) (_ht : tagg P t = some true) :
    Yld P (.load t (.const (.pointer (some ⟨b, o, none⟩)))) ty u w = OrK ((tsizeA P t).bind (aggAt w.heap[b]? o)) (fun c => u = .agg c) (Yld P (.load t (.const (.pointer (some ⟨b, o, none⟩)))) ty u w) () := by
  refine OrK_by (fun c h => ?_) rfl
  obtain ⟨n, hn, h⟩ := Option.bind_eq_some_iff.1 h
  exact Yld_ok fun ρ hg => exec_load ρ t ty _ _ _ w (hg.1 _) (run_loadA (tsizeA_spec hn).1 (tsizeA_spec hn).2 h)
theorem LdR_1 (t : TypeId) (b o : Nat) (K : Value → World → Prop) (w : World) (ht : tagg P t = some false) (v : Value) (h : cellAt w.heap[b]? o = some v) : LdR P t (.pointer (some ⟨b, o, none⟩)) K w = K v w := by
  have hr := run_load1 ht h
  apply propext
  constructor
  · rintro ⟨a, x, ha, hx, hk⟩
    cases ha
    rw [hr] at hx; cases hx; exact hk
  · exact fun hk => ⟨_, v, rfl, hr, hk⟩
def RsX (P : Program) (t : TypeId) (a : Addr) (o : Option Value) (K : Value → World → Prop) (w : WK K) : Prop :=
  match o with | some v => K v w | none => LdR P t (.pointer (some a)) K w
@[go_sem] theorem RsX_some (t : TypeId) (a : Addr) (v : Value) (K : Value → World → Prop) (w : World) : RsX P t a (some v) K w = K v w := rfl
@[go_sem] theorem LdR_one (t : TypeId) (b o : Nat) (K : Value → World → Prop) (w : World) (ht : tagg P t = some false) : LdR P t (.pointer (some ⟨b, o, none⟩)) K w = RsX P t ⟨b, o, none⟩ (cellAt w.heap[b]? o) K w := by
  cases h : cellAt w.heap[b]? o with
  | none => rfl
  | some v => rw [RsX_some, LdR_1 t b o K w ht v h]
@[go_sem] theorem LdR_agg (t : TypeId) (b o : Nat) (K : Value → World → Prop) (w : World) (_ht : tagg P t = some true) :
    LdR P t (.pointer (some ⟨b, o, none⟩)) K w = OrK ((tsizeA P t).bind (aggAt w.heap[b]? o)) (fun c => K (.agg c) w) (LdR P t (.pointer (some ⟨b, o, none⟩)) K w) () := by
  refine OrK_by (fun c h => ?_) rfl
  obtain ⟨n, hn, h⟩ := Option.bind_eq_some_iff.1 h
  have hr := run_loadA (tsizeA_spec hn).1 (tsizeA_spec hn).2 h
  apply propext
  constructor
  · rintro ⟨a, x, ha, hx, hk⟩
    cases ha
    rw [hr] at hx; cases hx; exact hk
  · exact fun hk => ⟨_, _, rfl, hr, hk⟩
def okCells (vs : List Value) : Bool := vs.all Value.oneCell'
def StX (P : Program) (t ty : TypeId) (b o : Nat) (v : Value) (x : Option Obj) (K : Value → World → Prop) (w : WK K) : Prop :=
  match x with | some x' => K undef (setBlk w b x') | none => OpX P (.store t (.const (.pointer (some ⟨b, o, none⟩))) (.const v)) ty K w
@[go_sem] theorem StX_some (t ty : TypeId) (b o : Nat) (v : Value) (x : Obj) (K : Value → World → Prop) (w : World) : StX P t ty b o v (some x) K w = K undef (setBlk w b x) := rfl
theorem setRow_setBlk {w : World} {b : Nat} {c c' : Array Value} {e : TypeId} (h : w.heap[b]? = some (.cells c e (0, 0))) : w.setRow b c' = setBlk w b (.cells c' e) := by
  unfold World.setRow setBlk
  congr 1
  apply Array.ext_getElem?
  intro i
  simp only [Array.getElem?_modify, Array.getElem?_setIfInBounds]
  by_cases hi : b = i
  · subst hi; rw [h]; simp [lt_of_heap h]
  · simp [hi]
theorem run_storeV {b o : Nat} {vs : List Value} {x' : Obj} {w : World} (h : putAt w.heap[b]? o vs = some x') (hv : okCells vs = true) : (storeCells ⟨b, o, none⟩ vs).run P w = .ok () (setBlk w b x') := by
  unfold putAt at h
  split at h
  · rename_i c e hb
    split at h
    · rename_i hle
      cases h
      have := run_storeCells_at P b o e vs 0 c w hb (by omega) (by simpa [okCells] using hv)
      rw [this]
      simp only [Nat.add_zero]
      rw [setRow_setBlk hb]
      rfl
    · simp at h
  · simp at h
@[go_sem] theorem x_store (t ty : TypeId) (b o : Nat) (v : Value) (K : Value → World → Prop) (w : World) (hn : tsize P t = some v.cells.size) (hv : okCells v.cells.toList = true) :
    OpX P (.store t (.const (.pointer (some ⟨b, o, none⟩))) (.const v)) ty K w = StX P t ty b o v (putAt w.heap[b]? o v.cells.toList) K w := by
  cases h : putAt w.heap[b]? o v.cells.toList with
  | none => rfl
  | some x' =>
    rw [StX_some]
    refine OpX_skip fun ρ hg => ?_
    simp [execOp, mkOper, hg.1, Instr.storeAt, Instr.sureAddr, storeVar, run_size hn, run_storeV h hv]
@[go_sem] theorem x_box (t ty : TypeId) (v : Value) (K : Value → World → Prop) (w : World) : OpX P (.box t (.const v)) ty K w = K (.pointer (some ⟨w.heap.size, 0, none⟩)) (w.alloc (.cells v.cells t)) :=
  OpX_ok fun ρ hg => by simp [execOp, mkOper, hg.1, Instr.box, newVar, newRow]
@[go_sem] theorem x_alloc (t ty : TypeId) (K : Value → World → Prop) (w : World) :
    OpX P (.alloc t) ty K w = OrK (tzero P t) (fun z => K (.pointer (some ⟨w.heap.size, 0, none⟩)) (w.alloc (.cells z.cells t))) (OpX P (.alloc t) ty K w) () := by
  refine OrK_by (fun z h => ?_) rfl
  exact OpX_ok fun ρ hg => by simp [execOp, mkOper, Instr.alloc, newVar, newRow, run_zero h]
def fillL (pl : List (Nat × Nat)) (c : Array Value) : List (Nat × Value) → Option (Array Value)
  | [] => some c
  | (i, v) :: r => match pl[i]? with
    | none => none
    | some (off, n) => if v.cells.size = n ∧ off + n ≤ c.size then fillL pl (spl c off v.cells.toList) r else none
@[go_sem] theorem fillL_nil (pl : List (Nat × Nat)) (c : Array Value) : fillL pl c [] = some c := rfl
@[go_sem] theorem fillL_cons (pl : List (Nat × Nat)) (c : Array Value) (i : Nat) (v : Value) (r : List (Nat × Value)) :
    fillL pl c ((i, v) :: r) = match pl[i]? with | none => none | some (off, n) => if v.cells.size = n ∧ off + n ≤ c.size then fillL pl (spl c off v.cells.toList) r else none := rfl
theorem foldl_spl : ∀ (l : List Value) (off k : Nat) (c : Array Value), off + k + l.length ≤ c.size → (l.zipIdx k).foldl (fun cs (p : Value × Nat) => cs.setIfInBounds (off + p.2) p.1) c = spl c (off + k) l
  | [], off, k, c, _ => by simp [spl]
  | v :: l, off, k, c, h => by
    simp only [List.zipIdx_cons, List.foldl_cons]
    simp only [List.length_cons] at h
    rw [show off + k = off + k from rfl, foldl_spl l off (k + 1) _ (by simp; omega)]
    unfold spl
    simp only [Array.toList_setIfInBounds]
    congr 1
    have := list_seg_step c.toList (off + k) v l (by simp; omega)
    simpa [Nat.add_assoc] using this
theorem fill_eq (place : Nat → Option (Nat × Nat)) (pl : List (Nat × Nat)) (hpl : ∀ i x, pl[i]? = some x → place i = some x) : ∀ (l : List (Nat × Value)) (c c' : Array Value), fillL pl c l = some c' → Instr.fill place c l = some c'
  | [], c, c', h => h
  | (i, v) :: r, c, c', h => by
    rw [fillL_cons] at h
    unfold Instr.fill
    cases hp : pl[i]? with
    | none => rw [hp] at h; simp at h
    | some x =>
      obtain ⟨off, n⟩ := x
      rw [hp] at h
      simp only at h
      split at h
      · rename_i hc
        rw [hpl i _ hp]
        have h1 : ¬ (v.cells.size ≠ n || decide (off + v.cells.size > c.size)) = true := by
          simp only [Bool.or_eq_true, decide_eq_true_eq, not_or]; omega
        simp only [h1]
        have e : v.cells.zipIdx.foldl (fun cs (p : Value × Nat) => cs.setIfInBounds (off + p.2) p.1) c = spl c off v.cells.toList := by
          have := foldl_spl v.cells.toList off 0 c (by simp; omega)
          simp only [Nat.add_zero] at this
          rw [← this, ← Array.foldl_toList]
          simp
        have := fill_eq place pl hpl r _ c' h
        rw [← e] at this
        exact this
      · simp at h
def BdX (P : Program) (t ty : TypeId) (parts : Array (Nat × Operand)) (x : Option (Array Value)) (K : Value → World → Prop) (w : WK K) : Prop :=
  match x with | some c => K (.agg c) w | none => OpX P (.build t parts) ty K w
@[go_sem] theorem BdX_some (t ty : TypeId) (parts : Array (Nat × Operand)) (c : Array Value) (K : Value → World → Prop) (w : World) : BdX P t ty parts (some c) K w = K (.agg c) w := rfl
def partV : List (Nat × Operand) → Option (List (Nat × Value))
  | [] => some []
  | (i, .const v) :: r => (partV r).map ((i, v) :: ·)
  | _ => none
@[go_sem] theorem partV_nil : partV [] = some [] := rfl
@[go_sem] theorem partV_cons (i : Nat) (v : Value) (r : List (Nat × Operand)) : partV ((i, .const v) :: r) = (partV r).map ((i, v) :: ·) := rfl
theorem partV_spec {ρ : Operand → Value} (hg : Good ρ) : ∀ {l : List (Nat × Operand)} {vs : List (Nat × Value)}, partV l = some vs → l.map (fun p => (p.1, ρ p.2)) = vs
  | [], vs, h => by simp [partV] at h; subst h; rfl
  | (i, x) :: r, vs, h => by
    cases x with
    | const v =>
      simp only [partV, Option.map_eq_some_iff] at h
      obtain ⟨us, hu, rfl⟩ := h
      simp [partV_spec hg hu, hg.1]
    | _ => simp [partV] at h
theorem run_fields {fs : Array Field} {l : List (Nat × Nat)} (h : fs.toList.mapM (fun f => (P.info? f.type).map fun j => (f.offset, j.size)) = some l) (w : World) :
    (fs.mapM fun f => (do pure (f.offset, ← Go.sizeOf f.type) : Sem (Nat × Nat))).run P w = .ok l.toArray w := by
  rw [Array.mapM_eq_mapM_toList]
  suffices ∀ (fl : List Field) (l : List (Nat × Nat)), fl.mapM (fun f => (P.info? f.type).map fun j => (f.offset, j.size)) = some l →
      (fl.mapM fun f => (do pure (f.offset, ← Go.sizeOf f.type) : Sem (Nat × Nat))).run P w = .ok l w by
    rw [Sem.run_map, this _ _ h]; rfl
  intro fl
  induction fl with
  | nil => intro l h; simp at h; subst h; rfl
  | cons f fl ih =>
    intro l h
    simp only [List.mapM_cons, bind, Option.bind_eq_some_iff, Option.map_eq_some_iff, pure, Option.some.injEq] at h
    obtain ⟨p, ⟨j, hj, rfl⟩, r, hr, rfl⟩ := h
    rw [List.mapM_cons]
    have hs : tsize P f.type = some j.size := by simp [tsize, hj]
    rw [Sem.run_bind, Sem.run_bind, run_size hs]
    simp only [Result.andThen_ok, Sem.run_pure]
    rw [Sem.run_bind, ih r hr]; rfl
theorem x_build0 (t ty : TypeId) (parts : List (Nat × Operand)) (K : Value → World → Prop) (w : World) :
    OpX P (.build t parts.toArray) ty K w = OrK ((tzero P t).bind fun z => (tfields P t).bind fun pl => (partV parts).bind (fillL pl z.cells)) (fun c => K (.agg c) w) (OpX P (.build t parts.toArray) ty K w) () := by
  refine OrK_by (fun c h => ?_) rfl
  obtain ⟨z, hz, h⟩ := Option.bind_eq_some_iff.1 h
  obtain ⟨pl, hpl, h⟩ := Option.bind_eq_some_iff.1 h
  obtain ⟨vs, hv, hf⟩ := Option.bind_eq_some_iff.1 h
  refine OpX_ok fun ρ hg => ?_
  unfold tfields at hpl
  cases hu : P.underlying t with
  | none => rw [hu] at hpl; simp at hpl
  | some d =>
    rw [hu] at hpl
    cases d <;> simp at hpl
    rename_i fs
    have hfill := fill_eq (fun i => pl[i]?) pl (fun i x hx => hx) vs z.cells c hf
    have hf := run_fields hpl w
    have hp := partV_spec hg hv
    simp only [execOp, mkOper, Instr.build, Sem.run_bind, run_zero hz, Result.andThen_ok, run_underlying hu]
    rw [hf]
    simp only [Result.andThen_ok, List.getElem?_toArray, List.map_toArray, hp, hfill]
    rfl
@[go_sem] theorem x_build (t ty : TypeId) (parts : List (Nat × Operand)) (K : Value → World → Prop) (w : World) (_ht : tkind P t = some 7) :
    OpX P (.build t parts.toArray) ty K w = OrK ((tzero P t).bind fun z => (tfields P t).bind fun pl => (partV parts).bind (fillL pl z.cells)) (fun c => K (.agg c) w) (OpX P (.build t parts.toArray) ty K w) () := x_build0 t ty parts K w
@[go_sem] theorem cells_agg (c : Array Value) : (Value.agg c).cells = c := rfl
@[go_sem] theorem cells_int (k : IntKind) (n : Int) : (Value.int k n).cells = #[.int k n] := rfl
@[go_sem] theorem cells_bool (b : Bool) : (Value.bool b).cells = #[.bool b] := rfl
@[go_sem] theorem cells_string (s : ByteArray) : (Value.string s).cells = #[.string s] := rfl
@[go_sem] theorem cells_pointer (a : Option Addr) : (Value.pointer a).cells = #[.pointer a] := rfl
@[go_sem] theorem cells_slice (a : Option Addr) (n c : Nat) : (Value.slice a n c).cells = #[.slice a n c] := rfl
@[go_sem] theorem cells_map (r : Option Nat) : (Value.map r).cells = #[.map r] := rfl
@[go_sem] theorem cells_chan (r : Option Nat) : (Value.chan r).cells = #[.chan r] := rfl
@[go_sem] theorem cells_func (f : Fn) (x y : Array Value) : (Value.func f x y).cells = #[.func f x y] := rfl
@[go_sem] theorem cells_nilFunc : Value.nilFunc.cells = #[.nilFunc] := rfl
@[go_sem] theorem cells_iface (t : TypeId) (v : Value) : (Value.iface t v).cells = #[.iface t v] := rfl
@[go_sem] theorem cells_nilIface : Value.nilIface.cells = #[.nilIface] := rfl
@[go_sem] theorem okCells_nil : okCells [] = true := rfl
@[go_sem] theorem okCells_cons (v : Value) (l : List Value) : okCells (v :: l) = (v.oneCell' && okCells l) := rfl
end
attribute [go_sem] Value.oneCell' Bool.and_true Bool.true_and if_true if_false Nat.le_refl
end Lyc
namespace Lyc
open Go
section
variable {P : Program}
attribute [go_sem] Int.toNat_natCast and_self and_true true_and and_false false_and ne_eq not_false_eq_true not_true_eq_false eq_self Option.isNone_none Option.isNone_some Bool.not_true Bool.not_false Nat.zero_add Nat.add_zero List.getElem?_toArray List.getElem?_cons_zero List.getElem?_cons_succ List.size_toArray List.length_cons List.length_nil List.take_zero List.take_succ_cons List.drop_zero List.drop_succ_cons List.nil_append List.cons_append List.append_assoc List.extract_toArray Option.map_some Option.bind_some Option.isSome_some List.map_cons List.map_nil decide_true decide_false
@[go_sem] theorem list_extract {α : Type} (l : List α) (a b : Nat) : l.extract a b = (l.drop a).take (b - a) := rfl
def someV : Option Value → Value
  | some v => v
  | none => undef
theorem r_nilCheck (ty : TypeId) (a : Addr) : PureRun P (.nilCheck (.const (.pointer (some a)))) ty (.pointer (some a)) := ⟨fun ρ hg w => by simp [execOp, mkOper, hg.1]⟩
theorem r_fieldAddr (t ty : TypeId) (b o f off n : Nat) (h : tfield P t f = some (off, n)) (hn : n ≠ 0) : PureRun P (.fieldAddr t (.const (.pointer (some ⟨b, o, none⟩))) f) ty (.pointer (some ⟨b, o + off, none⟩)) := by
  have hfs : ∃ fs, P.underlying t = some (.struct fs) := by
    unfold tfield at h
    cases hu : P.underlying t with
    | none => rw [hu] at h; simp at h
    | some d => rw [hu] at h; cases d <;> first | exact ⟨_, rfl⟩ | simp at h
  obtain ⟨fs, hu⟩ := hfs
  unfold tfield at h
  rw [hu] at h
  simp only [Option.bind_some] at h
  obtain ⟨fd, hfd⟩ : ∃ fd, fs[f]? = some fd := by
    cases hfd : fs[f]? with
    | none => rw [hfd] at h; simp at h
    | some fd => exact ⟨fd, rfl⟩
  rw [hfd] at h
  simp only [Option.bind_some, Option.map_eq_some_iff] at h
  obtain ⟨j, hj, h⟩ := h
  cases h
  have hs : tsize P fd.type = some j.size := by simp [tsize, hj]
  refine ⟨fun ρ hg w => ?_⟩
  simp [execOp, mkOper, hg.1, Instr.fieldAt, run_underlying hu, hfd, Instr.sureAddr, fieldPlace, run_size hs, hn, add_mk]
theorem r_indexAddr (t ty e : TypeId) (b o len cap n : Nat) (k : IntKind) (i : Int) (hk : tkind P t = some 1) (he : telem P t = some e) (hn : tsize P e = some n) (h0 : 0 ≤ i) (h1 : i < len) :
    PureRun P (.indexAddr t (.const (.slice (some ⟨b, o, none⟩) len cap)) (.const (.int k i))) ty (.pointer (some ⟨b, o + i.toNat * n, none⟩)) := by
  obtain ⟨e', hu⟩ := tkind_1 hk
  have : e' = e := by simpa [telem, hu] using he
  subst this
  refine ⟨fun ρ hg w => ?_⟩
  simp [execOp, mkOper, hg.1, Instr.indexAt, asIntOf, run_underlying hu, run_size hn, h0, h1, add_mk]
theorem tkind_2 {t : TypeId} (h : tkind P t = some 2) : ∃ n e, P.underlying t = some (.array n e) := by
  unfold tkind at h
  cases hu : P.underlying t with
  | none => rw [hu] at h; simp at h
  | some d => rw [hu] at h; cases d <;> simp at h; exact ⟨_, _, rfl⟩
theorem r_indexAddrA (t ty e : TypeId) (b o len n : Nat) (k : IntKind) (i : Int) (hk : tkind P t = some 2) (he : telem P t = some e) (hl : tlen P t = some len) (hn : tsize P e = some n) (h0 : 0 ≤ i) (h1 : i < len) :
    PureRun P (.indexAddr t (.const (.pointer (some ⟨b, o, none⟩))) (.const (.int k i))) ty (.pointer (some ⟨b, o + i.toNat * n, none⟩)) := by
  obtain ⟨l', e', hu⟩ := tkind_2 hk
  have e1 : e' = e := by simpa [telem, hu] using he
  have e2 : l' = len := by simpa [tlen, hu] using hl
  subst e1; subst e2
  refine ⟨fun ρ hg w => ?_⟩
  simp [execOp, mkOper, hg.1, Instr.indexAt, Instr.sureAddr, asIntOf, run_underlying hu, run_size hn, h0, h1, add_mk]
theorem r_extract (ty : TypeId) (vs : Array Value) (i : Nat) (v : Value) (h : vs[i]? = some v) : PureRun P (.extract (.const (.tuple vs)) i) ty v := ⟨fun ρ hg w => by simp [execOp, mkOper, hg.1, Instr.extract, h]⟩
theorem r_not (t ty : TypeId) (b : Bool) : PureRun P (.unOp .not t (.const (.bool b))) ty (.bool (!b)) := ⟨fun ρ hg w => by simp [execOp, mkOper, hg.1, Op.unary]⟩
theorem r_neg (t ty : TypeId) (k : IntKind) (n : Int) : PureRun P (.unOp .neg t (.const (.int k n))) ty (.int k (k.wrap (-n))) := ⟨fun ρ hg w => by simp [execOp, mkOper, hg.1, Op.unary, Op.intArith]⟩
theorem r_conv (s t ty : TypeId) (k k' : IntKind) (n : Int) (hs : (tkind P s).isSome = true) (h : tint P t = some k') : PureRun P (.convert s t (.const (.int k n))) ty (.int k' (k'.wrap n)) := by
  unfold tint at h
  obtain ⟨d, hd⟩ : ∃ d, P.underlying s = some d := by
    unfold tkind at hs
    cases hu : P.underlying s with
    | none => rw [hu] at hs; simp at hs
    | some d => exact ⟨d, rfl⟩
  cases hu : P.underlying t with
  | none => rw [hu] at h; simp at h
  | some d' =>
    rw [hu] at h
    cases d' <;> simp at h
    subst h
    refine ⟨fun ρ hg w => ?_⟩
    simp [execOp, mkOper, hg.1, convert, run_underlying hu, run_underlying hd, Conv.intToInt]
theorem r_len_slice (t ty : TypeId) (a : Option Addr) (n c : Nat) (h : tkind P t = some 1) : PureRun P (.call { callee := .builtin .len, args := #[.const (.slice a n c)], argTypes := #[t] }) ty (.int .i64 n) := by
  obtain ⟨e, he⟩ := tkind_1 h
  exact ⟨fun ρ hg w => by simp [execOp, mkOper, resolve, invoke, builtin, hg.1, Builtin.len_, run_underlying he, goInt]⟩
theorem r_cap_slice (t ty : TypeId) (a : Option Addr) (n c : Nat) (h : tkind P t = some 1) : PureRun P (.call { callee := .builtin .cap, args := #[.const (.slice a n c)], argTypes := #[t] }) ty (.int .i64 c) := by
  obtain ⟨e, he⟩ := tkind_1 h
  exact ⟨fun ρ hg w => by simp [execOp, mkOper, resolve, invoke, builtin, hg.1, Builtin.cap_, run_underlying he, goInt]⟩
theorem r_len_str (t ty : TypeId) (s : ByteArray) (h : tkind P t = some 3) : PureRun P (.call { callee := .builtin .len, args := #[.const (.string s)], argTypes := #[t] }) ty (.int .i64 s.size) := by
  have he := tkind_3 h
  exact ⟨fun ρ hg w => by simp [execOp, mkOper, resolve, invoke, builtin, hg.1, Builtin.len_, run_underlying he, goInt]⟩
theorem r_min (ts : Array TypeId) (ty : TypeId) (k k' : IntKind) (x y : Int) : PureRun P (.call { callee := .builtin .min, args := #[.const (.int k x), .const (.int k' y)], argTypes := ts }) ty (.int k (min x y)) :=
  ⟨fun ρ hg w => by
    have e : (if y < x then y else x) = min x y := by omega
    simp [execOp, mkOper, resolve, invoke, builtin, hg.1, Builtin.min_, Builtin.min2, e]⟩
theorem r_max (ts : Array TypeId) (ty : TypeId) (k k' : IntKind) (x y : Int) : PureRun P (.call { callee := .builtin .max, args := #[.const (.int k x), .const (.int k' y)], argTypes := ts }) ty (.int k (max x y)) :=
  ⟨fun ρ hg w => by
    have e : (if y > x then y else x) = max x y := by omega
    simp [execOp, mkOper, resolve, invoke, builtin, hg.1, Builtin.max_, Builtin.max2, e]⟩
theorem r_makeFunc (ty : TypeId) (fn : Fn) (xs ys : List Operand) (us vs : List Value) (hx : (partV (xs.map fun x => (0, x))) = some (us.map fun v => (0, v))) (hy : (partV (ys.map fun x => (0, x))) = some (vs.map fun v => (0, v))) :
    PureRun P (.makeFunc fn xs.toArray ys.toArray) ty (.func fn us.toArray vs.toArray) := by
  refine ⟨fun ρ hg w => ?_⟩
  have h1 := partV_spec hg hx
  have h2 := partV_spec hg hy
  have e1 : xs.map ρ = us := by
    have := congrArg (List.map Prod.snd) h1
    simpa [List.map_map, Function.comp_def] using this
  have e2 : ys.map ρ = vs := by
    have := congrArg (List.map Prod.snd) h2
    simpa [List.map_map, Function.comp_def] using this
  simp [execOp, mkOper, Instr.makeFunc, e1, e2]
@[go_sem] theorem x_nilCheck (ty : TypeId) (a : Addr) (K : Value → World → Prop) (w : World)  : OpX P (.nilCheck (.const (.pointer (some a)))) ty K w = K (.pointer (some a)) w := (r_nilCheck ty a).op K w
@[go_sem] theorem p_nilCheck (ty : TypeId) (a : Addr) (K : Value → Prop)  : PurX P (.nilCheck (.const (.pointer (some a)))) ty K () = K (.pointer (some a)) := (r_nilCheck ty a).pur K
@[go_sem] theorem q_nilCheck (ty : TypeId) (a : Addr) (K : Value → Prop) (w : World)  : RdX P (.nilCheck (.const (.pointer (some a)))) ty K w = K (.pointer (some a)) := (r_nilCheck ty a).rd K w
@[go_sem] theorem y_nilCheck (ty : TypeId) (a : Addr) (u : Value) (w : World)  : Yld P (.nilCheck (.const (.pointer (some a)))) ty u w = (u = (.pointer (some a))) := (r_nilCheck ty a).yld u w
@[go_sem] theorem x_not (t ty : TypeId) (b : Bool) (K : Value → World → Prop) (w : World)  : OpX P (.unOp .not t (.const (.bool b))) ty K w = K (.bool (!b)) w := (r_not t ty b).op K w
@[go_sem] theorem p_not (t ty : TypeId) (b : Bool) (K : Value → Prop)  : PurX P (.unOp .not t (.const (.bool b))) ty K () = K (.bool (!b)) := (r_not t ty b).pur K
@[go_sem] theorem q_not (t ty : TypeId) (b : Bool) (K : Value → Prop) (w : World)  : RdX P (.unOp .not t (.const (.bool b))) ty K w = K (.bool (!b)) := (r_not t ty b).rd K w
@[go_sem] theorem y_not (t ty : TypeId) (b : Bool) (u : Value) (w : World)  : Yld P (.unOp .not t (.const (.bool b))) ty u w = (u = (.bool (!b))) := (r_not t ty b).yld u w
@[go_sem] theorem x_neg (t ty : TypeId) (k : IntKind) (n : Int) (K : Value → World → Prop) (w : World)  : OpX P (.unOp .neg t (.const (.int k n))) ty K w = K (.int k (k.wrap (-n))) w := (r_neg t ty k n).op K w
@[go_sem] theorem p_neg (t ty : TypeId) (k : IntKind) (n : Int) (K : Value → Prop)  : PurX P (.unOp .neg t (.const (.int k n))) ty K () = K (.int k (k.wrap (-n))) := (r_neg t ty k n).pur K
@[go_sem] theorem q_neg (t ty : TypeId) (k : IntKind) (n : Int) (K : Value → Prop) (w : World)  : RdX P (.unOp .neg t (.const (.int k n))) ty K w = K (.int k (k.wrap (-n))) := (r_neg t ty k n).rd K w
@[go_sem] theorem y_neg (t ty : TypeId) (k : IntKind) (n : Int) (u : Value) (w : World)  : Yld P (.unOp .neg t (.const (.int k n))) ty u w = (u = (.int k (k.wrap (-n)))) := (r_neg t ty k n).yld u w
@[go_sem] theorem x_len_slice (t ty : TypeId) (a : Option Addr) (n c : Nat) (K : Value → World → Prop) (w : World) (h : tkind P t = some 1) : OpX P (.call { callee := .builtin .len, args := #[.const (.slice a n c)], argTypes := #[t] }) ty K w = K (.int .i64 n) w := (r_len_slice t ty a n c h).op K w
@[go_sem] theorem p_len_slice (t ty : TypeId) (a : Option Addr) (n c : Nat) (K : Value → Prop) (h : tkind P t = some 1) : PurX P (.call { callee := .builtin .len, args := #[.const (.slice a n c)], argTypes := #[t] }) ty K () = K (.int .i64 n) := (r_len_slice t ty a n c h).pur K
@[go_sem] theorem q_len_slice (t ty : TypeId) (a : Option Addr) (n c : Nat) (K : Value → Prop) (w : World) (h : tkind P t = some 1) : RdX P (.call { callee := .builtin .len, args := #[.const (.slice a n c)], argTypes := #[t] }) ty K w = K (.int .i64 n) := (r_len_slice t ty a n c h).rd K w
@[go_sem] theorem y_len_slice (t ty : TypeId) (a : Option Addr) (n c : Nat) (u : Value) (w : World) (h : tkind P t = some 1) : Yld P (.call { callee := .builtin .len, args := #[.const (.slice a n c)], argTypes := #[t] }) ty u w = (u = (.int .i64 n)) := (r_len_slice t ty a n c h).yld u w
@[go_sem] theorem x_cap_slice (t ty : TypeId) (a : Option Addr) (n c : Nat) (K : Value → World → Prop) (w : World) (h : tkind P t = some 1) : OpX P (.call { callee := .builtin .cap, args := #[.const (.slice a n c)], argTypes := #[t] }) ty K w = K (.int .i64 c) w := (r_cap_slice t ty a n c h).op K w
@[go_sem] theorem p_cap_slice (t ty : TypeId) (a : Option Addr) (n c : Nat) (K : Value → Prop) (h : tkind P t = some 1) : PurX P (.call { callee := .builtin .cap, args := #[.const (.slice a n c)], argTypes := #[t] }) ty K () = K (.int .i64 c) := (r_cap_slice t ty a n c h).pur K
@[go_sem] theorem q_cap_slice (t ty : TypeId) (a : Option Addr) (n c : Nat) (K : Value → Prop) (w : World) (h : tkind P t = some 1) : RdX P (.call { callee := .builtin .cap, args := #[.const (.slice a n c)], argTypes := #[t] }) ty K w = K (.int .i64 c) := (r_cap_slice t ty a n c h).rd K w
@[go_sem] theorem y_cap_slice (t ty : TypeId) (a : Option Addr) (n c : Nat) (u : Value) (w : World) (h : tkind P t = some 1) : Yld P (.call { callee := .builtin .cap, args := #[.const (.slice a n c)], argTypes := #[t] }) ty u w = (u = (.int .i64 c)) := (r_cap_slice t ty a n c h).yld u w
@[go_sem] theorem x_len_str (t ty : TypeId) (s : ByteArray) (K : Value → World → Prop) (w : World) (h : tkind P t = some 3) : OpX P (.call { callee := .builtin .len, args := #[.const (.string s)], argTypes := #[t] }) ty K w = K (.int .i64 s.size) w := (r_len_str t ty s h).op K w
@[go_sem] theorem p_len_str (t ty : TypeId) (s : ByteArray) (K : Value → Prop) (h : tkind P t = some 3) : PurX P (.call { callee := .builtin .len, args := #[.const (.string s)], argTypes := #[t] }) ty K () = K (.int .i64 s.size) := (r_len_str t ty s h).pur K
@[go_sem] theorem q_len_str (t ty : TypeId) (s : ByteArray) (K : Value → Prop) (w : World) (h : tkind P t = some 3) : RdX P (.call { callee := .builtin .len, args := #[.const (.string s)], argTypes := #[t] }) ty K w = K (.int .i64 s.size) := (r_len_str t ty s h).rd K w
@[go_sem] theorem y_len_str (t ty : TypeId) (s : ByteArray) (u : Value) (w : World) (h : tkind P t = some 3) : Yld P (.call { callee := .builtin .len, args := #[.const (.string s)], argTypes := #[t] }) ty u w = (u = (.int .i64 s.size)) := (r_len_str t ty s h).yld u w
@[go_sem] theorem x_min (ts : Array TypeId) (ty : TypeId) (k k' : IntKind) (x y : Int) (K : Value → World → Prop) (w : World)  : OpX P (.call { callee := .builtin .min, args := #[.const (.int k x), .const (.int k' y)], argTypes := ts }) ty K w = K (.int k (min x y)) w := (r_min ts ty k k' x y).op K w
@[go_sem] theorem p_min (ts : Array TypeId) (ty : TypeId) (k k' : IntKind) (x y : Int) (K : Value → Prop)  : PurX P (.call { callee := .builtin .min, args := #[.const (.int k x), .const (.int k' y)], argTypes := ts }) ty K () = K (.int k (min x y)) := (r_min ts ty k k' x y).pur K
@[go_sem] theorem q_min (ts : Array TypeId) (ty : TypeId) (k k' : IntKind) (x y : Int) (K : Value → Prop) (w : World)  : RdX P (.call { callee := .builtin .min, args := #[.const (.int k x), .const (.int k' y)], argTypes := ts }) ty K w = K (.int k (min x y)) := (r_min ts ty k k' x y).rd K w
@[go_sem] theorem y_min (ts : Array TypeId) (ty : TypeId) (k k' : IntKind) (x y : Int) (u : Value) (w : World)  : Yld P (.call { callee := .builtin .min, args := #[.const (.int k x), .const (.int k' y)], argTypes := ts }) ty u w = (u = (.int k (min x y))) := (r_min ts ty k k' x y).yld u w
@[go_sem] theorem x_max (ts : Array TypeId) (ty : TypeId) (k k' : IntKind) (x y : Int) (K : Value → World → Prop) (w : World)  : OpX P (.call { callee := .builtin .max, args := #[.const (.int k x), .const (.int k' y)], argTypes := ts }) ty K w = K (.int k (max x y)) w := (r_max ts ty k k' x y).op K w
@[go_sem] theorem p_max (ts : Array TypeId) (ty : TypeId) (k k' : IntKind) (x y : Int) (K : Value → Prop)  : PurX P (.call { callee := .builtin .max, args := #[.const (.int k x), .const (.int k' y)], argTypes := ts }) ty K () = K (.int k (max x y)) := (r_max ts ty k k' x y).pur K
@[go_sem] theorem q_max (ts : Array TypeId) (ty : TypeId) (k k' : IntKind) (x y : Int) (K : Value → Prop) (w : World)  : RdX P (.call { callee := .builtin .max, args := #[.const (.int k x), .const (.int k' y)], argTypes := ts }) ty K w = K (.int k (max x y)) := (r_max ts ty k k' x y).rd K w
@[go_sem] theorem y_max (ts : Array TypeId) (ty : TypeId) (k k' : IntKind) (x y : Int) (u : Value) (w : World)  : Yld P (.call { callee := .builtin .max, args := #[.const (.int k x), .const (.int k' y)], argTypes := ts }) ty u w = (u = (.int k (max x y))) := (r_max ts ty k k' x y).yld u w
theorem tfo_spec {t : TypeId} {f off : Nat} (h : tfo P t f = some off) : ∃ n, tfield P t f = some (off, n) ∧ n ≠ 0 := by
  unfold tfo at h
  obtain ⟨p, hp, h⟩ := Option.bind_eq_some_iff.1 h
  split at h
  · simp at h
  · rename_i hn; cases h; exact ⟨p.2, hp, hn⟩
theorem tslice_spec {t : TypeId} {n : Nat} (h : tslice P t = some n) : ∃ e, tkind P t = some 1 ∧ telem P t = some e ∧ tsize P e = some n := by
  unfold tslice at h
  cases hu : P.underlying t with
  | none => rw [hu] at h; simp at h
  | some d =>
    rw [hu] at h
    cases d <;> simp at h
    exact ⟨_, by simp [tkind, hu], by simp [telem, hu], h⟩
theorem tarr_spec {t : TypeId} {n m : Nat} (h : tarr P t = some (n, m)) : ∃ e, tkind P t = some 2 ∧ telem P t = some e ∧ tlen P t = some n ∧ tsize P e = some m := by
  unfold tarr at h
  cases hu : P.underlying t with
  | none => rw [hu] at h; simp at h
  | some d =>
    rw [hu] at h
    cases d with
    | array k e =>
      simp only [Option.bind_some, Option.map_eq_some_iff] at h
      obtain ⟨x, hx, h⟩ := h
      cases h
      exact ⟨e, by simp [tkind, hu], by simp [telem, hu], by simp [tlen, hu], hx⟩
    | _ => simp at h
@[go_sem] theorem x_fieldAddr (t ty : TypeId) (b o f : Nat) (K : Value → World → Prop) (w : World)  : OpX P (.fieldAddr t (.const (.pointer (some ⟨b, o, none⟩))) f) ty K w = OrK (tfo P t f) (fun off => K (.pointer (some ⟨b, o + off, none⟩)) w) (OpX P (.fieldAddr t (.const (.pointer (some ⟨b, o, none⟩))) f) ty K w) () := by
  refine OrK_by (fun q h => ?_) rfl
  obtain ⟨n, h1, h2⟩ := tfo_spec h
  have hr := r_fieldAddr (P := P) t ty b o f q n h1 h2
  exact PureRun.op hr K w
@[go_sem] theorem p_fieldAddr (t ty : TypeId) (b o f : Nat) (K : Value → Prop)  : PurX P (.fieldAddr t (.const (.pointer (some ⟨b, o, none⟩))) f) ty K () = OrK (tfo P t f) (fun off => K (.pointer (some ⟨b, o + off, none⟩))) (PurX P (.fieldAddr t (.const (.pointer (some ⟨b, o, none⟩))) f) ty K ()) () := by
  refine OrK_by (fun q h => ?_) rfl
  obtain ⟨n, h1, h2⟩ := tfo_spec h
  have hr := r_fieldAddr (P := P) t ty b o f q n h1 h2
  exact PureRun.pur hr K
@[go_sem] theorem x_indexAddr (t ty : TypeId) (b o len cap : Nat) (k : IntKind) (i : Int) (K : Value → World → Prop) (w : World) (h0 : 0 ≤ i) (h1 : i < len) : OpX P (.indexAddr t (.const (.slice (some ⟨b, o, none⟩) len cap)) (.const (.int k i))) ty K w = OrK (tslice P t) (fun n => K (.pointer (some ⟨b, o + i.toNat * n, none⟩)) w) (OpX P (.indexAddr t (.const (.slice (some ⟨b, o, none⟩) len cap)) (.const (.int k i))) ty K w) () := by
  refine OrK_by (fun q h => ?_) rfl
  obtain ⟨e, h2, h3, h4⟩ := tslice_spec h
  have hr := r_indexAddr (P := P) t ty e b o len cap q k i h2 h3 h4 h0 h1
  exact PureRun.op hr K w
@[go_sem] theorem p_indexAddr (t ty : TypeId) (b o len cap : Nat) (k : IntKind) (i : Int) (K : Value → Prop) (h0 : 0 ≤ i) (h1 : i < len) : PurX P (.indexAddr t (.const (.slice (some ⟨b, o, none⟩) len cap)) (.const (.int k i))) ty K () = OrK (tslice P t) (fun n => K (.pointer (some ⟨b, o + i.toNat * n, none⟩))) (PurX P (.indexAddr t (.const (.slice (some ⟨b, o, none⟩) len cap)) (.const (.int k i))) ty K ()) () := by
  refine OrK_by (fun q h => ?_) rfl
  obtain ⟨e, h2, h3, h4⟩ := tslice_spec h
  have hr := r_indexAddr (P := P) t ty e b o len cap q k i h2 h3 h4 h0 h1
  exact PureRun.pur hr K
@[go_sem] theorem x_indexAddrA (t ty : TypeId) (b o : Nat) (k : IntKind) (i : Int) (K : Value → World → Prop) (w : World) (h0 : 0 ≤ i) (h1 : i < ((tarr P t).getD (0, 0)).1) : OpX P (.indexAddr t (.const (.pointer (some ⟨b, o, none⟩))) (.const (.int k i))) ty K w = OrK (tarr P t) (fun n => K (.pointer (some ⟨b, o + i.toNat * n.2, none⟩)) w) (OpX P (.indexAddr t (.const (.pointer (some ⟨b, o, none⟩))) (.const (.int k i))) ty K w) () := by
  refine OrK_by (fun q h => ?_) rfl
  obtain ⟨n, m⟩ := q
  rw [h] at h1
  obtain ⟨e, h2, h3, h4, h5⟩ := tarr_spec h
  have hr := r_indexAddrA (P := P) t ty e b o n m k i h2 h3 h4 h5 h0 h1
  exact PureRun.op hr K w
@[go_sem] theorem p_indexAddrA (t ty : TypeId) (b o : Nat) (k : IntKind) (i : Int) (K : Value → Prop) (h0 : 0 ≤ i) (h1 : i < ((tarr P t).getD (0, 0)).1) : PurX P (.indexAddr t (.const (.pointer (some ⟨b, o, none⟩))) (.const (.int k i))) ty K () = OrK (tarr P t) (fun n => K (.pointer (some ⟨b, o + i.toNat * n.2, none⟩))) (PurX P (.indexAddr t (.const (.pointer (some ⟨b, o, none⟩))) (.const (.int k i))) ty K ()) () := by
  refine OrK_by (fun q h => ?_) rfl
  obtain ⟨n, m⟩ := q
  rw [h] at h1
  obtain ⟨e, h2, h3, h4, h5⟩ := tarr_spec h
  have hr := r_indexAddrA (P := P) t ty e b o n m k i h2 h3 h4 h5 h0 h1
  exact PureRun.pur hr K
@[go_sem] theorem x_conv (s t ty : TypeId) (k : IntKind) (n : Int) (K : Value → World → Prop) (w : World)  : OpX P (.convert s t (.const (.int k n))) ty K w = OrK (tconv P s t) (fun k' => K (.int k' (k'.wrap n)) w) (OpX P (.convert s t (.const (.int k n))) ty K w) () := by
  refine OrK_by (fun q h => ?_) rfl
  obtain ⟨x, h1, h2⟩ := Option.bind_eq_some_iff.1 h
  have hr := r_conv (P := P) s t ty k q n (by rw [h1]; rfl) h2
  exact PureRun.op hr K w
@[go_sem] theorem p_conv (s t ty : TypeId) (k : IntKind) (n : Int) (K : Value → Prop)  : PurX P (.convert s t (.const (.int k n))) ty K () = OrK (tconv P s t) (fun k' => K (.int k' (k'.wrap n))) (PurX P (.convert s t (.const (.int k n))) ty K ()) () := by
  refine OrK_by (fun q h => ?_) rfl
  obtain ⟨x, h1, h2⟩ := Option.bind_eq_some_iff.1 h
  have hr := r_conv (P := P) s t ty k q n (by rw [h1]; rfl) h2
  exact PureRun.pur hr K
@[go_sem] theorem tconv_eq (s t : TypeId) : tconv P s t = (tkind P s).bind fun _ => tint P t := rfl
attribute [go_sem] Option.getD_some
def ExX (P : Program) (ty : TypeId) (vs : Array Value) (i : Nat) (x : Option Value) (K : Value → World → Prop) (w : WK K) : Prop :=
  match x with | some v => K v w | none => OpX P (.extract (.const (.tuple vs)) i) ty K w
@[go_sem] theorem ExX_some (ty : TypeId) (vs : Array Value) (i : Nat) (v : Value) (K : Value → World → Prop) (w : World) : ExX P ty vs i (some v) K w = K v w := rfl
@[go_sem] theorem x_extract (ty : TypeId) (vs : Array Value) (i : Nat) (K : Value → World → Prop) (w : World) : OpX P (.extract (.const (.tuple vs)) i) ty K w = ExX P ty vs i vs[i]? K w := by
  cases h : vs[i]? with
  | none => rfl
  | some v => rw [ExX_some]; exact (r_extract ty vs i v h).op K w
def ExQ (P : Program) (ty : TypeId) (vs : Array Value) (i : Nat) (x : Option Value) (K : Value → Prop) (u : UK K) : Prop :=
  match x with | some v => K v | none => PurX P (.extract (.const (.tuple vs)) i) ty K u
@[go_sem] theorem ExQ_some (ty : TypeId) (vs : Array Value) (i : Nat) (v : Value) (K : Value → Prop) : ExQ P ty vs i (some v) K () = K v := rfl
@[go_sem] theorem p_extract (ty : TypeId) (vs : Array Value) (i : Nat) (K : Value → Prop) : PurX P (.extract (.const (.tuple vs)) i) ty K () = ExQ P ty vs i vs[i]? K () := by
  cases h : vs[i]? with
  | none => rfl
  | some v => rw [ExQ_some]; exact (r_extract ty vs i v h).pur K
def FnX (P : Program) (ty : TypeId) (fn : Fn) (xs ys : List Operand) (u v : Option (List (Nat × Value))) (K : Value → World → Prop) (w : WK K) : Prop :=
  match u, v with | some us, some vs => K (.func fn (us.map (·.2)).toArray (vs.map (·.2)).toArray) w | _, _ => OpX P (.makeFunc fn xs.toArray ys.toArray) ty K w
@[go_sem] theorem FnX_some (ty : TypeId) (fn : Fn) (xs ys : List Operand) (us vs : List (Nat × Value)) (K : Value → World → Prop) (w : World) : FnX P ty fn xs ys (some us) (some vs) K w = K (.func fn (us.map (·.2)).toArray (vs.map (·.2)).toArray) w := rfl
theorem partV_zero : ∀ (xs : List Operand) (us : List (Nat × Value)), partV (xs.map fun x => (0, x)) = some us → us = (us.map (·.2)).map fun v => (0, v)
  | [], us, h => by simp [partV] at h; subst h; rfl
  | x :: xs, us, h => by
    cases x with
    | const v =>
      simp only [List.map_cons, partV, Option.map_eq_some_iff] at h
      obtain ⟨vs, hv, rfl⟩ := h
      have := partV_zero xs vs hv
      simp only [List.map_cons]
      rw [← this]
    | _ => simp [partV] at h
@[go_sem] theorem x_makeFunc (ty : TypeId) (fn : Fn) (xs ys : List Operand) (K : Value → World → Prop) (w : World) :
    OpX P (.makeFunc fn xs.toArray ys.toArray) ty K w = FnX P ty fn xs ys (partV (xs.map fun x => (0, x))) (partV (ys.map fun x => (0, x))) K w := by
  cases h : partV (xs.map fun x => (0, x)) with
  | none => rfl
  | some us =>
    cases h2 : partV (ys.map fun x => (0, x)) with
    | none => rfl
    | some vs =>
      rw [FnX_some]
      refine (r_makeFunc ty fn xs ys (us.map (·.2)) (vs.map (·.2)) ?_ ?_).op K w
      · rw [h, ← partV_zero _ _ h]
      · rw [h2, ← partV_zero _ _ h2]
theorem x_makeChan0 (t ty e : TypeId) (n : Int) (k : IntKind) (nb : Nat) (K : Value → World → Prop) (w : World) (ht : tkind P t = some 6) (he : telem P t = some e) (hb : tbytes P e = some nb) (h0 : 0 ≤ n) (h1 : n ≤ 1000000) (h2 : nb ≤ 1000000) :
    OpX P (.makeChan t (.const (.int k n))) ty K w = K (.chan (some w.heap.size)) (w.alloc (.chan n.toNat #[] false 0 0 false)) := by
  obtain ⟨d, e', hu⟩ := tkind_6 ht
  have e1 : e' = e := by simpa [telem, hu] using he
  subst e1
  obtain ⟨i, hi, hib⟩ := run_info hb w
  refine OpX_ok fun ρ hg => ?_
  have h3 : ¬ (n < 0 ∨ IntKind.i64.max < n ∨ 281474976710544 < (i.bytes : Int) * n) := by
    rw [hib]
    have h4 : IntKind.i64.max = 9223372036854775807 := by decide
    have h5 : (nb : Int) * n ≤ 1000000 * 1000000 := Int.mul_le_mul (by omega) h1 h0 (by omega)
    rw [h4]; omega
  have h4 : IntKind.i64.max = 9223372036854775807 := by decide
  rw [h4] at h3
  simp [execOp, mkOper, hg.1, Instr.makeChan, asInt, asIntOf, run_underlying hu, hi, h4, h3]
@[go_sem] theorem x_makeChan (t ty : TypeId) (n : Int) (k : IntKind) (K : Value → World → Prop) (w : World) (h0 : 0 ≤ n) (h1 : n ≤ 1000000) :
    OpX P (.makeChan t (.const (.int k n))) ty K w = OrK (tchan P t) (fun _ => K (.chan (some w.heap.size)) (w.alloc (.chan n.toNat #[] false 0 0 false))) (OpX P (.makeChan t (.const (.int k n))) ty K w) () := by
  refine OrK_by (fun q h => ?_) rfl
  unfold tchan at h
  cases hu : P.underlying t with
  | none => rw [hu] at h; simp at h
  | some d =>
    rw [hu] at h
    cases d with
    | chan d e =>
      simp only [Option.bind_some] at h
      obtain ⟨nb, hb, h⟩ := Option.bind_eq_some_iff.1 h
      split at h
      · rename_i hle
        exact x_makeChan0 t ty e n k nb K w (by simp [tkind, hu]) (by simp [telem, hu]) hb h0 h1 hle
      · simp at h
    | _ => simp at h
theorem comm_of {cases_ : Array CommCase} {w w' : World} {K : Value → World → Prop} {v : Value} (hk : K v w')
    (h : ∀ (fr : Frame) (cs : List Frame) (es : Array Event), stepG P true (Conc.G fr cs) w = .comm (Conc.G fr cs) cases_ false .select w es → step P (Conc.solo (Conc.G fr cs) w) = .next (Conc.solo (Conc.G (fr.finish v) cs) w')) :
    CommP P cases_ false .select w K := ⟨fun fr cs es he => ⟨v, w', hk, h fr cs es he⟩⟩
theorem run_select_recv (ρ : Operand → Value) (hg : Good ρ) (ty e : TypeId) (c : Nat) (z : Value) (w : World) (hz : tzero P e = some z) :
    (execOp ρ (mkOper (.select #[{ chan := .const (.chan (some c)), send := none, elem := e }] false) ty)).run P w = .ok (.comm #[Conc.rcase c z] false .select) w := by
  simp [execOp, mkOper, hg.1, Conc.rcase, run_zero hz]
theorem run_select_send (ρ : Operand → Value) (hg : Good ρ) (ty e : TypeId) (c : Nat) (v z : Value) (w : World) (hz : tzero P e = some z) :
    (execOp ρ (mkOper (.select #[{ chan := .const (.chan (some c)), send := some (.const v), elem := e }] false) ty)).run P w = .ok (.comm #[Conc.scase c v z] false .select) w := by
  simp [execOp, mkOper, hg.1, Conc.scase, run_zero hz]
theorem sel_recv_some {ty e : TypeId} {c cap s r : Nat} {buf : Array Value} {closed tm : Bool} {z : Value} {K : Value → World → Prop} {w : World} (hz : tzero P e = some z) (hc : w.heap[c]? = some (.chan cap buf closed s r tm)) (hb : 0 < buf.size)
    (hk : K (.tuple #[.int .i64 0, .bool true, buf.getD 0 undef]) (setBlk w c (.chan cap (buf.extract 1 buf.size) closed s (r + 1) tm))) :
    OpX P (.select #[{ chan := .const (.chan (some c)), send := none, elem := e }] false) ty K w := by
  refine ⟨fun ρ hg => ?_⟩
  rw [run_select_recv ρ hg ty e c z w hz]
  exact ⟨rfl, comm_of hk fun fr cs es he => Conc.step_lone_select_recv_buf he hc hb⟩
theorem sel_recv_none {ty e : TypeId} {c cap s r : Nat} {tm : Bool} {z : Value} {K : Value → World → Prop} {w : World} (hz : tzero P e = some z) (hc : w.heap[c]? = some (.chan cap #[] false s r tm))
    (hk : K (.tuple #[.int .i64 (-1), .bool false, z]) w) :
    OpX P (.select #[{ chan := .const (.chan (some c)), send := none, elem := e }] false) ty K w := by
  refine ⟨fun ρ hg => ?_⟩
  rw [run_select_recv ρ hg ty e c z w hz]
  exact ⟨rfl, comm_of hk fun fr cs es he => Conc.step_lone_select_default he hc⟩
theorem sel_send_room {ty e : TypeId} {c cap s r : Nat} {buf : Array Value} {tm : Bool} {v z : Value} {K : Value → World → Prop} {w : World} (hz : tzero P e = some z) (hc : w.heap[c]? = some (.chan cap buf false s r tm)) (hb : buf.size < cap)
    (hk : K (.tuple #[.int .i64 0, .bool false]) (setBlk w c (.chan cap (buf.push v) false (s + 1) r tm))) :
    OpX P (.select #[{ chan := .const (.chan (some c)), send := some (.const v), elem := e }] false) ty K w := by
  refine ⟨fun ρ hg => ?_⟩
  rw [run_select_send ρ hg ty e c v z w hz]
  exact ⟨rfl, comm_of hk fun fr cs es he => Conc.step_lone_select_send_room he hc hb⟩
theorem sel_send_full {ty e : TypeId} {c cap s r : Nat} {buf : Array Value} {tm : Bool} {v z : Value} {K : Value → World → Prop} {w : World} (hz : tzero P e = some z) (hc : w.heap[c]? = some (.chan cap buf false s r tm)) (hb : cap ≤ buf.size)
    (hk : K (.tuple #[.int .i64 (-1), .bool false]) w) :
    OpX P (.select #[{ chan := .const (.chan (some c)), send := some (.const v), elem := e }] false) ty K w := by
  refine ⟨fun ρ hg => ?_⟩
  rw [run_select_send ρ hg ty e c v z w hz]
  exact ⟨rfl, comm_of hk fun fr cs es he => Conc.step_lone_select_send_full he hc hb⟩
theorem sel_recv_cons {ty e : TypeId} {c cap s r : Nat} {x : Value} {xs : List Value} {closed tm : Bool} {z : Value} {K : Value → World → Prop} {w : World} (hz : tzero P e = some z) (hc : w.heap[c]? = some (.chan cap (x :: xs).toArray closed s r tm))
    (hk : K (.tuple #[.int .i64 0, .bool true, x]) (setBlk w c (.chan cap xs.toArray closed s (r + 1) tm))) :
    OpX P (.select #[{ chan := .const (.chan (some c)), send := none, elem := e }] false) ty K w := by
  refine sel_recv_some hz hc (by simp) ?_
  have e : (x :: xs).toArray.extract 1 (x :: xs).toArray.size = xs.toArray := by simp [List.take_of_length_le]
  rw [e]; exact hk
theorem sel_send_list {ty e : TypeId} {c cap s r : Nat} {xs : List Value} {tm : Bool} {v z : Value} {K : Value → World → Prop} {w : World} (hz : tzero P e = some z) (hc : w.heap[c]? = some (.chan cap xs.toArray false s r tm)) (hb : xs.length < cap)
    (hk : K (.tuple #[.int .i64 0, .bool false]) (setBlk w c (.chan cap (xs ++ [v]).toArray false (s + 1) r tm))) :
    OpX P (.select #[{ chan := .const (.chan (some c)), send := some (.const v), elem := e }] false) ty K w := by
  refine sel_send_room hz hc (by simpa using hb) ?_
  rw [List.push_toArray]; exact hk
theorem run_getObj' {c cap s r : Nat} {buf : Array Value} {closed tm : Bool} {w : World} (hc : w.heap[c]? = some (.chan cap buf closed s r tm)) : (getObj c).run P w = .ok (.chan cap buf closed s r tm) w := by
  simp [getObj, Sem.run, hc]
theorem x_len_chan (t ty : TypeId) (c cap s r : Nat) (buf : Array Value) (closed : Bool) (K : Value → World → Prop) (w : World) (h : tkind P t = some 6) (hc : w.heap[c]? = some (.chan cap buf closed s r false)) :
    OpX P (.call { callee := .builtin .len, args := #[.const (.chan (some c))], argTypes := #[t] }) ty K w = K (.int .i64 buf.size) w := by
  obtain ⟨d, e, he⟩ := tkind_6 h
  exact OpX_ok fun ρ hg => by simp [execOp, mkOper, resolve, invoke, builtin, hg.1, Builtin.len_, run_underlying he, goInt, run_getObj' hc]
def argV : List Operand → Option (List Value)
  | [] => some []
  | .const v :: r => (argV r).map (v :: ·)
  | _ => none
theorem argV_spec {ρ : Operand → Value} (hg : Good ρ) : ∀ {l : List Operand} {vs : List Value}, argV l = some vs → l.map ρ = vs
  | [], vs, h => by simp [argV] at h; subst h; rfl
  | x :: r, vs, h => by
    cases x with
    | const v =>
      simp only [argV, Option.map_eq_some_iff] at h
      obtain ⟨us, hu, rfl⟩ := h
      simp [argV_spec hg hu, hg.1]
    | _ => simp [argV] at h
theorem OpX.call {f : FuncId} {l : List Operand} {vs : List Value} {ats : Array TypeId} {ty : TypeId} {K : Value → World → Prop} {w : World} (hb : Bodied P f) (hl : argV l = some vs) (h : Calls P f vs.toArray w (retK K)) :
    OpX P (.call { callee := .value (.func f), args := l.toArray, argTypes := ats }) ty K w := by
  refine ⟨fun ρ hg => ?_⟩
  have : (execOp ρ (mkOper (.call { callee := .value (.func f), args := l.toArray, argTypes := ats }) ty)).run P w = .ok (.enter f vs.toArray) w := by
    simp [execOp, mkOper, resolve, invoke, hg.2.2, Deferred.ofValue, argV_spec hg hl, run_callFunc hb]
  rw [this]
  exact h
theorem OpX.callV {f : FuncId} {us cs : List Value} {l : List Operand} {vs : List Value} {ats : Array TypeId} {ty : TypeId} {K : Value → World → Prop} {w : World} (hb : Bodied P f) (hl : argV l = some vs) (h : Calls P f (us ++ vs ++ cs).toArray w (retK K)) :
    OpX P (.call { callee := .value (.const (.func (.func f) us.toArray cs.toArray)), args := l.toArray, argTypes := ats }) ty K w := by
  refine ⟨fun ρ hg => ?_⟩
  have : (execOp ρ (mkOper (.call { callee := .value (.const (.func (.func f) us.toArray cs.toArray)), args := l.toArray, argTypes := ats }) ty)).run P w = .ok (.enter f (us ++ vs ++ cs).toArray) w := by
    simp [execOp, mkOper, resolve, invoke, hg.1, Deferred.ofValue, argV_spec hg hl, run_callFunc hb]
  rw [this]
  exact h
theorem Calls.ret {f : FuncId} {args : Array Value} {w : World} {R : Value → World → Prop} {K : Value → World → Prop} (h : Calls P f args w (retK R)) (hk : ∀ v w', R v w' → K v w') : Calls P f args w (retK K) :=
  h.mono fun e w' he => by cases e <;> first | exact hk _ _ he | exact he
end
end Lyc
