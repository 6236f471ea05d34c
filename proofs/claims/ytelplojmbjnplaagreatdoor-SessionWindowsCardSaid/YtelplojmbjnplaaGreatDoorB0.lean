/- Helpers of this claim, part 0: engine, translated functions, contracts, plain laws. -/
import Derived.WalkKit
import Derived.WalkSpells
import Derived.WalkLawsBesides
import Derived.Conc.LoneSelect
import Derived.ProofKit
import Derived.Deep.Slices
import Derived.Deep.Fields
import Derived.ChangeSame
import Derived.ChangeVars
import Derived.Handed
import Derived.Laws.OwnMore
import Derived.Laws.AppendOwn
import Derived.Great.BuildSlice
import Derived.Laws.MakeOwn
import Derived.Laws.AppendOwnNone
import Derived.Maps.AppendAt
import Derived.Deep.Matrix
import Derived.OpenShut
import Derived.Test.YtelplojmbjnplaaGreatDoorProg
set_option linter.unusedSimpArgs false
set_option linter.unusedVariables false
namespace Lyc
open Go
def At (b:Frame) (a:Act) (todo:List Item):Frame:={ b with tmps:=a.tmps,defers:=a.defers,todo:=todo,mode:=.run }
theorem G3 (b:Frame) (a:Act) (todo:List Item):(At b a todo).eval=a.eval:=by
 funext x;cases x<;>rfl
def Ab (w:World) (b:Nat) (o:Obj):World:={ w with heap:=w.heap.setIfInBounds b o }
def Ad (P:Program) (f:FuncId):Prop:=∃fn,P.funcs[f]?=some fn∧fn.body.isNone=false∧(fn.name == "runtime.NumGoroutine")=false
theorem Fs {P:Program} {f:FuncId} (h:Ad P f) (args:Array Value) (w:World):(callFunc f args).run P w=.ok (.enter f args) w:=by
 obtain⟨fn,h1,h2,h3⟩:=h
 have h2':fn.body≠none:=by intro h;rw[h] at h2;simp at h2
 have h3':fn.name ≠ "runtime.NumGoroutine":=by simpa using h3
 simp [callFunc,h1,h2',h3']
section steps
variable {P:Program} {b:Frame} {a:Act} {k:List Item} {cs:List Frame} {w:World}
theorem RA:step P (lone (At b a (.code .skip::k)) cs w)=.next (lone (At b a k) cs w) :=
 step_lone_go (by simp [stepG,stepG.exec,At])
theorem Vl {l:Nat}:step P (lone (At b a (.code (.label l)::k)) cs w)=.next (lone (At b a k) cs w) :=
 step_lone_go (by simp [stepG,stepG.exec,At])
theorem G6 {c:Code}:step P (lone (At b a (.code (.scope c)::k)) cs w)=.next (lone (At b a (.code c::.inScope c::k)) cs w) :=
 step_lone_go (by simp [stepG,stepG.exec,At])
theorem Qk {id:Nat}:step P (lone (At b a (.inBlock id::k)) cs w)=.next (lone (At b a k) cs w) :=
 step_lone_go (by simp [stepG,stepG.exec,At])
theorem WL {c:Code}:step P (lone (At b a (.inScope c::k)) cs w)=.next (lone (At b a k) cs w) :=
 step_lone_go (by simp [stepG,stepG.exec,At])
theorem G4 {x y:Code}:step P (lone (At b a (.code (.seq x y)::k)) cs w)=.next (lone (At b a (.code x::.code y::k)) cs w) :=
 step_lone_go (by simp [stepG,stepG.exec,At])
theorem UN {c:Operand} {x y:Code} {t:Bool} (h:a.eval c=.bool t) :
  step P (lone (At b a (.code (.cond c x y)::k)) cs w)=.next (lone (At b a (.code (if t then x else y)::k)) cs w) :=
 step_lone_go (by
  have:=congrFun (G3 b a (.code (.cond c x y)::k)) c
  simp only[At] at this
  simp [stepG,stepG.exec,At,this,h])
theorem Gk {id:Nat} {c:Code}:step P (lone (At b a (.code (.block id c)::k)) cs w)=.next (lone (At b a (.code c::.inBlock id::k)) cs w) :=
 step_lone_go (by simp [stepG,stepG.exec,At])
theorem YL {c:Code}:step P (lone (At b a (.code (.loop c)::k)) cs w)=.next (lone (At b a (.code c::.inLoop c::k)) cs w) :=
 step_lone_go (by simp [stepG,stepG.exec,At])
theorem ZR {c:Code}:step P (lone (At b a (.inLoop c::k)) cs w)=.next (lone (At b a (.code c::.inLoop c::k)) cs w) :=
 step_lone_go (by simp [stepG,stepG.exec,At])
theorem Z1 {id:Nat} {k':List Item} (h:exitTo id k=some k') :
  step P (lone (At b a (.code (.exit id)::k)) cs w)=.next (lone (At b a k') cs w) :=
 step_lone_go (by simp [stepG,stepG.exec,At,h])
theorem Ym {id:Nat} {ops:Array Oper} :
  step P (lone (At b a (.code (.region id ops false)::k)) cs w)=.next (lone (At b a (.inRegion ops (List.range ops.size)::k)) cs w) :=
 step_lone_go (by simp [stepG,stepG.exec,At])
theorem YV {id:Nat} {ops:Array Oper} :
  step P (lone (At b a (.code (.region id ops true)::k)) cs w) =
   .next (lone (At b a (.inRegion ops (Region.schedule (P.follows .mixedOrders) ops (w.tape w.drawn (.order b.fn id)))::k)) cs { w with drawn:=w.drawn+1 }) :=
 step_lone_go (by simp [stepG,stepG.exec,At,choose,Sem.run,Question.forced,Question.cut])
theorem J0 {ops:Array Oper}:step P (lone (At b a (.inRegion ops []::k)) cs w)=.next (lone (At b a k) cs w) :=
 step_lone_go (by simp [stepG,stepG.exec,At])
theorem IU (ops:Array Oper) (i:Nat) (rest:List Nat) (v:Value) :
  (At b a (.inRegion ops (i::rest)::k)).finish v=At b (a.put ((ops[i]?).bind (·.dst)) v) (.inRegion ops rest::k):=by
 cases h:(ops[i]?).bind (·.dst)<;>simp [Frame.finish,At,Act.put,h]
theorem L5 {ops:Array Oper} {i:Nat} {rest:List Nat} (h:((ops[i]?).map (Region.wanted · (yielded ops a.tmps))).getD false=false) :
  step P (lone (At b a (.inRegion ops (i::rest)::k)) cs w)=.next (lone (At b (a.put ((ops[i]?).bind (·.dst)) undef) (.inRegion ops rest::k)) cs w):=by
 rw[←IU]
 exact step_lone_go (by
  have h':=h
  simp only[At] at *
  simp [stepG,stepG.exec,h'])
end steps
section rangeSteps
variable {P:Program} {b:Frame} {a:Act} {k:List Item} {cs:List Frame} {w:World}
theorem Nu (o:Obj):(newObj o).run P w=.ok w.heap.size (w.alloc o):=by simp [newObj,Sem.run]
theorem DT {l:Nat} {L:Loop} (h:w.heap[l]?=some (.loop L)):(Instr.getLoop l).run P w=.ok L w:=by simp [Instr.getLoop,getObj,Sem.run,h]
theorem EK {l:Nat} {L:Loop} {o:Obj} (h:w.heap[l]?=some (.loop L)):(setObj l o).run P w=.ok () (Ab w l o):=by simp [setObj,Sem.run,Ab,h]
theorem SM {r:Nat} {d:Option (List Deferred)} (h:w.heap[r]?=some (.deferred d)):(getObj r).run P w=.ok (.deferred d) w:=by simp [getObj,Sem.run,h]
theorem Ry {r:Nat} {d:Option (List Deferred)} {o:Obj} (h:w.heap[r]?=some (.deferred d)):(setObj r o).run P w=.ok () (Ab w r o):=by simp [setObj,Sem.run,Ab,h]
theorem Wi {f:Operand} {params:Array Tmp} {assign body:Code} {g:FuncId} {us vs:Array Value} (hro:b.roundOf=none) (hf:a.eval f=.func (.func g) us vs) (hg:Ad P g) :
  step P (lone (At b a (.code (.rangeFunc f params assign body)::k)) cs w) =
   .next (lone (Frame.enter P g (us++#[.func (.yield (w.heap.size+1)) #[] #[]]++vs) .normal)
    (At b { a with defers:={ target:=.collected w.heap.size,args:=#[] }::a.defers } (.inRangeFunc (w.heap.size+1)::k)::cs)
    ((w.alloc (.deferred (some []))).alloc (.loop { state:=.ready,pending:=none,fn:=b.fn,tmps:=a.tmps,params,assign,body,defers:=w.heap.size }))):=by
 have he:=congrFun (G3 b { a with defers:={ target:=.collected w.heap.size,args:=#[] }::a.defers } (.inRangeFunc (w.heap.size+1)::k)) f
 simp only[At,hro] at he
 have hf':Act.eval { tmps:=a.tmps,defers:={ target:=.collected w.heap.size,args:=#[] }::a.defers } f=.func (.func g) us vs:=by rw[←hf];cases f<;>rfl
 refine step_lone_go ?_
 simp [stepG,stepG.exec,At,hro,Instr.enterLoop,Nu,stepG.apply,Sem.runT_eq,resolve,he,hf',Deferred.ofValue,invoke,Fs hg,GStep.after]
 simp [Frame.eval,Act.eval]
theorem Sq {l:Nat} {L:Loop} (hro:b.roundOf=some l) (h:w.heap[l]?=some (.loop L)) (hr:L.state=.ready) :
  step P (lone (At b a (.beginRound::k)) cs w)=.next (lone (At b a k) cs (Ab w l (.loop { L with state:=.busy }))):=by
 refine step_lone_go ?_
 simp [stepG,stepG.exec,At,hro,Instr.beginRound,DT h,EK h,hr,stepG.apply,Sem.runT_eq,Frame.finish]
theorem ZZ {l:Nat} {L:Loop} {c:Frame} (hro:b.roundOf=some l) (hk:b.kind=.normal) (h:w.heap[l]?=some (.loop L)) :
  step P (lone (At b a []) (c::cs) w)=.next (lone (c.finish (.bool true)) cs (Ab w l (.loop { L with state:=.ready,pending:=none }))):=by
 refine step_lone_go ?_
 simp [stepG,stepG.exec,At,hro,Instr.endRound,DT h,EK h,Sem.runT_eq,doReturn,hk]
theorem Wb {l:Nat} {L:Loop} {c:Frame} (hro:b.roundOf=some l) (hk:b.kind=.normal) (h:w.heap[l]?=some (.loop L)) :
  step P (lone (At b a (.code .ret::k)) (c::cs) w)=.next (lone (c.finish (.bool false)) cs (Ab w l (.loop { L with state:=.done,pending:=some .ret }))):=by
 refine step_lone_go ?_
 simp [stepG,stepG.exec,At,hro,Instr.endRound,DT h,EK h,Sem.runT_eq,doReturn,hk]
theorem Sv {l id:Nat} {L:Loop} {c:Frame} (hro:b.roundOf=some l) (hk:b.kind=.normal) (hx:exitTo id k=none) (h:w.heap[l]?=some (.loop L)) :
  step P (lone (At b a (.code (.exit id)::k)) (c::cs) w)=.next (lone (c.finish (.bool false)) cs (Ab w l (.loop { L with state:=.done,pending:=some (.exit id) }))):=by
 refine step_lone_go ?_
 simp [stepG,stepG.exec,At,hx,hro,Instr.endRound,DT h,EK h,Sem.runT_eq,doReturn,hk]
theorem HI {l:Nat} {L:Loop} (h:w.heap[l]?=some (.loop L)) (hs:L.state≠.busy) :
  step P (lone (At b a (.endRangeFunc l::k)) cs w)=.next (lone (At b a ((L.pending.map Item.code).toList++k)) cs (Ab w l (.loop { L with state:=.exhausted }))):=by
 refine step_lone_go ?_
 simp [stepG,stepG.exec,At,Instr.endLoop,DT h,EK h,hs,Sem.runT_eq]
theorem SZ {r:Nat} {d:Deferred} {ds:List Deferred} {fr:Frame} (hd:d.target=.collected r) (hf:fr.defers=d::ds) (hm:fr.mode=.returning) (h:w.heap[r]?=some (.deferred (some []))) :
  step P (lone fr cs w)=.next (lone { fr with defers:=ds } cs (Ab w r (.deferred none))):=by
 obtain⟨tg,args⟩:=d
 dsimp only at hd
 subst hd
 refine step_lone_go ?_
 simp [stepG,unwind,hf,hm,Instr.takeDeferred,SM h,Ry h,Sem.runT_eq]
end rangeSteps
inductive Ex where
 | normal
 | exit (id:Nat)
 | ret
def EE (P:Program) (m:Machine) (b:Frame) (k:List Item) (cs:List Frame):Ex→Act→World→Prop
 | .normal,a,w=>Steps P m (lone (At b a k) cs w)
 | .exit id,a,w=>∃k',exitTo id k'=exitTo id k∧Steps P m (lone (At b a (.code (.exit id)::k')) cs w)
 | .ret,a,w=>∃k',Steps P m (lone (At b a (.code .ret::k')) cs w)
theorem EE.of {P:Program} {m m₁:Machine} {b:Frame} {k:List Item} {cs:List Frame} {e:Ex} {a:Act} {w:World}
  (h:Steps P m m₁) (h':EE P m₁ b k cs e a w):EE P m b k cs e a w:=by
 cases e with
 | normal=>exact h.trans h'
 | exit id=>exact let ⟨k',e,s⟩:=h';⟨k',e,h.trans s⟩
 | ret=>exact let ⟨k',s⟩:=h';⟨k',h.trans s⟩
def WP (P:Program) (ro:Option Nat) (c:Code) (Q:Ex→Act→World→Prop) (a:Act) (w:World):Prop :=
 ∀(b:Frame) (k:List Item) (cs:List Frame),b.roundOf=ro→∃e a' w',Q e a' w'∧EE P (lone (At b a (.code c::k)) cs w) b k cs e a' w'
section rules
variable {P:Program} {ro:Option Nat} {Q:Ex→Act→World→Prop} {a:Act} {w:World}
theorem WP.mono {c:Code} {Q':Ex→Act→World→Prop} (h:WP P ro c Q a w) (hq:∀e a w,Q e a w→Q' e a w):WP P ro c Q' a w :=
 fun b k cs hro=>let ⟨e,a',w',q,r⟩:=h b k cs hro;⟨e,a',w',hq _ _ _ q,r⟩
theorem WP.skip (h:Q .normal a w):WP P ro .skip Q a w:=fun _ _ _ _=>⟨.normal,a,w,h,.one RA⟩
theorem WP.exit {id:Nat} (h:Q (.exit id) a w):WP P ro (.exit id) Q a w:=fun _ k _ _=>⟨.exit id,a,w,h,k,rfl,.refl _ _⟩
theorem WP.ret (h:Q .ret a w):WP P ro .ret Q a w:=fun _ k _ _=>⟨.ret,a,w,h,k,.refl _ _⟩
def Ex.thn (next:Act→World→Prop) (Q:Ex→Act→World→Prop):Ex→Act→World→Prop
 | .normal,a,w=>next a w
 | e,a,w=>Q e a w
theorem WP.seq {x y:Code} (h:WP P ro x (Ex.thn (WP P ro y Q) Q) a w):WP P ro (.seq x y) Q a w:=by
 intro b k cs hro
 obtain⟨e,a₁,w₁,hq,hr⟩:=h b (.code y::k) cs hro
 cases e with
 | normal =>
  obtain⟨e₂,a₂,w₂,hq₂,hr₂⟩:=hq b k cs hro
  exact⟨e₂,a₂,w₂,hq₂,.of (.head G4 hr) hr₂⟩
 | exit id=>exact⟨_,a₁,w₁,hq,let ⟨k',he,s⟩:=hr;⟨k',he,.head G4 s⟩⟩
 | ret=>exact⟨_,a₁,w₁,hq,let ⟨k',s⟩:=hr;⟨k',.head G4 s⟩⟩
theorem WP.cond {c:Operand} {x y:Code} {t:Bool} (hc:a.eval c=.bool t) (h:WP P ro (if t then x else y) Q a w):WP P ro (.cond c x y) Q a w :=
 fun b k cs hro=>let ⟨e,a',w',q,r⟩:=h b k cs hro;⟨e,a',w',q,.of (.one (UN hc)) r⟩
def Ex.inBlk (id:Nat) (Q:Ex→Act→World→Prop):Ex→Act→World→Prop
 | .exit id',a,w=>if id'=id then Q .normal a w else Q (.exit id') a w
 | e,a,w=>Q e a w
theorem WP.block {id:Nat} {c:Code} (h:WP P ro c (Ex.inBlk id Q) a w):WP P ro (.block id c) Q a w:=by
 intro b k cs hro
 obtain⟨e,a₁,w₁,hq,hr⟩:=h b (.inBlock id::k) cs hro
 cases e with
 | normal=>exact⟨.normal,a₁,w₁,hq,.head Gk (Steps.trans hr (.one Qk))⟩
 | exit id' =>
  obtain⟨k',he,s⟩:=hr
  by_cases hid:id'=id
  ·simp only[Ex.inBlk,hid,if_true] at hq
   refine⟨.normal,a₁,w₁,hq,.head Gk (s.trans (.one (Z1 ?_)))⟩
   rw[he];simp [exitTo,hid]
  ·simp only[Ex.inBlk,hid,if_false] at hq
   refine⟨.exit id',a₁,w₁,hq,k',?_,.head Gk s⟩
   rw[he]
   have:(id == id')=false:=by simp;exact fun h=>hid h.symm
   simp [exitTo,this]
 | ret=>exact⟨_,a₁,w₁,hq,let ⟨k',s⟩:=hr;⟨k',.head Gk s⟩⟩
theorem WP.label {l:Nat} (h:Q .normal a w):WP P ro (.label l) Q a w:=fun _ _ _ _=>⟨.normal,a,w,h,.one Vl⟩
theorem WP.scope {c:Code} (h:WP P ro c Q a w):WP P ro (.scope c) Q a w:=by
 intro b k cs hro
 obtain⟨e,a₁,w₁,hq,hr⟩:=h b (.inScope c::k) cs hro
 cases e with
 | normal=>exact⟨.normal,a₁,w₁,hq,.head G6 (Steps.trans hr (.one WL))⟩
 | exit id' =>
  obtain⟨k',he,s⟩:=hr
  exact⟨.exit id',a₁,w₁,hq,k',by rw[he];simp [exitTo],.head G6 s⟩
 | ret=>exact⟨_,a₁,w₁,hq,let ⟨k',s⟩:=hr;⟨k',.head G6 s⟩⟩
theorem WP.loop {c:Code} (I:Act→World→Prop) (μ:Act→World→Nat) (h₀:I a w)
  (round:∀a w,I a w→WP P ro c (Ex.thn (fun a' w'=>I a' w'∧μ a' w'<μ a w) Q) a w):WP P ro (.loop c) Q a w:=by
 intro b k cs hro
 have key:∀n a w,μ a w=n→I a w→∃e a' w',Q e a' w'∧EE P (lone (At b a (.code c::.inLoop c::k)) cs w) b k cs e a' w':=by
  intro n
  induction n using Nat.strongRecOn with
  | _ n ih =>
   intro a w hn hI
   obtain⟨e,a₁,w₁,hq,hr⟩:=round a w hI b (.inLoop c::k) cs hro
   cases e with
   | normal =>
    obtain⟨hI₁,hlt⟩:=hq
    obtain⟨e₂,a₂,w₂,hq₂,hr₂⟩:=ih (μ a₁ w₁) (hn ▸ hlt) a₁ w₁ rfl hI₁
    exact⟨e₂,a₂,w₂,hq₂,.of (Steps.trans hr (.one ZR)) hr₂⟩
   | exit id=>exact⟨_,a₁,w₁,hq,let ⟨k',he,s⟩:=hr;⟨k',he,s⟩⟩
   | ret=>exact⟨_,a₁,w₁,hq,hr⟩
 obtain⟨e,a',w',hq,hr⟩:=key _ a w rfl h₀
 exact⟨e,a',w',hq,.of (.one YL) hr⟩
end rules
def Ac (K:Value→World→Prop):Ending→World→Prop
 | .returned v,w=>K v w
 | _,_=>False
inductive RoundP (P:Program) (l f:Nat) (tmps:Array Value) (assign body:Code) (w:World) (K:Value→World→Prop):Prop
 | mk (h:∀(c:Frame) (cs:List Frame),∃v w',K v w'∧Steps P (lone (Frame.round l f tmps assign body .normal) (c::cs) w) (lone (c.finish v) cs w'))
inductive CommP (P:Program) (cases:Array CommCase) (blocking:Bool) (shape:CommShape) (w:World) (K:Value→World→Prop):Prop
 | mk (h:∀(fr:Frame) (cs:List Frame) (es:Array Event),
   stepG P true { frame:=fr,callers:=cs,status:=.running,dying:=none } w=.comm { frame:=fr,callers:=cs,status:=.running,dying:=none } cases blocking shape w es →
   ∃v w',K v w'∧step P (lone fr cs w)=.next (lone (fr.finish v) cs w'))
def Bp (P:Program) (w0:World) (K:Value→World→Prop):Result Next→Prop
 | .ok (.value v) w=>K v w
 | .ok .skip w=>K undef w
 | .ok (.enter f args) w=>Calls P f args w (Ac K)
 | .ok (.round l f tmps assign body) w=>RoundP P l f tmps assign body w K
 | .ok (.row row args) w=>Rows P row args w K
 | .ok (.comm cases blocking shape) w=>w=w0∧CommP P cases blocking shape w K
 | _=>False
def BB (ρ:Operand→Value):Prop:=(∀v,ρ (.const v)=v)∧(∀g,ρ (.global g)=.pointer (some ⟨g,0,none⟩))∧(∀f,ρ (.func f)=.func (.func f) #[] #[])
def An (op:Op) (type:TypeId):Oper:={ dst:=none,op,type,pos := "",after:=#[],guard:=none }
abbrev WK {α:Sort _} (_:α):Type:=World
abbrev WK2 {α β:Sort _} (_:α) (_:β):Type:=World
abbrev UK {α:Sort _} (_:α):Type:=Unit
abbrev UK2 {α β:Sort _} (_:α) (_:β):Type:=Unit
inductive OpX (P:Program) (op:Op) (type:TypeId) (K:Value→World→Prop) (w:WK K):Prop
 | mk (h:∀ρ,BB ρ→Bp P w K ((execOp ρ (An op type)).run P w))
theorem OpX.out {P:Program} {op:Op} {type:TypeId} {K:Value→World→Prop} {w:World}:OpX P op type K w↔∀ρ,BB ρ→Bp P w K ((execOp ρ (An op type)).run P w) :=
 ⟨fun⟨h⟩=>h,fun h=>⟨h⟩⟩
theorem HF (a:Act):BB a.eval:=⟨fun _=>rfl,fun _=>rfl,fun _=>rfl⟩
section op
variable {P:Program} {b:Frame} {a:Act} {k:List Item} {cs:List Frame} {w:World} {ops:Array Oper}
theorem RH {i:Nat} {rest:List Nat} {o:Oper} (ho:ops[i]?=some o) (hw:Region.wanted o (yielded ops a.tmps)=true) (hd:∀c,o.op≠.defer c) :
  stepG P true { frame:=At b a (.inRegion ops (i::rest)::k),callers:=cs,status:=.running,dying:=none } w =
   stepG.apply P true (At b a (.inRegion ops (i::rest)::k)) cs none (execOp a.eval o) w:=by
 have he:=G3 b a (.inRegion ops (i::rest)::k)
 simp only[At] at he
 cases hr:b.roundOf with
 | none =>
  rw[hr] at he
  simp [stepG,stepG.exec,stepG.oper,Frame.oper?,At,ho,hw,he,hr]
 | some l =>
  rw[hr] at he
  simp only[stepG,stepG.exec,stepG.oper,Frame.oper?,At,ho,hw,he,hr,Option.map_some,Option.getD_some,if_true]
  split
  ·exact absurd (by assumption) (hd _)
  ·rfl
theorem Kz {i:Nat} {rest:List Nat} {o:Oper} {K:Value→World→Prop} (ho:ops[i]?=some o) (hw:Region.wanted o (yielded ops a.tmps)=true) (hd:∀c,o.op≠.defer c)
  (h:Bp P w K ((execOp a.eval o).run P w)) :
  ∃v w',K v w'∧Steps P (lone (At b a (.inRegion ops (i::rest)::k)) cs w) (lone (At b (a.put o.dst v) (.inRegion ops rest::k)) cs w'):=by
 have hg:=RH (P:=P) (b:=b) (k:=k) (cs:=cs) (w:=w) (rest:=rest) ho hw hd
 have hfin:∀v,(At b a (.inRegion ops (i::rest)::k)).finish v=At b (a.put o.dst v) (.inRegion ops rest::k):=by
  intro v;rw[IU,ho];rfl
 unfold Bp at h
 split at h
 ·rename_i v w' hr
  refine⟨v,w',h,.one (step_lone_go ?_)⟩
  rw[hg,←hfin];simp [stepG.apply,hr]
 ·rename_i w' hr
  refine⟨undef,w',h,.one (step_lone_go ?_)⟩
  rw[hg,←hfin];simp [stepG.apply,hr]
 ·rename_i f args w' hr
  obtain⟨e,w'',fr,hR,hs,_,hl⟩:=h (At b a (.inRegion ops (i::rest)::k)::cs)
  have henter:step P (lone (At b a (.inRegion ops (i::rest)::k)) cs w)=.next (lone (Frame.enter P f args .normal) (At b a (.inRegion ops (i::rest)::k)::cs) w') :=
   step_lone_go (by rw[hg];simp [stepG.apply,hr,At])
  cases e with
  | returned v =>
   refine⟨v,w'',hR,.head henter (Steps.trans hs (.one ?_))⟩
   rw[←hfin];exact step_leave_returned hl
  | panicked chain=>exact hR.elim
  | outgrown=>exact hR.elim
 ·rename_i l f tmps assign body w' hr
  obtain⟨h⟩:=h
  obtain⟨v,w'',hR,hs⟩:=h (At b a (.inRegion ops (i::rest)::k)) cs
  have henter:step P (lone (At b a (.inRegion ops (i::rest)::k)) cs w)=.next (lone (Frame.round l f tmps assign body .normal) (At b a (.inRegion ops (i::rest)::k)::cs) w') :=
   step_lone_go (by rw[hg];simp [stepG.apply,hr])
  rw[hfin] at hs
  exact⟨v,w'',hR,.head henter hs⟩
 ·rename_i row args w' hr
  obtain⟨v,w'',hR,hs⟩:=h (At b a (.inRegion ops (i::rest)::k)) cs
  have henter:step P (lone (At b a (.inRegion ops (i::rest)::k)) cs w)=.next (lone (Frame.ofRow P row args .normal) (At b a (.inRegion ops (i::rest)::k)::cs) w') :=
   step_lone_go (by rw[hg];simp [stepG.apply,hr,At])
  rw[hfin] at hs
  exact⟨v,w'',hR,.head henter hs⟩
 ·rename_i cases blocking shape w' hr
  obtain⟨rfl,⟨h⟩⟩:=h
  have hst:∃es,stepG P true { frame:=At b a (.inRegion ops (i::rest)::k),callers:=cs,status:=.running,dying:=none } w' =
    .comm { frame:=At b a (.inRegion ops (i::rest)::k),callers:=cs,status:=.running,dying:=none } cases blocking shape w' es:=by
   rw[hg]
   have hrT:((execOp a.eval o).runT P w' #[]).1=.ok (.comm cases blocking shape) w':=by rw[Sem.runT_eq];exact hr
   simp only[stepG.apply,if_true]
   generalize (execOp a.eval o).runT P w' #[]=x at hrT
   obtain⟨r,es⟩:=x
   dsimp only at hrT
   subst hrT
   exact⟨_,rfl⟩
  obtain⟨es,hst⟩:=hst
  obtain⟨v,w'',hK,hs⟩:=h _ _ _ hst
  rw[hfin] at hs
  exact⟨v,w'',hK,.one hs⟩
 ·exact h.elim
end op
inductive Ent where
 | unk
 | und
 | val (v:Value)
 | lit (b:Bool)
abbrev Env:=List (Nat × Ent)
def Env.get:List (Nat × Ent)→Nat→Ent
 | [],_=>.unk
 | (d,x)::e,i=>bif Nat.beq d i then x else Env.get e i
def Ent.ok (x:Ent) (v:Value):Prop :=
 match x with
 | .unk=>True
 | .und=>v=undef
 | .val u=>v=u
 | .lit b=>v=.bool b
def DK:Nat:=1000000
def Gh (d:Deferred):Option Nat:=match d.target with|.collected r=>some r|_=>none
def CA:List Deferred→Option (List Nat)
 | []=>some []
 | d::ds=>match Gh d,CA ds with|some r,some rs=>some (r::rs)|_,_=>none
def Ca (ds:List Deferred):Value:=match CA ds with|some rs=>.tuple (rs.map fun r:Nat=>Value.int .i64 (r:Int)).toArray|none=>.bool false
def Ah (a:Act) (d:Nat):Value:=if d=DK then Ca a.defers else a.tmps.getD d undef
def B7 (r:Nat):Value→Value
 | .tuple rs=>.tuple (Value.int .i64 (r:Int)::rs.toList).toArray
 | v=>v
def DO:List Value→(World→Prop)→World→Prop
 | [],K,w=>K w
 | .int _ r::l,K,w=>w.heap[r.toNat]?=some (.deferred (some []))∧DO l K (Ab w r.toNat (.deferred none))
 | _::_,_,_=>False
def BN (v:Value) (K:World→Prop) (w:World):Prop :=
 match v with
 | .tuple rs=>DO rs.toList K w
 | _=>False
def Aw (e:Env) (a:Act):Prop:=a.tmps.size≤DK∧∀d,(Env.get e d).ok (Ah a d)
def C8 (e:Env) (t:Nat):Ent:=bif Nat.beq t DK then .unk else Env.get e t
def AQ (e:Env):Operand→Ent
 | .tmp t=>C8 e t
 | .const (.bool b)=>.lit b
 | .const v=>.val v
 | .global g=>.val (.pointer (some ⟨g,0,none⟩))
 | .func f=>.val (.func (.func f) #[] #[])
def CL (e:Env):Operand→Operand
 | .tmp t=>match C8 e t with
  | .unk=>.tmp t
  | .und=>.tmp t
  | .val v=>.const v
  | .lit b=>.const (.bool b)
 | x=>x
def Cf (f:Operand→Operand):Op→Op
 | .move x=>.move (f x)
 | .assign x=>.assign (f x)
 | .pick c a b=>.pick (f c) (f a) (f b)
 | .alloc t=>.alloc t
 | .box t x=>.box t (f x)
 | .build t ps=>.build t (ps.map fun p=>(p.1,f p.2))
 | .buildSlice t n ps=>.buildSlice t n (ps.map fun p=>(p.1,f p.2))
 | .insert t m k v=>.insert t (f m) (f k) (f v)
 | .load t x=>.load t (f x)
 | .store t x y=>.store t (f x) (f y)
 | .ready g=>.ready g
 | .waits g=>.waits g
 | .nilCheck x=>.nilCheck (f x)
 | .binOp o t x y u=>.binOp o t (f x) (f y) u
 | .unOp o t x=>.unOp o t (f x)
 | .convert s d x=>.convert s d (f x)
 | .sliceToArrayPointer d x=>.sliceToArrayPointer d (f x)
 | .makeInterface t x=>.makeInterface t (f x)
 | .makeFunc g xs ys=>.makeFunc g (xs.map f) (ys.map f)
 | .makeMap t r=>.makeMap t (r.map f)
 | .makeChan t x=>.makeChan t (f x)
 | .makeSlice t x y=>.makeSlice t (f x) (f y)
 | .slice t x l h m=>.slice t (f x) (l.map f) (h.map f) (m.map f)
 | .fieldAddr t x i=>.fieldAddr t (f x) i
 | .field t x i=>.field t (f x) i
 | .indexAddr t x i=>.indexAddr t (f x) (f i)
 | .index t x i=>.index t (f x) (f i)
 | .lookup t x i ok=>.lookup t (f x) (f i) ok
 | .mapUpdate t m k v=>.mapUpdate t (f m) (f k) (f v)
 | .mapEntry t m k=>.mapEntry t (f m) (f k)
 | .entryStore t m s v=>.entryStore t (f m) (f s) (f v)
 | .range t x=>.range t (f x)
 | .next x s=>.next (f x) s
 | .entry x=>.entry (f x)
 | .typeAssert x t u ok=>.typeAssert (f x) t u ok
 | .extract x i=>.extract (f x) i
 | .call c=>.call { callee:=(match c.callee with|.value g=>.value (f g)|.invoke r n=>.invoke (f r) n|.builtin b=>.builtin b),args:=c.args.map f,argTypes:=c.argTypes }
 | .go c=>.go c
 | .defer c=>.defer c
 | .panic x=>.panic (f x)
 | .send c x=>.send (f c) (f x)
 | .recv t c ok=>.recv t (f c) ok
 | .select cs b=>.select (cs.map fun c=>{ chan:=f c.chan,send:=c.send.map f,elem:=c.elem }) b
def odd:Op→Bool
 | .go _=>true
 | .defer _=>true
 | .binOp _ _ _ _ _=>true
 | .call { callee:=.builtin .print,.. }=>true
 | .call { callee:=.builtin .println,.. }=>true
 | _=>false
theorem PR (b:Builtin) (h1:b≠.print) (h2:b≠.println) (ats:Array TypeId) (t:TypeId) (cs cs':Array Bool) (args:Array Value) :
  builtin b ats t cs args=builtin b ats t cs' args:=by
 cases b<;>first|rfl|exact absurd rfl h1|exact absurd rfl h2
theorem Hv {ρ:Operand→Value} {f:Operand→Operand} (o:Oper) (hf:∀x,ρ (f x)=ρ x) (hodd:odd o.op=false) :
  execOp ρ o=execOp ρ (An (Cf f o.op) o.type):=by
 have hm:∀xs:Array Operand,(xs.map f).map ρ=xs.map ρ:=fun xs=>by simp [Array.map_map,Function.comp_def,hf]
 have hp:∀xs:Array (Nat × Operand),(xs.map fun p=>(p.1,f p.2)).map (fun p=>(p.1,ρ p.2))=xs.map fun p=>(p.1,ρ p.2):=fun xs=>by simp [Array.map_map,Function.comp_def,hf]
 have ho:∀x:Option Operand,(x.map f).map ρ=x.map ρ:=fun x=>by cases x<;>simp [hf]
 obtain⟨dst,op,type,pos,after,guard⟩:=o
 cases op
 case call c =>
  obtain⟨callee,args,argTypes⟩:=c
  cases callee with
  | value g=>simp [execOp,Cf,An,resolve,hf,hm]
  | invoke r n=>simp [execOp,Cf,An,resolve,hf,hm]
  | builtin b =>
   have e1:∀(o:Oper),o.op=.call { callee:=.builtin b,args,argTypes }→execOp ρ o=builtin b argTypes o.type (args.map fun|.const _=>true|_=>false) (args.map ρ):=by
    intro o ho;unfold execOp;rw[ho];rfl
   have e2:∀(o:Oper),o.op=.call { callee:=.builtin b,args:=args.map f,argTypes }→execOp ρ o=builtin b argTypes o.type ((args.map f).map fun|.const _=>true|_=>false) ((args.map f).map ρ):=by
    intro o ho;unfold execOp;rw[ho];rfl
   rw[e1 _ rfl,e2 (An (Cf f (.call { callee:=.builtin b,args,argTypes })) type) rfl,hm]
   refine PR b ?_ ?_ _ _ _ _ _<;>(rintro rfl;simp [odd] at hodd)
 case select cs b =>
  simp [execOp,Cf,An,Array.mapM_map,ho,hf,Function.comp_def]
 case binOp bo t x y u=>simp [odd] at hodd
 case go c=>simp [odd] at hodd
 case defer c=>simp [odd] at hodd
 all_goals simp [execOp,Cf,An,hf,hm,hp,ho]
inductive BinX (P:Program) (op:BinOp) (t:TypeId) (a b:Value) (K:Value→World→Prop) (w:WK K):Prop
 | mk (h:∀x y:Operand,Bp P w K ((do eqGuard op t x y a b;return Next.value (←binOp op t a b)).run P w))
inductive BinN (P:Program) (op:BinOp) (t:TypeId) (a:Value) (K:Value→World→Prop) (w:WK K):Prop
 | mk (h:∀x:Operand,Bp P w K ((do eqGuard op t x (.const .nilIface) a .nilIface;return Next.value (←binOp op t a .nilIface)).run P w))
def G2:Operand→Bool
 | .const .nilIface=>true
 | _=>false
inductive BrW (v:Value) (A B:Prop) (u:UK2 A B):Prop
 | mk (b:Bool) (hv:v=.bool b) (ht:b=true→A) (hf:b=false→B)
inductive LdR (P:Program) (t:TypeId) (v:Value) (K:Value→World→Prop) (w:WK K):Prop
 | mk (a:Addr) (x:Value) (hv:v=.pointer (some a)) (h:(loadVar t a).run P w=.ok x w) (hk:K x w)
inductive Join0 (M:(World→Prop)→World→Prop) (K:World→Prop) (w:WK2 M K):Prop
 | mk (R:World→Prop) (h:M R w) (hk:∀w',R w'→K w')
inductive Join1 (M:(Value→World→Prop)→World→Prop) (K:Value→World→Prop) (w:WK2 M K):Prop
 | mk (R:Value→World→Prop) (h:M R w) (hk:∀v0 w',R v0 w'→K v0 w')
inductive Join2 (M:(Value→Value→World→Prop)→World→Prop) (K:Value→Value→World→Prop) (w:WK2 M K):Prop
 | mk (R:Value→Value→World→Prop) (h:M R w) (hk:∀v0 v1 w',R v0 v1 w'→K v0 v1 w')
inductive Join3 (M:(Value→Value→Value→World→Prop)→World→Prop) (K:Value→Value→Value→World→Prop) (w:WK2 M K):Prop
 | mk (R:Value→Value→Value→World→Prop) (h:M R w) (hk:∀v0 v1 v2 w',R v0 v1 v2 w'→K v0 v1 v2 w')
inductive Join4 (M:(Value→Value→Value→Value→World→Prop)→World→Prop) (K:Value→Value→Value→Value→World→Prop) (w:WK2 M K):Prop
 | mk (R:Value→Value→Value→Value→World→Prop) (h:M R w) (hk:∀v0 v1 v2 v3 w',R v0 v1 v2 v3 w'→K v0 v1 v2 v3 w')
inductive Join5 (M:(Value→Value→Value→Value→Value→World→Prop)→World→Prop) (K:Value→Value→Value→Value→Value→World→Prop) (w:WK2 M K):Prop
 | mk (R:Value→Value→Value→Value→Value→World→Prop) (h:M R w) (hk:∀v0 v1 v2 v3 v4 w',R v0 v1 v2 v3 v4 w'→K v0 v1 v2 v3 v4 w')
inductive Join6 (M:(Value→Value→Value→Value→Value→Value→World→Prop)→World→Prop) (K:Value→Value→Value→Value→Value→Value→World→Prop) (w:WK2 M K):Prop
 | mk (R:Value→Value→Value→Value→Value→Value→World→Prop) (h:M R w) (hk:∀v0 v1 v2 v3 v4 v5 w',R v0 v1 v2 v3 v4 v5 w'→K v0 v1 v2 v3 v4 v5 w')
inductive Join7 (M:(Value→Value→Value→Value→Value→Value→Value→World→Prop)→World→Prop) (K:Value→Value→Value→Value→Value→Value→Value→World→Prop) (w:WK2 M K):Prop
 | mk (R:Value→Value→Value→Value→Value→Value→Value→World→Prop) (h:M R w) (hk:∀v0 v1 v2 v3 v4 v5 v6 w',R v0 v1 v2 v3 v4 v5 v6 w'→K v0 v1 v2 v3 v4 v5 v6 w')
inductive Join8 (M:(Value→Value→Value→Value→Value→Value→Value→Value→World→Prop)→World→Prop) (K:Value→Value→Value→Value→Value→Value→Value→Value→World→Prop) (w:WK2 M K):Prop
 | mk (R:Value→Value→Value→Value→Value→Value→Value→Value→World→Prop) (h:M R w) (hk:∀v0 v1 v2 v3 v4 v5 v6 v7 w',R v0 v1 v2 v3 v4 v5 v6 v7 w'→K v0 v1 v2 v3 v4 v5 v6 v7 w')
inductive Loop0 (body:(World→Prop)→World→Prop) (w:WK body):Prop
 | mk (I:World→Prop) (μ:World→Nat) (h0:I w) (round:∀w,I w→body (fun w'=>I w'∧μ w'<μ w) w)
inductive Loop1 (s0:Value) (body:Value→(Value→World→Prop)→World→Prop) (w:WK body):Prop
 | mk (I:Value→World→Prop) (μ:Value→World→Nat) (h0:I s0 w) (round:∀v0 w,I v0 w→body v0 (fun u0 w'=>I u0 w'∧μ u0 w'<μ v0 w) w)
inductive Loop2 (s0 s1:Value) (body:Value→Value→(Value→Value→World→Prop)→World→Prop) (w:WK body):Prop
 | mk (I:Value→Value→World→Prop) (μ:Value→Value→World→Nat) (h0:I s0 s1 w) (round:∀v0 v1 w,I v0 v1 w→body v0 v1 (fun u0 u1 w'=>I u0 u1 w'∧μ u0 u1 w'<μ v0 v1 w) w)
inductive Loop3 (s0 s1 s2:Value) (body:Value→Value→Value→(Value→Value→Value→World→Prop)→World→Prop) (w:WK body):Prop
 | mk (I:Value→Value→Value→World→Prop) (μ:Value→Value→Value→World→Nat) (h0:I s0 s1 s2 w) (round:∀v0 v1 v2 w,I v0 v1 v2 w→body v0 v1 v2 (fun u0 u1 u2 w'=>I u0 u1 u2 w'∧μ u0 u1 u2 w'<μ v0 v1 v2 w) w)
inductive Loop4 (s0 s1 s2 s3:Value) (body:Value→Value→Value→Value→(Value→Value→Value→Value→World→Prop)→World→Prop) (w:WK body):Prop
 | mk (I:Value→Value→Value→Value→World→Prop) (μ:Value→Value→Value→Value→World→Nat) (h0:I s0 s1 s2 s3 w) (round:∀v0 v1 v2 v3 w,I v0 v1 v2 v3 w→body v0 v1 v2 v3 (fun u0 u1 u2 u3 w'=>I u0 u1 u2 u3 w'∧μ u0 u1 u2 u3 w'<μ v0 v1 v2 v3 w) w)
inductive Loop5 (s0 s1 s2 s3 s4:Value) (body:Value→Value→Value→Value→Value→(Value→Value→Value→Value→Value→World→Prop)→World→Prop) (w:WK body):Prop
 | mk (I:Value→Value→Value→Value→Value→World→Prop) (μ:Value→Value→Value→Value→Value→World→Nat) (h0:I s0 s1 s2 s3 s4 w) (round:∀v0 v1 v2 v3 v4 w,I v0 v1 v2 v3 v4 w→body v0 v1 v2 v3 v4 (fun u0 u1 u2 u3 u4 w'=>I u0 u1 u2 u3 u4 w'∧μ u0 u1 u2 u3 u4 w'<μ v0 v1 v2 v3 v4 w) w)
inductive Loop6 (s0 s1 s2 s3 s4 s5:Value) (body:Value→Value→Value→Value→Value→Value→(Value→Value→Value→Value→Value→Value→World→Prop)→World→Prop) (w:WK body):Prop
 | mk (I:Value→Value→Value→Value→Value→Value→World→Prop) (μ:Value→Value→Value→Value→Value→Value→World→Nat) (h0:I s0 s1 s2 s3 s4 s5 w) (round:∀v0 v1 v2 v3 v4 v5 w,I v0 v1 v2 v3 v4 v5 w→body v0 v1 v2 v3 v4 v5 (fun u0 u1 u2 u3 u4 u5 w'=>I u0 u1 u2 u3 u4 u5 w'∧μ u0 u1 u2 u3 u4 u5 w'<μ v0 v1 v2 v3 v4 v5 w) w)
inductive Loop7 (s0 s1 s2 s3 s4 s5 s6:Value) (body:Value→Value→Value→Value→Value→Value→Value→(Value→Value→Value→Value→Value→Value→Value→World→Prop)→World→Prop) (w:WK body):Prop
 | mk (I:Value→Value→Value→Value→Value→Value→Value→World→Prop) (μ:Value→Value→Value→Value→Value→Value→Value→World→Nat) (h0:I s0 s1 s2 s3 s4 s5 s6 w) (round:∀v0 v1 v2 v3 v4 v5 v6 w,I v0 v1 v2 v3 v4 v5 v6 w→body v0 v1 v2 v3 v4 v5 v6 (fun u0 u1 u2 u3 u4 u5 u6 w'=>I u0 u1 u2 u3 u4 u5 u6 w'∧μ u0 u1 u2 u3 u4 u5 u6 w'<μ v0 v1 v2 v3 v4 v5 v6 w) w)
inductive Loop8 (s0 s1 s2 s3 s4 s5 s6 s7:Value) (body:Value→Value→Value→Value→Value→Value→Value→Value→(Value→Value→Value→Value→Value→Value→Value→Value→World→Prop)→World→Prop) (w:WK body):Prop
 | mk (I:Value→Value→Value→Value→Value→Value→Value→Value→World→Prop) (μ:Value→Value→Value→Value→Value→Value→Value→Value→World→Nat) (h0:I s0 s1 s2 s3 s4 s5 s6 s7 w) (round:∀v0 v1 v2 v3 v4 v5 v6 v7 w,I v0 v1 v2 v3 v4 v5 v6 v7 w→body v0 v1 v2 v3 v4 v5 v6 v7 (fun u0 u1 u2 u3 u4 u5 u6 u7 w'=>I u0 u1 u2 u3 u4 u5 u6 u7 w'∧μ u0 u1 u2 u3 u4 u5 u6 u7 w'<μ v0 v1 v2 v3 v4 v5 v6 v7 w) w)
inductive Loop9 (s0 s1 s2 s3 s4 s5 s6 s7 s8:Value) (body:Value→Value→Value→Value→Value→Value→Value→Value→Value→(Value→Value→Value→Value→Value→Value→Value→Value→Value→World→Prop)→World→Prop) (w:WK body):Prop
 | mk (I:Value→Value→Value→Value→Value→Value→Value→Value→Value→World→Prop) (μ:Value→Value→Value→Value→Value→Value→Value→Value→Value→World→Nat) (h0:I s0 s1 s2 s3 s4 s5 s6 s7 s8 w) (round:∀v0 v1 v2 v3 v4 v5 v6 v7 v8 w,I v0 v1 v2 v3 v4 v5 v6 v7 v8 w→body v0 v1 v2 v3 v4 v5 v6 v7 v8 (fun u0 u1 u2 u3 u4 u5 u6 u7 u8 w'=>I u0 u1 u2 u3 u4 u5 u6 u7 u8 w'∧μ u0 u1 u2 u3 u4 u5 u6 u7 u8 w'<μ v0 v1 v2 v3 v4 v5 v6 v7 v8 w) w)
inductive Loop10 (s0 s1 s2 s3 s4 s5 s6 s7 s8 s9:Value) (body:Value→Value→Value→Value→Value→Value→Value→Value→Value→Value→(Value→Value→Value→Value→Value→Value→Value→Value→Value→Value→World→Prop)→World→Prop) (w:WK body):Prop
 | mk (I:Value→Value→Value→Value→Value→Value→Value→Value→Value→Value→World→Prop) (μ:Value→Value→Value→Value→Value→Value→Value→Value→Value→Value→World→Nat) (h0:I s0 s1 s2 s3 s4 s5 s6 s7 s8 s9 w) (round:∀v0 v1 v2 v3 v4 v5 v6 v7 v8 v9 w,I v0 v1 v2 v3 v4 v5 v6 v7 v8 v9 w→body v0 v1 v2 v3 v4 v5 v6 v7 v8 v9 (fun u0 u1 u2 u3 u4 u5 u6 u7 u8 u9 w'=>I u0 u1 u2 u3 u4 u5 u6 u7 u8 u9 w'∧μ u0 u1 u2 u3 u4 u5 u6 u7 u8 u9 w'<μ v0 v1 v2 v3 v4 v5 v6 v7 v8 v9 w) w)
def Ae (e:Env) (s:Nat) (k:Value→Prop):Prop :=
 match Env.get e s with
 | .unk=>False
 | .und=>False
 | .val v=>k v
 | .lit b=>k (.bool b)
def GJ (e:Env) (s:Nat) (k:Value→Prop):Prop:=bif Nat.beq s DK then False else Ae e s k
def AK (e:Env) (dst:Option Nat) (x:Ent):Env :=
 match dst with
 | some d=>(d,x)::e
 | none=>e
def CB:List Nat→Env→Env
 | [],e=>e
 | d::ds,e=>(d,.unk)::CB ds e
def Ent.value?:Ent→Option Value
 | .unk=>none
 | .und=>none
 | .val v=>some v
 | .lit b=>some (.bool b)
def CX (P:Program) (o:Oper) (e:Env) (k:Env→World→Prop) (w:World):Prop :=
 match o.op with
 | .move x=>k (AK e o.dst (AQ e x)) w
 | .assign x=>k (AK e o.dst (AQ e x)) w
 | .pick c x y=>match AQ e c with
  | .lit b=>bif b then k (AK e o.dst (AQ e x)) w else k (AK e o.dst (AQ e y)) w
  | .val v=>BrW v (k (AK e o.dst (AQ e x)) w) (k (AK e o.dst (AQ e y)) w) ()
  | _=>False
 | .binOp op t x y _=>match (AQ e x).value?,(AQ e y).value? with
  | some a,some b=>bif G2 y then BinN P op t a (fun v w=>k (AK e o.dst (.val v)) w) w else BinX P op t a b (fun v w=>k (AK e o.dst (.val v)) w) w
  | _,_=>False
 | .go _=>False
 | .defer _=>False
 | .call { callee:=.builtin .print,.. }=>False
 | .call { callee:=.builtin .println,.. }=>False
 | op=>OpX P (Cf (CL e) op) o.type (fun v w=>k (AK e o.dst (.val v)) w) w
def De (ops:List Oper) (j:Nat):Option Nat :=
 match ops,j with
 | [],_=>none
 | o::_,0=>o.dst
 | _::os,j+1=>De os j
def HS (P:Program) (ops:List Oper) (o:Oper) (e:Env) (k:Env→World→Prop) (w:World):Prop :=
 match o.guard with
 | none=>CX P o e k w
 | some (j,want)=>match De ops j with
  | none=>False
  | some d=>match C8 e d with
   | .unk=>False
   | .lit b=>bif (bif b then want else !want) then CX P o e k w else k (AK e o.dst .und) w
   | .und=>k (AK e o.dst .und) w
   | .val v=>BrW v
     (bif want then CX P o ((d,.lit true)::e) k w else k (AK ((d,.lit true)::e) o.dst .und) w)
     (bif want then k (AK ((d,.lit false)::e) o.dst .und) w else CX P o ((d,.lit false)::e) k w) ()
def EJ (P:Program) (ops:List Oper):List Oper→Env→(Env→World→Prop)→World→Prop
 | [],e,K,w=>K e w
 | o::rest,e,K,w=>HS P ops o e (fun e w=>EJ P ops rest e K w) w
inductive PurX (P:Program) (op:Op) (type:TypeId) (K:Value→Prop) (u:UK K):Prop
 | mk (v:Value) (h:∀ρ,BB ρ→∀w,(execOp ρ (An op type)).run P w=.ok (.value v) w) (hk:K v)
inductive Yld (P:Program) (op:Op) (type:TypeId) (v:Value) (w:World):Prop
 | mk (h:∀ρ,BB ρ→(execOp ρ (An op type)).run P w=.ok (.value v) w)
inductive RdX (P:Program) (op:Op) (type:TypeId) (K:Value→Prop) (w:WK K):Prop
 | mk (v:Value) (h:Yld P op type v w) (hk:K v)
def A7 (op:BinOp) (t:TypeId) (a b:Value) (x y:Operand):Sem Next:=do eqGuard op t x y a b;return Next.value (←binOp op t a b)
inductive PurB (P:Program) (op:BinOp) (t:TypeId) (a b:Value) (K:Value→Prop) (u:UK K):Prop
 | mk (v:Value) (h:∀x y w,(A7 op t a b x y).run P w=.ok (.value v) w) (hk:K v)
inductive YldB (P:Program) (op:BinOp) (t:TypeId) (a b:Value) (v:Value) (w:World):Prop
 | mk (h:∀x y,(A7 op t a b x y).run P w=.ok (.value v) w)
inductive RdB (P:Program) (op:BinOp) (t:TypeId) (a b:Value) (K:Value→Prop) (w:WK K):Prop
 | mk (v:Value) (h:YldB P op t a b v w) (hk:K v)
def Ct:Op→Nat
 | .move _=>1
 | .assign _=>1
 | .pick _ _ _=>1
 | .nilCheck _=>2
 | .unOp _ _ _=>2
 | .convert _ _ _=>2
 | .fieldAddr _ _ _=>2
 | .field _ _ _=>2
 | .indexAddr _ _ _=>2
 | .index _ _ _=>2
 | .slice _ _ _ _ _=>2
 | .extract _ _=>2
 | .load _ _=>3
 | .lookup _ _ _ _=>3
 | .binOp .eql _ _ _ _=>3
 | .binOp .neq _ _ _ _=>3
 | .binOp _ _ _ _ _=>2
 | .call { callee:=.builtin .min,.. }=>2
 | .call { callee:=.builtin .max,.. }=>2
 | .call { callee:=.builtin .len,.. }=>3
 | .call { callee:=.builtin .cap,.. }=>3
 | _=>0
def Ha (P:Program) (o:Oper) (e:Env) (k:Env→Option (World→Prop)→Prop) (w:World):Prop :=
 match o.op with
 | .move x=>k (AK e o.dst (AQ e x)) none
 | .assign x=>k (AK e o.dst (AQ e x)) none
 | .pick c x y=>match AQ e c with
  | .lit b=>bif b then k (AK e o.dst (AQ e x)) none else k (AK e o.dst (AQ e y)) none
  | .val v=>BrW v (k (AK e o.dst (AQ e x)) none) (k (AK e o.dst (AQ e y)) none) ()
  | _=>False
 | .binOp op t x y _=>match (AQ e x).value?,(AQ e y).value? with
  | some a,some b=>bif Nat.beq (Ct o.op) 2 then PurB P op t a b (fun v=>k (AK e o.dst (.val v)) none) ()
    else RdB P op t a b (fun v=>k (AK e o.dst (.val v)) (some (YldB P op t a b v))) w
  | _,_=>False
 | op=>match Ct op with
  | 2=>PurX P (Cf (CL e) op) o.type (fun v=>k (AK e o.dst (.val v)) none) ()
  | 3=>RdX P (Cf (CL e) op) o.type (fun v=>k (AK e o.dst (.val v)) (some (Yld P (Cf (CL e) op) o.type v))) w
  | _=>False
def FP (ops:List Oper) (o:Oper) (e:Env) (run skip:Env→Prop):Prop :=
 match o.guard with
 | none=>run e
 | some (j,want)=>match De ops j with
  | none=>False
  | some d=>match C8 e d with
   | .unk=>False
   | .lit b=>bif (bif b then want else !want) then run e else skip e
   | .und=>skip e
   | .val v=>BrW v (bif want then run ((d,.lit true)::e) else skip ((d,.lit true)::e)) (bif want then skip ((d,.lit false)::e) else run ((d,.lit false)::e)) ()
abbrev Dg:=List (Nat × (World→Prop))
def IM:List (Nat × (World→Prop))→World→Prop→Prop
 | [],_,X=>X
 | p::l,w,X=>p.2 w∧IM l w X
def Eu (acc:List Nat):List Edge→Nat→Nat
 | [],s=>s
 | e::es,s=>Eu acc es (bif Region.binds .any e then s ||| 2 ^ e.on ||| acc.getD e.on 0 else s)
def CP:List Oper→List Nat→List Nat
 | [],acc=>acc
 | o::os,acc=>CP os (acc++[Eu acc o.after.toList 0])
def twB (ms:List Nat) (j i:Nat):Bool:=(ms.getD j 0).testBit i
def Bt (ms:List Nat) (j:Nat):List (Nat × (World→Prop))→List (Nat × (World→Prop))
 | []=>[]
 | p::l=>bif twB ms j p.1 then Bt ms j l else p::Bt ms j l
def okE (m:Nat):List Edge→Bool
 | []=>true
 | e::es=>(bif Region.binds .any e then m.testBit e.on else true) && okE m es
def Cl:List Oper→Nat→Nat→List Nat
 | [],_,_=>[]
 | o::os,i,m=>bif (!m.testBit i && okE m o.after.toList) then i::Cl os (i+1) m else Cl os (i+1) m
def II (ops:List Oper) (i:Nat):Bool :=
 match ops,i with
 | [],_=>false
 | o::_,0=>!(Nat.beq (Ct o.op) 0)
 | _::os,j+1=>II os j
def ET (ops:List Oper):List Nat→Option Nat
 | []=>none
 | i::is=>bif II ops i then some i else ET ops is
def It:List Nat→(Nat→Prop)→Prop
 | [],_=>True
 | [j],f=>f j
 | j::js,f=>f j∧It js f
def Ef:List Oper→Nat→Option Oper
 | [],_=>none
 | o::_,0=>some o
 | _::os,j+1=>Ef os j
def trD (P:Program) (ops:List Oper) (ms:List Nat):Nat→Nat→List (Nat × (World→Prop))→Env→(Env→World→Prop)→World→Prop
 | 0,m,_,e,K,w=>match Cl ops 0 m with
  | []=>K e w
  | _=>False
 | n+1,m,held,e,K,w=>match Cl ops 0 m with
  | []=>K e w
  | rs=>match ET ops rs with
   | some i=>match Ef ops i with
    | none=>False
    | some o=>FP ops o e
      (fun e=>Ha P o e (fun e S=>trD P ops ms n (m ||| 2 ^ i) (match S with|some S=>(i,S)::held|none=>held) e K w) w)
      (fun e=>trD P ops ms n (m ||| 2 ^ i) held (AK e o.dst .und) K w)
   | none=>It rs fun j=>match Ef ops j with
    | none=>False
    | some o=>FP ops o e
      (fun e=>CX P o e (fun e w=>IM (Bt ms j held) w (trD P ops ms n (m ||| 2 ^ j) (Bt ms j held) e K w)) w)
      (fun e=>trD P ops ms n (m ||| 2 ^ j) (Bt ms j held) (AK e o.dst .und) K w)
def Eg (o:Oper) (i:Nat):Bool:=o.after.toList.any fun e=>Region.binds .any e && Nat.beq e.on i
def Fa (ops:Array Oper) (ms:List Nat):Bool :=
 Region.noSelect ops && ops.toList.zipIdx.all fun(oi,i)=>ops.toList.zipIdx.all fun(oj,j)=>Nat.beq i j || Eg oj i || twB ms i j || oi.apart ops oj
def DU (J:List Nat) (base:Env) (M:(Env→World→Prop)→World→Prop) (K:Env→World→Prop) (w:World):Prop :=
 match J with
 | []=>Join0 (fun k w=>M (fun e' w=>k w) w) (fun w=>K base w) w
 | [s0]=>Join1 (fun k w=>M (fun e' w=>Ae e' s0 fun v0=>k v0 w) w) (fun v0 w=>K ((s0,.val v0)::base) w) w
 | [s0,s1]=>Join2 (fun k w=>M (fun e' w=>Ae e' s0 fun v0=>Ae e' s1 fun v1=>k v0 v1 w) w) (fun v0 v1 w=>K ((s0,.val v0)::(s1,.val v1)::base) w) w
 | [s0,s1,s2]=>Join3 (fun k w=>M (fun e' w=>Ae e' s0 fun v0=>Ae e' s1 fun v1=>Ae e' s2 fun v2=>k v0 v1 v2 w) w) (fun v0 v1 v2 w=>K ((s0,.val v0)::(s1,.val v1)::(s2,.val v2)::base) w) w
 | [s0,s1,s2,s3]=>Join4 (fun k w=>M (fun e' w=>Ae e' s0 fun v0=>Ae e' s1 fun v1=>Ae e' s2 fun v2=>Ae e' s3 fun v3=>k v0 v1 v2 v3 w) w) (fun v0 v1 v2 v3 w=>K ((s0,.val v0)::(s1,.val v1)::(s2,.val v2)::(s3,.val v3)::base) w) w
 | [s0,s1,s2,s3,s4]=>Join5 (fun k w=>M (fun e' w=>Ae e' s0 fun v0=>Ae e' s1 fun v1=>Ae e' s2 fun v2=>Ae e' s3 fun v3=>Ae e' s4 fun v4=>k v0 v1 v2 v3 v4 w) w) (fun v0 v1 v2 v3 v4 w=>K ((s0,.val v0)::(s1,.val v1)::(s2,.val v2)::(s3,.val v3)::(s4,.val v4)::base) w) w
 | [s0,s1,s2,s3,s4,s5]=>Join6 (fun k w=>M (fun e' w=>Ae e' s0 fun v0=>Ae e' s1 fun v1=>Ae e' s2 fun v2=>Ae e' s3 fun v3=>Ae e' s4 fun v4=>Ae e' s5 fun v5=>k v0 v1 v2 v3 v4 v5 w) w) (fun v0 v1 v2 v3 v4 v5 w=>K ((s0,.val v0)::(s1,.val v1)::(s2,.val v2)::(s3,.val v3)::(s4,.val v4)::(s5,.val v5)::base) w) w
 | [s0,s1,s2,s3,s4,s5,s6]=>Join7 (fun k w=>M (fun e' w=>Ae e' s0 fun v0=>Ae e' s1 fun v1=>Ae e' s2 fun v2=>Ae e' s3 fun v3=>Ae e' s4 fun v4=>Ae e' s5 fun v5=>Ae e' s6 fun v6=>k v0 v1 v2 v3 v4 v5 v6 w) w) (fun v0 v1 v2 v3 v4 v5 v6 w=>K ((s0,.val v0)::(s1,.val v1)::(s2,.val v2)::(s3,.val v3)::(s4,.val v4)::(s5,.val v5)::(s6,.val v6)::base) w) w
 | [s0,s1,s2,s3,s4,s5,s6,s7]=>Join8 (fun k w=>M (fun e' w=>Ae e' s0 fun v0=>Ae e' s1 fun v1=>Ae e' s2 fun v2=>Ae e' s3 fun v3=>Ae e' s4 fun v4=>Ae e' s5 fun v5=>Ae e' s6 fun v6=>Ae e' s7 fun v7=>k v0 v1 v2 v3 v4 v5 v6 v7 w) w) (fun v0 v1 v2 v3 v4 v5 v6 v7 w=>K ((s0,.val v0)::(s1,.val v1)::(s2,.val v2)::(s3,.val v3)::(s4,.val v4)::(s5,.val v5)::(s6,.val v6)::(s7,.val v7)::base) w) w
 | _=>False
def HG (L:List Nat) (e:Env) (base:Env) (body:Env→(Env→World→Prop)→World→Prop) (w:World):Prop :=
 match L with
 | []=>Loop0 (fun next w=>body (base) (fun e' w=>next w) w) w
 | [s0]=>Ae e s0 fun u0=>Loop1 u0 (fun v0 next w=>body ((s0,.val v0)::base) (fun e' w=>Ae e' s0 fun v0=>next v0 w) w) w
 | [s0,s1]=>Ae e s0 fun u0=>Ae e s1 fun u1=>Loop2 u0 u1 (fun v0 v1 next w=>body ((s0,.val v0)::(s1,.val v1)::base) (fun e' w=>Ae e' s0 fun v0=>Ae e' s1 fun v1=>next v0 v1 w) w) w
 | [s0,s1,s2]=>Ae e s0 fun u0=>Ae e s1 fun u1=>Ae e s2 fun u2=>Loop3 u0 u1 u2 (fun v0 v1 v2 next w=>body ((s0,.val v0)::(s1,.val v1)::(s2,.val v2)::base) (fun e' w=>Ae e' s0 fun v0=>Ae e' s1 fun v1=>Ae e' s2 fun v2=>next v0 v1 v2 w) w) w
 | [s0,s1,s2,s3]=>Ae e s0 fun u0=>Ae e s1 fun u1=>Ae e s2 fun u2=>Ae e s3 fun u3=>Loop4 u0 u1 u2 u3 (fun v0 v1 v2 v3 next w=>body ((s0,.val v0)::(s1,.val v1)::(s2,.val v2)::(s3,.val v3)::base) (fun e' w=>Ae e' s0 fun v0=>Ae e' s1 fun v1=>Ae e' s2 fun v2=>Ae e' s3 fun v3=>next v0 v1 v2 v3 w) w) w
 | [s0,s1,s2,s3,s4]=>Ae e s0 fun u0=>Ae e s1 fun u1=>Ae e s2 fun u2=>Ae e s3 fun u3=>Ae e s4 fun u4=>Loop5 u0 u1 u2 u3 u4 (fun v0 v1 v2 v3 v4 next w=>body ((s0,.val v0)::(s1,.val v1)::(s2,.val v2)::(s3,.val v3)::(s4,.val v4)::base) (fun e' w=>Ae e' s0 fun v0=>Ae e' s1 fun v1=>Ae e' s2 fun v2=>Ae e' s3 fun v3=>Ae e' s4 fun v4=>next v0 v1 v2 v3 v4 w) w) w
 | [s0,s1,s2,s3,s4,s5]=>Ae e s0 fun u0=>Ae e s1 fun u1=>Ae e s2 fun u2=>Ae e s3 fun u3=>Ae e s4 fun u4=>Ae e s5 fun u5=>Loop6 u0 u1 u2 u3 u4 u5 (fun v0 v1 v2 v3 v4 v5 next w=>body ((s0,.val v0)::(s1,.val v1)::(s2,.val v2)::(s3,.val v3)::(s4,.val v4)::(s5,.val v5)::base) (fun e' w=>Ae e' s0 fun v0=>Ae e' s1 fun v1=>Ae e' s2 fun v2=>Ae e' s3 fun v3=>Ae e' s4 fun v4=>Ae e' s5 fun v5=>next v0 v1 v2 v3 v4 v5 w) w) w
 | [s0,s1,s2,s3,s4,s5,s6]=>Ae e s0 fun u0=>Ae e s1 fun u1=>Ae e s2 fun u2=>Ae e s3 fun u3=>Ae e s4 fun u4=>Ae e s5 fun u5=>Ae e s6 fun u6=>Loop7 u0 u1 u2 u3 u4 u5 u6 (fun v0 v1 v2 v3 v4 v5 v6 next w=>body ((s0,.val v0)::(s1,.val v1)::(s2,.val v2)::(s3,.val v3)::(s4,.val v4)::(s5,.val v5)::(s6,.val v6)::base) (fun e' w=>Ae e' s0 fun v0=>Ae e' s1 fun v1=>Ae e' s2 fun v2=>Ae e' s3 fun v3=>Ae e' s4 fun v4=>Ae e' s5 fun v5=>Ae e' s6 fun v6=>next v0 v1 v2 v3 v4 v5 v6 w) w) w
 | [s0,s1,s2,s3,s4,s5,s6,s7]=>Ae e s0 fun u0=>Ae e s1 fun u1=>Ae e s2 fun u2=>Ae e s3 fun u3=>Ae e s4 fun u4=>Ae e s5 fun u5=>Ae e s6 fun u6=>Ae e s7 fun u7=>Loop8 u0 u1 u2 u3 u4 u5 u6 u7 (fun v0 v1 v2 v3 v4 v5 v6 v7 next w=>body ((s0,.val v0)::(s1,.val v1)::(s2,.val v2)::(s3,.val v3)::(s4,.val v4)::(s5,.val v5)::(s6,.val v6)::(s7,.val v7)::base) (fun e' w=>Ae e' s0 fun v0=>Ae e' s1 fun v1=>Ae e' s2 fun v2=>Ae e' s3 fun v3=>Ae e' s4 fun v4=>Ae e' s5 fun v5=>Ae e' s6 fun v6=>Ae e' s7 fun v7=>next v0 v1 v2 v3 v4 v5 v6 v7 w) w) w
 | [s0,s1,s2,s3,s4,s5,s6,s7,s8]=>Ae e s0 fun u0=>Ae e s1 fun u1=>Ae e s2 fun u2=>Ae e s3 fun u3=>Ae e s4 fun u4=>Ae e s5 fun u5=>Ae e s6 fun u6=>Ae e s7 fun u7=>Ae e s8 fun u8=>Loop9 u0 u1 u2 u3 u4 u5 u6 u7 u8 (fun v0 v1 v2 v3 v4 v5 v6 v7 v8 next w=>body ((s0,.val v0)::(s1,.val v1)::(s2,.val v2)::(s3,.val v3)::(s4,.val v4)::(s5,.val v5)::(s6,.val v6)::(s7,.val v7)::(s8,.val v8)::base) (fun e' w=>Ae e' s0 fun v0=>Ae e' s1 fun v1=>Ae e' s2 fun v2=>Ae e' s3 fun v3=>Ae e' s4 fun v4=>Ae e' s5 fun v5=>Ae e' s6 fun v6=>Ae e' s7 fun v7=>Ae e' s8 fun v8=>next v0 v1 v2 v3 v4 v5 v6 v7 v8 w) w) w
 | [s0,s1,s2,s3,s4,s5,s6,s7,s8,s9]=>Ae e s0 fun u0=>Ae e s1 fun u1=>Ae e s2 fun u2=>Ae e s3 fun u3=>Ae e s4 fun u4=>Ae e s5 fun u5=>Ae e s6 fun u6=>Ae e s7 fun u7=>Ae e s8 fun u8=>Ae e s9 fun u9=>Loop10 u0 u1 u2 u3 u4 u5 u6 u7 u8 u9 (fun v0 v1 v2 v3 v4 v5 v6 v7 v8 v9 next w=>body ((s0,.val v0)::(s1,.val v1)::(s2,.val v2)::(s3,.val v3)::(s4,.val v4)::(s5,.val v5)::(s6,.val v6)::(s7,.val v7)::(s8,.val v8)::(s9,.val v9)::base) (fun e' w=>Ae e' s0 fun v0=>Ae e' s1 fun v1=>Ae e' s2 fun v2=>Ae e' s3 fun v3=>Ae e' s4 fun v4=>Ae e' s5 fun v5=>Ae e' s6 fun v6=>Ae e' s7 fun v7=>Ae e' s8 fun v8=>Ae e' s9 fun v9=>next v0 v1 v2 v3 v4 v5 v6 v7 v8 v9 w) w) w
 | _=>False
inductive LSt where
 | ready
 | busy
 | gone (ex:Ex)
 | over (ex:Ex)
def By:List Value→Nat→Value
 | [],_=>undef
 | v::_,0=>v
 | _::l,n+1=>By l n
def Bd (P:Program) (yv:Value) (vs:List Value) (K:Value→World→Prop) (w:World):Prop :=
 ∀(ats:Array TypeId) (ty:TypeId),OpX P (.call { callee:=.value (.const yv),args:=(vs.map Operand.const).toArray,argTypes:=ats }) ty K w
inductive CallV (P:Program) (fv:Value) (vs:List Value) (w:World) (R:World→Prop):Prop
 | mk (f:FuncId) (us cs:List Value) (hf:fv=.func (.func f) us.toArray cs.toArray) (hb:Ad P f) (h:Calls P f (us++vs++cs).toArray w (Ac fun _ w'=>R w'))
inductive RngX (P:Program) (fv:Value) (np:Nat) (M:List Value→((World→Prop)→World→Prop)→(World→Prop)→(World→Prop)→(Nat→World→Prop)→World→Prop)
  (QN QR:Nat→World→Prop) (QE:List (Nat × (Nat→World→Prop))) (w:World):Prop
 | mk (h:∀(Lp:LSt→Obj) (yv:Value),
   (∀vs w2 K,vs.length=np→w2.heap[w.heap.size+1]?=some (Lp .ready) →
    M vs (fun K w1=>w1.heap[w.heap.size+1]?=some (Lp .ready)∧K (Ab w1 (w.heap.size+1) (Lp .busy)))
     (fun w3=>w3.heap[w.heap.size+1]?=some (Lp .busy)∧K (.bool true) (Ab w3 (w.heap.size+1) (Lp .ready)))
     (fun w3=>w3.heap[w.heap.size+1]?=some (Lp .busy)∧K (.bool false) (Ab w3 (w.heap.size+1) (Lp (.gone .ret))))
     (fun id w3=>w3.heap[w.heap.size+1]?=some (Lp .busy)∧K (.bool false) (Ab w3 (w.heap.size+1) (Lp (.gone (.exit id)))))
     w2→Bd P yv vs K w2) →
   CallV P fv [yv] ((w.alloc (.deferred (some []))).alloc (Lp .ready)) fun w3 =>
    (w3.heap[w.heap.size+1]?=some (Lp .ready)∧QN w.heap.size (Ab w3 (w.heap.size+1) (Lp (.over .normal)))) ∨
    (w3.heap[w.heap.size+1]?=some (Lp (.gone .ret))∧QR w.heap.size (Ab w3 (w.heap.size+1) (Lp (.over .ret)))) ∨
    (∃id q,(id,q)∈QE∧w3.heap[w.heap.size+1]?=some (Lp (.gone (.exit id)))∧q w.heap.size (Ab w3 (w.heap.size+1) (Lp (.over (.exit id))))))
abbrev Et:=List (Nat × List Nat)
def DW:Et→Nat→Option (List Nat)
 | [],_=>none
 | (m,l)::hs,n=>bif Nat.beq m n then some l else DW hs n
def BC:List Oper→List Nat
 | []=>[]
 | o::os=>match o.dst with
  | some d=>d::BC os
  | none=>BC os
def BS:Code→List Nat
 | .region _ ops _=>BC ops.toList
 | .seq x y=>BS x++BS y
 | .cond _ x y=>BS x++BS y
 | .block _ c=>BS c
 | .loop c=>BS c
 | .scope c=>BS c
 | .rangeFunc _ _ _ _=>[DK]
 | _=>[]
def BP:Code→Nat
 | .seq x y=>BP x+BP y+1
 | .cond _ x y=>BP x+BP y+1
 | .block _ c=>BP c+1
 | .loop c=>BP c+1
 | .scope c=>BP c+1
 | .rangeFunc _ _ x y=>BP x+BP y+1
 | _=>1
def GL (next:Env→World→Prop) (Q:Ex→Env→World→Prop):Ex→Env→World→Prop
 | .normal,e,w=>next e w
 | .exit id,e,w=>Q (.exit id) e w
 | .ret,e,w=>Q .ret e w
def Eh (id:Nat) (next:Env→World→Prop) (Q:Ex→Env→World→Prop):Ex→Env→World→Prop
 | .normal,e,w=>next e w
 | .exit id',e,w=>bif Nat.beq id' id then next e w else Q (.exit id') e w
 | .ret,e,w=>Q .ret e w
def Hf:List Nat→Nat→Bool
 | [],_=>false
 | d::ds,n=>Nat.beq d n || Hf ds n
def Dh:Code→List Nat→List Nat→List Nat
 | .exit id,bound,acc=>bif Hf bound id || Hf acc id then acc else acc++[id]
 | .seq x y,bound,acc=>Dh y bound (Dh x bound acc)
 | .cond _ x y,bound,acc=>Dh y bound (Dh x bound acc)
 | .block id c,bound,acc=>Dh c (id::bound) acc
 | .loop c,bound,acc=>Dh c bound acc
 | .scope c,bound,acc=>Dh c bound acc
 | _,_,acc=>acc
def CN:Code→Bool
 | .ret=>true
 | .seq x y=>CN x || CN y
 | .cond _ x y=>CN x || CN y
 | .block _ c=>CN c
 | .loop c=>CN c
 | .scope c=>CN c
 | _=>false
def Ei:List Tmp→Nat→List Value→Env→Env
 | [],_,_,e=>e
 | p::ps,i,vs,e=>Ei ps (i+1) vs ((p,.val (By vs i))::e)
def WX (kn kr:World→Prop) (kx:Nat→World→Prop):Ex→Env→World→Prop
 | .normal,_,w=>kn w
 | .ret,_,w=>kr w
 | .exit id,_,w=>kx id w
def PB (b:Bool) (q:Nat→World→Prop):Nat→World→Prop:=bif b then q else fun _ _=>False
def Ir (e:Env) (c:Operand) (b:Bool):Env :=
 match c with
 | .tmp t=>(t,.lit b)::e
 | _=>e
def tr (P:Program) (top:Bool) (hs:Et):Code→Nat→(Ex→Env→World→Prop)→Env→World→Prop
 | .skip,_,Q,e,w=>Q .normal e w
 | .region _ ops false,n,Q,e,w=>match DW hs n with
  | none=>EJ P ops.toList ops.toList e (fun e w=>Q .normal e w) w
  | some J=>DU J (CB (BC ops.toList) e) (fun k w=>EJ P ops.toList ops.toList e k w) (fun e w=>Q .normal e w) w
 | .region _ ops true,n,Q,e,w=>match Fa ops (CP ops.toList []) with
  | false=>False
  | true=>match DW hs n with
   | none=>trD P ops.toList (CP ops.toList []) ops.size 0 [] e (fun e w=>Q .normal e w) w.drew
   | some J=>DU J (CB (BC ops.toList) e) (fun k w=>trD P ops.toList (CP ops.toList []) ops.size 0 [] e k w) (fun e w=>Q .normal e w) w.drew
 | .seq x y,n,Q,e,w=>match DW hs n with
  | none=>tr P top hs x (n+1) (GL (fun e w=>tr P top hs y (n+1+BP x) Q e w) Q) e w
  | some J=>DU J (CB (BS x) e) (fun k w=>tr P top hs x (n+1) (GL k Q) e w) (fun e w=>tr P top hs y (n+1+BP x) Q e w) w
 | .cond c x y,n,Q,e,w=>match AQ e c with
  | .unk=>False
  | .und=>False
  | .lit b=>bif b then tr P top hs x (n+1) Q e w else tr P top hs y (n+1+BP x) Q e w
  | .val v=>BrW v (tr P top hs x (n+1) Q (Ir e c true) w) (tr P top hs y (n+1+BP x) Q (Ir e c false) w) ()
 | .block id c,n,Q,e,w=>match DW hs n with
  | none=>tr P top hs c (n+1) (Eh id (fun e w=>Q .normal e w) Q) e w
  | some J=>DU J (CB (BS c) e) (fun k w=>tr P top hs c (n+1) (Eh id k Q) e w) (fun e w=>Q .normal e w) w
 | .loop c,n,Q,e,w=>match DW hs n with
  | none=>False
  | some L=>HG L e (CB (BS c) e) (fun e next w=>tr P top hs c (n+1) (GL next Q) e w) w
 | .rangeFunc f params x y,n,Q,e,w=>match top,AQ e f,Env.get e DK with
  | true,.val fv,.val dv=>RngX P fv params.size
    (fun vs bg kn kr kx w=>tr P false hs x (n+1) (GL (fun e w=>bg (fun w=>tr P false hs y (n+1+BP x) (WX kn kr kx) e w) w) (fun _ _ _=>False)) (Ei params.toList 0 vs ((DK,.unk)::e)) w)
    (fun r w=>Q .normal ((DK,.val (B7 r dv))::e) w)
    (PB (CN y) fun r w=>Q .ret ((DK,.val (B7 r dv))::e) w)
    ((Dh y [] []).map fun id=>(id,fun r w=>Q (.exit id) ((DK,.val (B7 r dv))::e) w)) w
  | _,_,_=>False
 | .scope c,n,Q,e,w=>tr P top hs c (n+1) Q e w
 | .label _,_,Q,e,w=>Q .normal e w
 | .exit id,_,Q,e,w=>Q (.exit id) e w
 | .ret,_,Q,e,w=>Q .ret e w
 | _,_,_,_,_=>False
def Hi:List Value→Value
 | [v]=>v
 | vs=>.tuple vs.toArray
def Dp (P:Program):List ResultVar→List Value→(Value→World→Prop)→Env→World→Prop
 | [],acc,K,_,w=>K (Hi acc.reverse) w
 | .tmp t::rs,acc,K,e,w=>GJ e t fun v=>Dp P rs (v::acc) K e w
 | .cell a t::rs,acc,K,e,w=>GJ e a fun v=>LdR P t v (fun x w=>Dp P rs (x::acc) K e w) w
def Ht (P:Program) (rs:List ResultVar) (K:Value→World→Prop):Ex→Env→World→Prop
 | .normal,e,w=>Ae e DK fun v=>BN v (fun w=>Dp P rs [] K e w) w
 | .ret,e,w=>Ae e DK fun v=>BN v (fun w=>Dp P rs [] K e w) w
 | .exit _,_,_=>False
def Er:Nat→List Value→Env
 | _,[]=>[]
 | i,v::vs=>(i,.val v)::Er (i+1) vs
def Gj (vs:List Value):Env:=(DK,.val (.tuple #[]))::Er 0 vs
def CC (N:Nat):List Oper→Bool
 | []=>true
 | o::os=>(match o.dst with|some d=>Nat.blt d N|none=>true) && CC N os
def wfc (N:Nat):Code→Bool
 | .region _ ops _=>CC N ops.toList
 | .seq x y=>wfc N x && wfc N y
 | .cond _ x y=>wfc N x && wfc N y
 | .block _ c=>wfc N c
 | .loop c=>wfc N c
 | .scope c=>wfc N c
 | .rangeFunc _ ps x y=>ps.toList.all (fun p=>Nat.blt p N) && wfc N x && wfc N y
 | _=>true
def Frz (ds:List Nat) (a a':Act):Prop:=a'.tmps.size=a.tmps.size∧∀s,s∉ds→Ah a' s=Ah a s
theorem Frz.refl (ds:List Nat) (a:Act):Frz ds a a:=⟨rfl,fun _ _=>rfl⟩
theorem Frz.trans {ds ds':List Nat} {a b c:Act} (h:Frz ds a b) (h':Frz ds' b c):Frz (ds++ds') a c :=
 ⟨h'.1.trans h.1,fun s hs=>by
  simp only[List.mem_append,not_or] at hs
  rw[h'.2 s hs.2,h.2 s hs.1]⟩
theorem Frz.mono {ds ds':List Nat} {a b:Act} (h:Frz ds a b) (hs:∀s∈ds,s∈ds'):Frz ds' a b :=
 ⟨h.1,fun s hn=>h.2 s fun hm=>hn (hs s hm)⟩
theorem Env.get_cons (d:Nat) (x:Ent) (e:Env) (i:Nat):Env.get ((d,x)::e) i=if d=i then x else Env.get e i:=by
 show(bif Nat.beq d i then x else Env.get e i)=_
 by_cases h:d=i
 ·subst h;simp [Nat.beq_refl]
 ·have hb:Nat.beq d i=false:=by
   cases hb:Nat.beq d i with
   | true=>exact absurd (Nat.eq_of_beq_eq_true hb) h
   | false=>rfl
  simp [h,hb]
theorem Cz (a:Act) {d:Nat} (h:d≠DK):Ah a d=a.tmps.getD d undef:=by unfold Ah;rw[if_neg h]
theorem L9 (t:Nat):Nat.beq t DK=decide (t=DK):=by
 cases h:Nat.beq t DK with
 | true=>simp [Nat.eq_of_beq_eq_true h]
 | false =>
  have:t≠DK:=by rintro rfl;rw[Nat.beq_refl] at h;cases h
  simp [this]
theorem Am {e:Env} {a:Act} {d:Nat} {x:Ent} (h:Aw e a) (hx:x.ok (Ah a d)):Aw ((d,x)::e) a:=by
 refine⟨h.1,fun i=>?_⟩
 rw[Env.get_cons]
 split
 ·rename_i hi;subst hi;exact hx
 ·exact h.2 i
theorem Gu {e:Env} {a:Act} (h:Aw e a) (d:Nat):(C8 e d).ok (a.tmps.getD d undef):=by
 unfold C8
 rw[L9]
 by_cases hd:d=DK
 ·simp [hd,Ent.ok]
 ·simp only[hd,decide_false,cond_false]
  have:=h.2 d
  rw[Cz a hd] at this
  exact this
theorem CM {e:Env} {a:Act} {d:Nat} {x:Ent} (h:Aw e a) (hd:C8 e d≠.unk) (hx:x.ok (a.tmps.getD d undef)):Aw ((d,x)::e) a:=by
 refine Am h ?_
 rw[Cz]
 ·exact hx
 ·rintro rfl
  apply hd
  unfold C8
  rw[Nat.beq_refl]
  rfl
theorem N4 (a:Act) (d:Nat) (v:Value) (hd:d<a.tmps.size) (hD:a.tmps.size≤DK) (i:Nat):Ah (a.put (some d) v) i=if d=i then v else Ah a i:=by
 have hdk:d≠DK:=by omega
 by_cases hi:i=DK
 ·subst hi
  rw[if_neg hdk]
  rfl
 ·rw[Cz _ hi,Cz _ hi]
  simp only[Act.put,Array.getD_eq_getD_getElem?]
  by_cases h:d=i
  ·subst h;simp [hd]
  ·simp [h,Array.getElem?_setIfInBounds_ne h]
theorem Bu {e:Env} {a:Act} {dst:Option Nat} {x:Ent} {v:Value} (h:Aw e a) (hx:x.ok v) (hd:∀d,dst=some d→d<a.tmps.size):Aw (AK e dst x) (a.put dst v):=by
 cases dst with
 | none=>exact h
 | some d =>
  refine⟨by simpa [Act.put] using h.1,fun i=>?_⟩
  show(Env.get ((d,x)::e) i).ok _
  rw[Env.get_cons,N4 a d v (hd d rfl) h.1]
  split
  ·exact hx
  ·exact h.2 i
theorem LH (a:Act) (dst:Option Nat) (v:Value) (hd:∀d,dst=some d→d<a.tmps.size) (hD:a.tmps.size≤DK):Frz dst.toList a (a.put dst v):=by
 cases dst with
 | none=>exact Frz.refl _ _
 | some d =>
  refine⟨by simp [Act.put],fun s hs=>?_⟩
  rw[N4 a d v (hd d rfl) hD]
  have:d≠s:=fun e=>hs (by simp [e])
  simp [this]
theorem Po (ds:List Nat) (e:Env) (i:Nat):Env.get (CB ds e) i=if i∈ds then .unk else Env.get e i:=by
 induction ds with
 | nil=>simp [CB]
 | cons d ds ih =>
  show Env.get ((d,.unk)::CB ds e) i=_
  rw[Env.get_cons,ih]
  by_cases h:d=i
  ·simp [h]
  ·have:¬i=d:=fun e=>h e.symm
   simp [h,this]
theorem DL {e:Env} {a a':Act} {ds:List Nat} (h:Aw e a) (hf:Frz ds a a'):Aw (CB ds e) a':=by
 refine⟨by rw[hf.1];exact h.1,fun i=>?_⟩
 rw[Po]
 split
 ·trivial
 ·rename_i hi;rw[hf.2 i hi];exact h.2 i
theorem BA {e:Env} {a:Act} (h:Aw e a) (x:Operand):(AQ e x).ok (a.eval x):=by
 cases x with
 | tmp t=>exact Gu h t
 | const v=>cases v<;>simp [AQ,Ent.ok,Act.eval]
 | global g=>simp [AQ,Ent.ok,Act.eval]
 | func f=>simp [AQ,Ent.ok,Act.eval]
theorem Hq {e:Env} {a:Act} (h:Aw e a) (x:Operand):a.eval (CL e x)=a.eval x:=by
 cases x with
 | tmp t =>
  have:=Gu h t
  simp only[CL]
  split<;>rename_i hx<;>simp only[hx,Ent.ok] at this
  ·rfl
  ·rfl
  ·simp [Act.eval,this]
  ·simp [Act.eval,this]
 | _=>rfl
theorem Af {e:Env} {a:Act} {s:Nat} {k:Value→Prop} (h:Aw e a) (hv:Ae e s k):k (Ah a s):=by
 have:=h.2 s
 unfold Ae at hv
 split at hv<;>rename_i hx<;>simp only[hx,Ent.ok] at this
 ·exact hv.elim
 ·exact hv.elim
 ·rw[this];exact hv
 ·rw[this];exact hv
theorem LM {e:Env} {a:Act} {s:Nat} {k:Value→Prop} (h:Aw e a) (hv:GJ e s k):k (a.tmps.getD s undef):=by
 unfold GJ at hv
 rw[L9] at hv
 by_cases hs:s=DK
 ·simp [hs] at hv
 ·simp only[hs,decide_false,cond_false] at hv
  have:=Af h hv
  rwa [Cz a hs] at this
theorem value?_ok {x:Ent} {u v:Value} (h:x.ok u) (hv:x.value?=some v):u=v:=by
 cases x<;>simp [Ent.value?] at hv<;>subst hv<;>exact h
theorem JB {α β γ:Type} (g:Sem α) (f:α→Sem β) (h:β→Sem γ):(g.bind f).bind h=g.bind fun x=>(f x).bind h:=by
 induction g<;>simp only[Sem.bind]
 all_goals (first|(congr 1;funext x;rename_i ih;exact ih x)|(congr 1))
section
variable {P:Program}
theorem Ku {o:Oper} {e:Env} {k:Env→World→Prop} {a:Act} {w:World} (h:Aw e a) (hd:∀d,o.dst=some d→d<a.tmps.size) (ht:CX P o e k w) :
  (∀c,o.op≠.defer c)∧Bp P w (fun v w'=>∃e',Aw e' (a.put o.dst v)∧k e' w') ((execOp a.eval o).run P w):=by
 have gen:odd o.op=false→OpX P (Cf (CL e) o.op) o.type (fun v w=>k (AK e o.dst (.val v)) w) w →
   (∀c,o.op≠.defer c)∧Bp P w (fun v w'=>∃e',Aw e' (a.put o.dst v)∧k e' w') ((execOp a.eval o).run P w):=by
  intro hodd hx
  refine⟨fun c hc=>by rw[hc] at hodd;simp [odd] at hodd,?_⟩
  rw[Hv o (Hq h) hodd]
  have:=OpX.out.1 hx a.eval (HF a)
  revert this
  generalize (execOp a.eval (An (Cf (CL e) o.op) o.type)).run P w=r
  have up:∀(K K':Value→World→Prop),(∀v w,K v w→K' v w)→∀r,Bp P w K r→Bp P w K' r:=by
   intro K K' hk r
   unfold Bp
   split
   ·exact hk _ _
   ·exact hk _ _
   ·exact fun hc=>hc.mono fun e w h=>by cases e<;>first|exact hk _ _ h|exact h
   ·rintro⟨h⟩;exact⟨fun c cs=>let ⟨v,w',hK,hs⟩:=h c cs;⟨v,w',hk _ _ hK,hs⟩⟩
   ·exact fun hc=>hc.mono fun v w h=>hk _ _ h
   ·rintro⟨e,⟨h⟩⟩;exact⟨e,⟨fun fr cs es he=>let ⟨v,w',hK,hs⟩:=h fr cs es he;⟨v,w',hk _ _ hK,hs⟩⟩⟩
   ·exact id
  exact up _ _ (fun v w hk=>⟨_,Bu h (by simp [Ent.ok]) hd,hk⟩) r
 have bin:∀(op:BinOp) (t:TypeId) (x y:Operand) (u:TypeId),o.op=.binOp op t x y u →
   Bp P w (fun v w=>k (AK e o.dst (.val v)) w) ((do eqGuard op t x y (a.eval x) (a.eval y);return Next.value (←binOp op t (a.eval x) (a.eval y))).run P w) →
   (∀c,o.op≠.defer c)∧Bp P w (fun v w'=>∃e',Aw e' (a.put o.dst v)∧k e' w') ((execOp a.eval o).run P w):=by
  intro op t x y u ho hx
  refine⟨fun c hc=>by rw[ho] at hc;simp at hc,?_⟩
  have he:execOp a.eval o=(do eqGuard op t x y (a.eval x) (a.eval y);return Next.value (←binOp op t (a.eval x) (a.eval y))):=by
   unfold execOp;rw[ho]
   simp only[bind,pure,JB]
  rw[he]
  have:=hx
  revert this
  generalize Sem.run P _ w=r
  unfold Bp
  have ag:∀v,Aw (AK e o.dst (.val v)) (a.put o.dst v):=fun v=>Bu h (by simp [Ent.ok]) hd
  split
  ·exact fun hk=>⟨_,ag _,hk⟩
  ·exact fun hk=>⟨_,ag _,hk⟩
  ·exact fun hc=>hc.mono fun e w h=>by cases e<;>first|exact⟨_,ag _,h⟩|exact h
  ·rintro⟨h⟩;exact⟨fun c cs=>let ⟨v,w',hK,hs⟩:=h c cs;⟨v,w',⟨_,ag _,hK⟩,hs⟩⟩
  ·exact fun hc=>hc.mono fun v w h=>⟨_,ag _,h⟩
  ·rintro⟨e,⟨h⟩⟩;exact⟨e,⟨fun fr cs es he=>let ⟨v,w',hK,hs⟩:=h fr cs es he;⟨v,w',⟨_,ag _,hK⟩,hs⟩⟩⟩
  ·exact id
 unfold CX at ht
 split at ht
 ·rename_i x ho
  refine⟨fun c hc=>by rw[ho] at hc;simp at hc,?_⟩
  unfold execOp;rw[ho]
  exact⟨_,Bu h (BA h x) hd,ht⟩
 ·rename_i x ho
  refine⟨fun c hc=>by rw[ho] at hc;simp at hc,?_⟩
  unfold execOp;rw[ho]
  exact⟨_,Bu h (BA h x) hd,ht⟩
 ·rename_i c x y ho
  refine⟨fun c hc=>by rw[ho] at hc;simp at hc,?_⟩
  have hc:=BA h c
  have key:∀b,a.eval c=.bool b→(b=true→k (AK e o.dst (AQ e x)) w)→(b=false→k (AK e o.dst (AQ e y)) w) →
    Bp P w (fun v w'=>∃e',Aw e' (a.put o.dst v)∧k e' w') ((execOp a.eval o).run P w):=by
   intro b hb h1 h2
   unfold execOp;rw[ho]
   simp only[hb]
   cases b
   ·exact⟨_,Bu h (BA h y) hd,h2 rfl⟩
   ·exact⟨_,Bu h (BA h x) hd,h1 rfl⟩
  split at ht<;>rename_i hce<;>simp only[hce,Ent.ok] at hc
  ·rename_i b
   refine key b hc ?_ ?_<;>(rintro rfl;exact ht)
  ·obtain⟨b,hb,h1,h2⟩:=ht
   exact key b (hc.trans hb) h1 h2
  ·exact ht.elim
 ·rename_i op t x y u ho
  refine bin op t x y u ho ?_
  split at ht
  ·rename_i va vb ha hb
   rw[value?_ok (BA h x) ha,value?_ok (BA h y) hb]
   cases hn:G2 y
   ·rw[hn] at ht
    obtain⟨hx⟩:=ht
    exact hx x y
   ·rw[hn] at ht
    have ey:y=.const .nilIface:=by
     unfold G2 at hn
     split at hn
     ·rfl
     ·cases hn
    subst ey
    have eb:vb=.nilIface:=(value?_ok (BA h (.const .nilIface)) hb).symm
    subst eb
    obtain⟨hx⟩:=ht
    exact hx x
  ·exact ht.elim
 ·exact ht.elim
 ·exact ht.elim
 ·exact ht.elim
 ·exact ht.elim
 ·rename_i n1 n2 n3 n4 n5 n6 n7 n8
  refine gen ?_ ht
  unfold odd
  split
  ·rename_i c hc;exact absurd hc (n5 c)
  ·rename_i c hc;exact absurd hc (n6 c)
  ·rename_i _ _ _ _ _ hc;exact absurd hc (n4 _ _ _ _ _)
  ·rename_i _ _ hc;exact absurd hc (n7 _ _)
  ·rename_i _ _ hc;exact absurd hc (n8 _ _)
  ·rfl
theorem N0 (l:List Oper) (j:Nat):De l j=(l[j]?).bind (·.dst):=by
 induction l generalizing j with
 | nil=>simp [De]
 | cons o os ih=>cases j<;>simp [De,ih]
theorem HH {N:Nat}:∀{l:List Oper},CC N l=true→∀o∈l,∀d,o.dst=some d→d<N
 | [],_,o,ho,_,_=>by simp at ho
 | p::l,h,o,ho,d,hd=>by
  simp only[CC,Bool.and_eq_true] at h
  rcases List.mem_cons.1 ho with rfl|ho
  ·have:=h.1;rw[hd] at this;simpa [Nat.blt_eq] using this
  ·exact HH h.2 o ho d hd
theorem FB {ops:Array Oper} {o:Oper} {a:Act} {j:Nat} {want b:Bool} {d:Nat} (hg:o.guard=some (j,want)) (hd:De ops.toList j=some d)
  (hv:a.tmps.getD d undef=.bool b):Region.wanted o (yielded ops a.tmps)=(b == want):=by
 have hd':(ops[j]?).bind (·.dst)=some d:=by rw[N0] at hd;simpa using hd
 have ht:a.tmps[d]?=some (.bool b):=by
  rw[Array.getD_eq_getD_getElem?] at hv
  cases h:a.tmps[d]? with
  | none=>rw[h] at hv;simp [undef] at hv
  | some x=>rw[h] at hv;simpa using hv
 simp only[Region.wanted,hg,yielded,hd',Option.bind_some,ht]
 cases b<;>cases want<;>rfl
theorem Oq {ops:Array Oper} {o:Oper} {a:Act} {j:Nat} {want:Bool} {d:Nat} (hg:o.guard=some (j,want)) (hd:De ops.toList j=some d)
  (hv:a.tmps.getD d undef=undef):Region.wanted o (yielded ops a.tmps)=false:=by
 have hd':(ops[j]?).bind (·.dst)=some d:=by rw[N0] at hd;simpa using hd
 simp only[Region.wanted,hg,yielded,hd',Option.bind_some]
 rw[Array.getD_eq_getD_getElem?] at hv
 cases h:a.tmps[d]? with
 | none=>rfl
 | some x=>rw[h] at hv;simp only[Option.getD_some] at hv;subst hv;rfl
theorem SQ {ops:Array Oper} {o:Oper} {e:Env} {k:Env→World→Prop} {a:Act} {w:World} {i:Nat} (ho:ops[i]?=some o) (h:Aw e a)
  (hd:∀d,o.dst=some d→d<a.tmps.size) (ht:HS P ops.toList o e k w) (b:Frame) (rest:List Nat) (ks:List Item) (cs:List Frame) :
  ∃v w',(∃e',Aw e' (a.put o.dst v)∧k e' w')∧Steps P (lone (At b a (.inRegion ops (i::rest)::ks)) cs w) (lone (At b (a.put o.dst v) (.inRegion ops rest::ks)) cs w'):=by
 have run:∀e,Aw e a→Region.wanted o (yielded ops a.tmps)=true→CX P o e k w →
   ∃v w',(∃e',Aw e' (a.put o.dst v)∧k e' w')∧Steps P (lone (At b a (.inRegion ops (i::rest)::ks)) cs w) (lone (At b (a.put o.dst v) (.inRegion ops rest::ks)) cs w'):=by
  intro e he hw hs
  obtain⟨hdef,hu⟩:=Ku he hd hs
  exact Kz ho hw hdef hu
 have pass:∀e,Aw e a→Region.wanted o (yielded ops a.tmps)=false→k (AK e o.dst .und) w →
   ∃v w',(∃e',Aw e' (a.put o.dst v)∧k e' w')∧Steps P (lone (At b a (.inRegion ops (i::rest)::ks)) cs w) (lone (At b (a.put o.dst v) (.inRegion ops rest::ks)) cs w'):=by
  intro e he hw hk
  refine⟨undef,w,⟨_,Bu he (x:=.und) rfl hd,hk⟩,.one ?_⟩
  have:=L5 (P:=P) (b:=b) (a:=a) (k:=ks) (cs:=cs) (w:=w) (ops:=ops) (i:=i) (rest:=rest) (by simp [ho,hw])
  simpa only[ho,Option.bind_some] using this
 unfold HS at ht
 split at ht
 ·rename_i hg
  exact run e h (by simp [Region.wanted,hg]) ht
 ·rename_i j want hg
  split at ht
  ·exact ht.elim
  ·rename_i d hdj
   have hv:=Gu h d
   split at ht<;>rename_i hx<;>simp only[hx,Ent.ok] at hv
   ·exact ht.elim
   ·rename_i b
    have hw:=FB hg hdj hv
    cases b<;>cases want<;>simp at ht hw
    ·exact run e h hw ht
    ·exact pass e h hw ht
    ·exact pass e h hw ht
    ·exact run e h hw ht
   ·exact pass e h (Oq hg hdj hv) ht
   ·obtain⟨b,hb,h1,h2⟩:=ht
    have hv':=hv.trans hb
    have hw:=FB hg hdj hv'
    cases b<;>cases want<;>simp at h1 h2 hw
    ·exact run _ (CM h (by rw[hx];simp) (x:=.lit false) hv') hw h2
    ·exact pass _ (CM h (by rw[hx];simp) (x:=.lit false) hv') hw h2
    ·exact pass _ (CM h (by rw[hx];simp) (x:=.lit true) hv') hw h1
    ·exact run _ (CM h (by rw[hx];simp) (x:=.lit true) hv') hw h1
theorem LU {ops:Array Oper} {K:Env→World→Prop}:∀(l:List Oper) (i:Nat) (e:Env) (a:Act) (w:World),ops.toList.drop i=l→CC a.tmps.size l=true→Aw e a →
  EJ P ops.toList l e K w→∀(b:Frame) (k:List Item) (cs:List Frame),∃a' w',(Frz (BC l) a a'∧∃e',Aw e' a'∧K e' w') ∧
   Steps P (lone (At b a (.inRegion ops (List.range' i l.length)::k)) cs w) (lone (At b a' (.inRegion ops []::k)) cs w')
 | [],_,e,a,w,_,_,he,h,_,_,_=>⟨a,w,⟨Frz.refl _ _,e,he,h⟩,.refl _ _⟩
 | o::l,i,e,a,w,hl,hN,he,h,b,k,cs=>by
  have ho:ops[i]?=some o:=by
   have:(ops.toList.drop i)[0]?=some o:=by rw[hl];rfl
   simpa using this
  have hl':ops.toList.drop (i+1)=l:=by
   have:(ops.toList.drop i).drop 1=l:=by rw[hl];rfl
   simpa [List.drop_drop] using this
  have hd:∀d,o.dst=some d→d<a.tmps.size:=HH hN o (by simp)
  have hN':CC a.tmps.size l=true:=by simp only[CC,Bool.and_eq_true] at hN;exact hN.2
  obtain⟨v,w₁,⟨e₁,he₁,h₁⟩,hs⟩:=SQ ho he hd h b (List.range' (i+1) l.length) k cs
  have hf:=LH a o.dst v hd he.1
  obtain⟨a',w',⟨hf',e',he',hK⟩,hs'⟩:=LU l (i+1) e₁ (a.put o.dst v) w₁ hl' (by rw[hf.1];exact hN') he₁ h₁ b k cs
  refine⟨a',w',⟨(hf.trans hf').mono ?_,e',he',hK⟩,?_⟩
  ·intro s hs
   unfold BC
   cases hd:o.dst<;>simp [hd] at hs ⊢<;>exact hs
  ·simp only[List.length_cons,List.range'_succ]
   exact hs.trans hs'
theorem LZ {ro:Option Nat} {ops:Array Oper} {id:Nat} {K:Env→World→Prop} {e:Env} {a:Act} {w:World} (hN:CC a.tmps.size ops.toList=true) (he:Aw e a)
  (h:EJ P ops.toList ops.toList e K w):WP P ro (.region id ops false) (fun ex a' w'=>ex=.normal∧Frz (BC ops.toList) a a'∧∃e',Aw e' a'∧K e' w') a w:=by
 intro b k cs _
 obtain⟨a',w',hp,hs⟩:=LU ops.toList 0 e a w rfl hN he h b k cs
 refine⟨.normal,a',w',⟨rfl,hp⟩,.head Ym ?_⟩
 have:List.range ops.size=List.range' 0 ops.toList.length:=by simp [List.range_eq_range']
 rw[this]
 exact hs.trans (.one J0)
end
theorem MT (l:List Oper) (i:Nat):Ef l i=l[i]?:=by
 induction l generalizing i with
 | nil=>simp [Ef]
 | cons o os ih=>cases i<;>simp [Ef,ih]
inductive TW (ops:Array Oper):Nat→Nat→Prop
 | one {j i:Nat} {o:Oper} {e:Edge} (ho:ops[j]?=some o) (he:e∈o.after) (hb:Region.binds .any e=true) (hi:e.on=i):TW ops j i
 | more {j i:Nat} {o:Oper} {e:Edge} (ho:ops[j]?=some o) (he:e∈o.after) (hb:Region.binds .any e=true) (h:TW ops e.on i):TW ops j i
def Di (ops:Array Oper) (m:Nat):Prop:=∀(j:Nat) (o:Oper),m.testBit j=true→ops[j]?=some o→∀e∈o.after,Region.binds .any e=true→m.testBit e.on=true
def Rdy (ops:Array Oper) (m j:Nat):Prop:=m.testBit j=false∧∃o,ops[j]?=some o∧∀e∈o.after,Region.binds .any e=true→m.testBit e.on=true
theorem E6 (m i j:Nat):(m ||| 2 ^ i).testBit j=(m.testBit j || decide (i=j)):=by
 rw[Nat.testBit_or,Nat.testBit_two_pow]
theorem KP {ops:Array Oper} {m j i:Nat} (hc:Di ops m) (h:TW ops j i) (hj:∀o,ops[j]?=some o→∀e∈o.after,Region.binds .any e=true→m.testBit e.on=true):m.testBit i=true:=by
 induction h with
 | one ho he hb hi=>subst hi;exact hj _ ho _ he hb
 | more ho he hb _ ih=>exact ih fun o' ho' e' he' hb'=>hc _ o' (hj _ ho _ he hb) ho' e' he' hb'
theorem Ed {ops:Array Oper} {m j:Nat} (hc:Di ops m) (hr:Rdy ops m j):Di ops (m ||| 2 ^ j):=by
 intro k o hk ho e he hb
 rw[E6] at *
 obtain⟨_,o',ho',hall⟩:=hr
 by_cases hjk:j=k
 ·subst hjk
  rw[ho] at ho';cases ho'
  simp [hall e he hb]
 ·simp [hjk] at hk
  simp [hc k o hk ho e he hb]
theorem G1 {ops:Array Oper} {m i j:Nat} (hj:Rdy ops m j) (hne:j≠i):Rdy ops (m ||| 2 ^ i) j:=by
 obtain⟨h0,o,ho,hall⟩:=hj
 refine⟨by rw[E6,h0];simp;exact fun h=>hne h.symm,o,ho,fun e he hb=>by rw[E6,hall e he hb];rfl⟩
theorem Wu (m i j:Nat):m ||| 2 ^ i ||| 2 ^ j=m ||| 2 ^ j ||| 2 ^ i:=by
 apply Nat.eq_of_testBit_eq;intro k;simp only[Nat.testBit_or];cases m.testBit k<;>cases (2 ^ i).testBit k<;>cases (2 ^ j).testBit k<;>rfl
section
variable {P:Program}
theorem Io {w0:World} {K K':Value→World→Prop} (hk:∀v w,K v w→K' v w) (r:Result Next) (h:Bp P w0 K r):Bp P w0 K' r:=by
 revert h
 unfold Bp
 split
 ·exact hk _ _
 ·exact hk _ _
 ·exact fun hc=>hc.mono fun e w h=>by cases e<;>first|exact hk _ _ h|exact h
 ·rintro⟨h⟩;exact⟨fun c cs=>let ⟨v,w',hK,hs⟩:=h c cs;⟨v,w',hk _ _ hK,hs⟩⟩
 ·exact fun hc=>hc.mono fun v w h=>hk _ _ h
 ·rintro⟨e,⟨h⟩⟩;exact⟨e,⟨fun fr cs es he=>let ⟨v,w',hK,hs⟩:=h fr cs es he;⟨v,w',hk _ _ hK,hs⟩⟩⟩
 ·exact id
def opK (P:Program) (ops:Array Oper) (j:Nat) (K:Act→World→Prop) (a:Act) (w:World):Prop :=
 ∃o,ops[j]?=some o∧((Region.wanted o (yielded ops a.tmps)=true∧(∀c,o.op≠.defer c)∧Bp P w (fun v w'=>K (a.put o.dst v) w') ((execOp a.eval o).run P w)) ∨
  (Region.wanted o (yielded ops a.tmps)=false∧K (a.put o.dst undef) w))
theorem HE {ops:Array Oper} {j:Nat} {K K':Act→World→Prop} {a:Act} {w:World} (hk:∀a w,K a w→K' a w) (h:opK P ops j K a w):opK P ops j K' a w:=by
 obtain⟨o,ho,h⟩:=h
 refine⟨o,ho,?_⟩
 rcases h with ⟨hw,hd,h⟩|⟨hw,h⟩
 ·exact .inl ⟨hw,hd,Io (fun v w h=>hk _ _ h) _ h⟩
 ·exact .inr ⟨hw,hk _ _ h⟩
def CJ (P:Program) (ops:Array Oper) (ms:List Nat) (K:Act→World→Prop):Nat→Nat→Dg→Act→World→Prop
 | 0,m,_,a,w=>(∀j,¬Rdy ops m j)∧K a w
 | n+1,m,held,a,w=>((∀j,¬Rdy ops m j)→K a w) ∧
   ∀j,Rdy ops m j→opK P ops j (fun a' w'=>(∀p∈Bt ms j held,p.2 w')∧CJ P ops ms K n (m ||| 2 ^ j) (Bt ms j held) a' w') a w
theorem Dm {ms:List Nat} {j:Nat} {held:Dg} {p:Nat × (World→Prop)}:p∈Bt ms j held↔p∈held∧twB ms j p.1=false:=by
 induction held with
 | nil=>simp [Bt]
 | cons q l ih =>
  unfold Bt
  cases h:twB ms j q.1
  ·simp only[cond_false,List.mem_cons,ih]
   constructor
   ·rintro(rfl|⟨h1,h2⟩)
    ·exact⟨.inl rfl,h⟩
    ·exact⟨.inr h1,h2⟩
   ·rintro⟨rfl|h1,h2⟩
    ·exact .inl rfl
    ·exact .inr ⟨h1,h2⟩
  ·simp only[cond_true,ih,List.mem_cons]
   constructor
   ·rintro⟨h1,h2⟩;exact⟨.inr h1,h2⟩
   ·rintro⟨rfl|h1,h2⟩
    ·rw[h] at h2;cases h2
    ·exact⟨h1,h2⟩
theorem JA {ops:Array Oper} {ms:List Nat} {K:Act→World→Prop}:∀(n m:Nat) (held held':Dg) (a:Act) (w:World),(∀p∈held',p∈held) →
  CJ P ops ms K n m held a w→CJ P ops ms K n m held' a w
 | 0,_,_,_,_,_,_,h=>h
 | n+1,m,held,held',a,w,hs,h=>⟨h.1,fun j hj=>HE (fun a' w' ⟨h1,h2⟩ =>
   have hs':∀p∈Bt ms j held',p∈Bt ms j held:=fun p hp=>by rw[Dm] at *;exact⟨hs p hp.1,hp.2⟩
   ⟨fun p hp=>h1 p (hs' p hp),JA n _ _ _ a' w' hs' h2⟩) (h.2 j hj)⟩
theorem HP {ops:Array Oper} {ms:List Nat} {K:Act→World→Prop} {i:Nat}:∀(n m:Nat) (held:Dg) (a:Act) (w:World),
  CJ P ops ms K n m held a w→CJ P ops ms K n m ((i,fun _=>True)::held) a w
 | 0,_,_,_,_,h=>h
 | n+1,m,held,a,w,h=>⟨h.1,fun j hj=>HE (fun a' w' ⟨h1,h2⟩=>by
   refine⟨fun p hp=>?_,?_⟩
   ·rw[Dm,List.mem_cons] at hp
    rcases hp with ⟨rfl|hp,ht⟩
    ·trivial
    ·exact h1 p (Dm.2 ⟨hp,ht⟩)
   ·unfold Bt
    cases twB ms j i
    ·exact HP n _ _ a' w' h2
    ·exact h2) (h.2 j hj)⟩
def YS (P:Program) (ops:Array Oper) (S:World→Prop) (o:Oper) (v:Value) (a:Act):Prop :=
 (Region.wanted o (yielded ops a.tmps)=true∧(∀c,o.op≠.defer c)∧∀w,S w→(execOp a.eval o).run P w=.ok (.value v) w) ∨
 (Region.wanted o (yielded ops a.tmps)=false∧v=undef)
theorem YS.op {ops:Array Oper} {S:World→Prop} {o:Oper} {v:Value} {a:Act} {w:World} {i:Nat} {K:Act→World→Prop} (hi:ops[i]?=some o) (h:YS P ops S o v a) (hS:S w)
  (hk:K (a.put o.dst v) w):opK P ops i K a w:=by
 refine⟨o,hi,?_⟩
 rcases h with ⟨hw,hd,h⟩|⟨hw,rfl⟩
 ·exact .inl ⟨hw,hd,by rw[h w hS];exact hk⟩
 ·exact .inr ⟨hw,hk⟩
theorem YS.put {ops:Array Oper} {S:World→Prop} {o:Oper} {v u:Value} {a:Act} {dst:Option Nat} (h:YS P ops S o v a) (hs:∀cs b,o.op≠.select cs b) (hd:∀d,dst=some d→d∉o.looksAt ops) :
  YS P ops S o v (a.put dst u):=by
 unfold YS at *
 rw[execOp_put o hs a dst u hd,wanted_put o a dst u hd]
 exact h
theorem ZP {ops:Array Oper} {S:World→Prop} {i j:Nat} {oi oj:Oper} {v:Value} {K:Act→World→Prop} {a:Act} {w:World} (hj:ops[j]?=some oj) (hap:oi.apart ops oj=true)
  (hsi:∀cs b,oi.op≠.select cs b) (hsj:∀cs b,oj.op≠.select cs b) (hy:YS P ops S oi v a) (h:opK P ops j K (a.put oi.dst v) w) :
  opK P ops j (fun a' w'=>YS P ops S oi v a'∧K (a'.put oi.dst v) w') a w:=by
 obtain⟨h1,h2,h3⟩:=Oper.apart_spec hap
 obtain⟨o,ho,h⟩:=h
 rw[hj] at ho;cases ho
 rw[wanted_put oj a oi.dst v h1,execOp_put oj hsj a oi.dst v h1] at h
 refine⟨oj,hj,?_⟩
 rcases h with ⟨hw,hd,h⟩|⟨hw,h⟩
 ·exact .inl ⟨hw,hd,Io (fun u w' hk=>⟨hy.put hsi h3,by rw[←Act.put_comm a v u h2];exact hk⟩) _ h⟩
 ·exact .inr ⟨hw,hy.put hsi h3,by rw[←Act.put_comm a v undef h2];exact h⟩
theorem TU {ops:Array Oper} {ms:List Nat} {K:Act→World→Prop} {S:World→Prop} {i:Nat} {oi:Oper} {v:Value} (hi:ops[i]?=some oi)
  (hms:∀j i,twB ms j i=true→TW ops j i)
  (hap:∀j oj,ops[j]?=some oj→j≠i→Eg oj i=false→twB ms i j=false→oi.apart ops oj=true)
  (hsel:∀(j:Nat) (o:Oper) cs b,ops[j]?=some o→o.op≠.select cs b) :
  ∀(n m:Nat) (held:Dg) (a:Act) (w:World),Di ops m→Rdy ops m i→YS P ops S oi v a→S w→(∀p∈held,p.2 w) →
   CJ P ops ms K n (m ||| 2 ^ i) ((i,S)::held) (a.put oi.dst v) w→CJ P ops ms K (n+1) m held a w:=by
 intro n
 induction n with
 | zero =>
  intro m held a w hc hr hy hS hh H
  refine⟨fun h=>absurd hr (h i),fun j hj=>?_⟩
  by_cases hji:j=i
  ·subst hji
   exact hy.op hi hS ⟨fun p hp=>hh p (Dm.1 hp).1,H⟩
  ·exact absurd (G1 hj hji) (H.1 j)
 | succ n ih =>
  intro m held a w hc hr hy hS hh H
  refine⟨fun h=>absurd hr (h i),fun j hj=>?_⟩
  by_cases hji:j=i
  ·subst hji
   exact hy.op hi hS ⟨fun p hp=>hh p (Dm.1 hp).1,JA _ _ _ _ _ _ (fun p hp=>List.mem_cons_of_mem _ (Dm.1 hp).1) H⟩
  ·have h1:=H.2 j (G1 hj hji)
   obtain⟨hjun,oj,hoj,hall⟩:=hj
   have hnw:Eg oj i=false:=by
    cases hwt:Eg oj i with
    | false=>rfl
    | true =>
     unfold Eg at hwt
     obtain⟨e,he,hb⟩:=List.any_eq_true.1 hwt
     simp only[Bool.and_eq_true] at hb
     have:=hall e (by simpa using he) hb.1
     rw[Nat.eq_of_beq_eq_true hb.2,hr.1] at this
     cases this
   have hnt:twB ms j i=false:=by
    cases ht:twB ms j i with
    | false=>rfl
    | true =>
     have:=KP hc (hms j i ht) (fun o ho=>by rw[hoj] at ho;cases ho;exact hall)
     rw[hr.1] at this;cases this
   have hnt':twB ms i j=false:=by
    cases ht:twB ms i j with
    | false=>rfl
    | true =>
     obtain⟨_,o,ho,hal⟩:=hr
     have:=KP hc (hms i j ht) (fun o' ho'=>by rw[ho] at ho';cases ho';exact hal)
     rw[hjun] at this;cases this
   have hk:Bt ms j ((i,S)::held)=(i,S)::Bt ms j held:=by
    conv=>lhs;unfold Bt
    simp [hnt]
   rw[hk] at h1
   refine HE ?_ (ZP (i:=i) hoj (hap j oj hoj hji hnw hnt') (fun cs b=>hsel i oi cs b hi) (fun cs b=>hsel j oj cs b hoj) hy h1)
   rintro a' w' ⟨hy',hhs,hX⟩
   refine⟨fun p hp=>hhs p (List.mem_cons_of_mem _ hp),?_⟩
   refine ih (m ||| 2 ^ j) (Bt ms j held) a' w' (Ed hc ⟨hjun,oj,hoj,hall⟩) (G1 hr (Ne.symm hji)) hy' (hhs (i,S) (List.mem_cons_self ..)) (fun p hp=>hhs p (List.mem_cons_of_mem _ hp)) ?_
   rw[Wu];exact hX
def Gv (ops:Array Oper) (listed:Array Bool) (m:Nat):Prop:=listed.size=ops.size∧(∀i,i<ops.size→listed.getD i false=m.testBit i)∧∀i,ops.size≤i→m.testBit i=false
theorem Jz {ops:Array Oper} {listed:Array Bool} {m:Nat} (h:Gv ops listed m) (j:Nat):j∈Region.ready .any ops listed↔Rdy ops m j:=by
 have hb:∀i,listed.getD i false=m.testBit i:=fun i=>by
  rcases Nat.lt_or_ge i ops.size with hi|hi
  ·exact h.2.1 i hi
  ·rw[h.2.2 i hi,Array.getD_eq_getD_getElem?,Array.getElem?_eq_none (by rw[h.1];exact hi)];rfl
 rw[mem_ready]
 constructor
 ·rintro⟨h0,o,ho,hall⟩
  have hj:j<ops.size:=(Array.getElem?_eq_some_iff.1 ho).1
  refine⟨?_,o,ho,fun e he hbd=>by rw[←hb];exact hall e he hbd⟩
  rw[←hb]
  have hj':j<listed.size:=by rw[h.1];exact hj
  simpa [Array.getD_eq_getD_getElem?,hj'] using h0
 ·rintro⟨h0,o,ho,hall⟩
  have hj:j<ops.size:=(Array.getElem?_eq_some_iff.1 ho).1
  refine⟨?_,o,ho,fun e he hbd=>by rw[hb];exact hall e he hbd⟩
  rw[←hb] at h0
  have hj':j<listed.size:=by rw[h.1];exact hj
  simpa [Array.getD_eq_getD_getElem?,hj'] using h0
theorem R9 {ops:Array Oper} {listed:Array Bool} {m j:Nat} (h:Gv ops listed m) (hj:j<ops.size):Gv ops (listed.setIfInBounds j true) (m ||| 2 ^ j):=by
 refine⟨by simpa using h.1,fun i hi=>?_,fun i hi=>?_⟩
 ·rw[E6,←h.2.1 i hi]
  by_cases hij:j=i
  ·subst hij
   simp [Array.getD_eq_getD_getElem?,h.1,hj]
  ·simp [Array.getD_eq_getD_getElem?,Array.getElem?_setIfInBounds_ne hij,hij]
 ·rw[E6,h.2.2 i hi]
  have:j≠i:=by omega
  simp [this]
theorem Pz {ops:Array Oper} {j:Nat} {K:Act→World→Prop} {a:Act} {w:World} (h:opK P ops j K a w) (b:Frame) (rest:List Nat) (k:List Item) (cs:List Frame) :
  ∃a' w',K a' w'∧Steps P (lone (At b a (.inRegion ops (j::rest)::k)) cs w) (lone (At b a' (.inRegion ops rest::k)) cs w'):=by
 obtain⟨o,ho,h⟩:=h
 rcases h with ⟨hw,hd,h⟩|⟨hw,h⟩
 ·obtain⟨v,w',hk,hs⟩:=Kz (b:=b) (k:=k) (cs:=cs) (rest:=rest) ho hw hd h
  exact⟨_,_,hk,hs⟩
 ·refine⟨_,_,h,.one ?_⟩
  have:=L5 (P:=P) (b:=b) (a:=a) (k:=k) (cs:=cs) (w:=w) (ops:=ops) (i:=j) (rest:=rest) (by simp [ho,hw])
  simpa only[ho,Option.bind_some] using this
theorem Ro {ops:Array Oper} {ms:List Nat} {K:Act→World→Prop}:∀(n t:Nat) (listed:Array Bool) (m:Nat) (held:Dg) (a:Act) (w:World),Gv ops listed m→CJ P ops ms K n m held a w →
  ∀(b:Frame) (k:List Item) (cs:List Frame),∃a' w',K a' w' ∧
   Steps P (lone (At b a (.inRegion ops (Region.linearise.go .any ops n t listed [])::k)) cs w) (lone (At b a' (.inRegion ops []::k)) cs w'):=by
 intro n
 induction n with
 | zero =>
  intro t listed m held a w _ h b k cs
  exact⟨a,w,h.2,by simp only[Region.linearise.go,List.reverse_nil];exact .refl _ _⟩
 | succ n ih =>
  intro t listed m held a w hrel h b k cs
  simp only[Region.linearise.go]
  change ∃a' w',K a' w'∧Steps P (lone (At b a (.inRegion ops (match (Region.ready .any ops listed)[t % (Region.ready .any ops listed).length]? with
   | some i=>Region.linearise.go .any ops n (t / (Region.ready .any ops listed).length) (listed.setIfInBounds i true) [i]
   | none=>[].reverse)::k)) cs w) _
  cases hi:(Region.ready .any ops listed)[t % (Region.ready .any ops listed).length]? with
  | none =>
   have hnil:Region.ready .any ops listed=[]:=by
    cases hr:Region.ready .any ops listed with
    | nil=>rfl
    | cons x xs =>
     rw[hr] at hi
     have hlt:t % (x::xs).length<(x::xs).length:=Nat.mod_lt _ (by simp)
     simp at hi
     simp at hlt
     omega
   refine⟨a,w,h.1 fun j hj=>?_,by simp only[List.reverse_nil];exact .refl _ _⟩
   have:=(Jz hrel j).2 hj
   rw[hnil] at this;cases this
  | some i =>
   have hri:=(Jz hrel i).1 (List.mem_of_getElem? hi)
   simp only[]
   rw[linearise_go_acc,List.reverse_singleton,List.singleton_append]
   obtain⟨a₁,w₁,⟨_,hX⟩,hs⟩:=Pz (h.2 i hri) b (Region.linearise.go .any ops n (t / (Region.ready .any ops listed).length) (listed.setIfInBounds i true) []) k cs
   obtain⟨_,o,ho,_⟩:=hri
   obtain⟨a',w',hk,hs'⟩:=ih (t / (Region.ready .any ops listed).length) (listed.setIfInBounds i true) (m ||| 2 ^ i) _ a₁ w₁ (R9 hrel (Array.getElem?_eq_some_iff.1 ho).1) hX b k cs
   exact⟨a',w',hk,hs.trans hs'⟩
theorem NC {ops:Array Oper}:∀(l:List Oper) (acc:List Nat),ops.toList=(ops.toList.take acc.length)++l→acc.length≤ops.toList.length →
  (∀j i,twB acc j i=true→TW ops j i)→∀j i,twB (CP l acc) j i=true→TW ops j i
 | [],acc,_,_,h=>h
 | o::l,acc,hl,hlen,h=>by
  have ho:ops[acc.length]?=some o:=by
   have h1:ops.toList[acc.length]?=some o:=by
    rw[hl,List.getElem?_append_right (by simp;omega)]
    have:(List.take acc.length ops.toList).length=acc.length:=by simp at hlen ⊢;omega
    rw[this];simp
   simpa using h1
  have hlt:acc.length<ops.toList.length:=by have:=(Array.getElem?_eq_some_iff.1 ho).1;simpa using this
  unfold CP
  refine NC l _ ?_ (by simp at hlt ⊢;omega) ?_
  ·rw[List.length_append,List.length_singleton,List.take_add_one]
   have h1:ops.toList[acc.length]?=some o:=by simpa using ho
   rw[h1]
   simp only[Option.toList_some,List.append_assoc,List.singleton_append]
   exact hl
  ·intro j i ht
   unfold twB at ht
   rcases Nat.lt_trichotomy j acc.length with hj|hj|hj
   ·refine h j i ?_
    unfold twB
    rw[List.getD_eq_getElem?_getD,List.getElem?_append_left hj,←List.getD_eq_getElem?_getD] at ht
    exact ht
   ·subst hj
    have hval:(acc++[Eu acc o.after.toList 0]).getD acc.length 0=Eu acc o.after.toList 0:=by simp [List.getD_eq_getElem?_getD]
    rw[hval] at ht
    have key:∀(es:List Edge) (s:Nat),(∀e∈es,e∈o.after)→(s.testBit i=true→TW ops acc.length i)→(Eu acc es s).testBit i=true→TW ops acc.length i:=by
     intro es
     induction es with
     | nil=>intro s _ hs ht;exact hs ht
     | cons e es ih =>
      intro s hm hs ht
      unfold Eu at ht
      refine ih _ (fun e he=>hm e (List.mem_cons_of_mem _ he)) ?_ ht
      intro hb
      cases hbd:Region.binds .any e with
      | false=>rw[hbd] at hb;exact hs hb
      | true =>
       rw[hbd,cond_true,Nat.testBit_or,Nat.testBit_or,Nat.testBit_two_pow] at hb
       simp only[Bool.or_eq_true,decide_eq_true_eq] at hb
       rcases hb with (hb|hb)|hb
       ·exact hs hb
       ·exact .one ho (hm e (by simp)) hbd hb
       ·exact .more ho (hm e (by simp)) hbd (h e.on i hb)
    exact key _ 0 (fun e he=>by simpa using he) (by simp) ht
   ·rw[List.getD_eq_getElem?_getD,List.getElem?_eq_none (by simp;omega)] at ht
    simp at ht
end
section
variable {P:Program}
def unS (S:Option (World→Prop)):World→Prop:=S.getD fun _=>True
theorem TF {o:Oper} {e:Env} {k:Env→Option (World→Prop)→Prop} {a:Act} {w:World} (h:Aw e a) (hd:∀d,o.dst=some d→d<a.tmps.size) (ht:Ha P o e k w) :
  ∃(v:Value) (e':Env) (S:Option (World→Prop)),Aw e' (a.put o.dst v)∧k e' S∧(∀c,o.op≠.defer c)∧unS S w∧∀w',unS S w'→(execOp a.eval o).run P w'=.ok (.value v) w':=by
 have bin:∀(op:BinOp) (t:TypeId) (x y:Operand) (u:TypeId),o.op=.binOp op t x y u→execOp a.eval o=A7 op t (a.eval x) (a.eval y) x y:=by
  intro op t x y u ho
  unfold execOp A7;rw[ho]
  simp only[bind,pure,JB]
 unfold Ha at ht
 split at ht
 ·rename_i x ho
  refine⟨a.eval x,_,none,Bu h (BA h x) hd,ht,fun c hc=>by rw[ho] at hc;simp at hc,trivial,fun w' _=>?_⟩
  unfold execOp;rw[ho];rfl
 ·rename_i x ho
  refine⟨a.eval x,_,none,Bu h (BA h x) hd,ht,fun c hc=>by rw[ho] at hc;simp at hc,trivial,fun w' _=>?_⟩
  unfold execOp;rw[ho];rfl
 ·rename_i c x y ho
  have hc:=BA h c
  have key:∀b,a.eval c=.bool b→(b=true→k (AK e o.dst (AQ e x)) none)→(b=false→k (AK e o.dst (AQ e y)) none) →
    ∃(v:Value) (e':Env) (S:Option (World→Prop)),Aw e' (a.put o.dst v)∧k e' S∧(∀c,o.op≠.defer c)∧unS S w∧∀w',unS S w'→(execOp a.eval o).run P w'=.ok (.value v) w':=by
   intro b hb h1 h2
   cases b
   ·refine⟨a.eval y,_,none,Bu h (BA h y) hd,h2 rfl,fun c hc=>by rw[ho] at hc;simp at hc,trivial,fun w' _=>?_⟩
    unfold execOp;rw[ho];simp only[hb];rfl
   ·refine⟨a.eval x,_,none,Bu h (BA h x) hd,h1 rfl,fun c hc=>by rw[ho] at hc;simp at hc,trivial,fun w' _=>?_⟩
    unfold execOp;rw[ho];simp only[hb];rfl
  split at ht<;>rename_i hce<;>simp only[hce,Ent.ok] at hc
  ·refine key _ hc ?_ ?_<;>(rintro rfl;exact ht)
  ·obtain⟨b,hb,h1,h2⟩:=ht
   exact key b (hc.trans hb) h1 h2
  ·exact ht.elim
 ·rename_i op t x y u ho
  have hnd:∀c,o.op≠.defer c:=fun c hc=>by rw[ho] at hc;simp at hc
  split at ht
  ·rename_i va vb ha hb
   have hx:=value?_ok (BA h x) ha
   have hy:=value?_ok (BA h y) hb
   cases hq:Nat.beq (Ct o.op) 2<;>rw[hq] at ht
   ·obtain⟨v,⟨hv⟩,hk⟩:=ht
    refine⟨v,_,some (YldB P op t va vb v),Bu h (by simp [Ent.ok]) hd,hk,hnd,⟨hv⟩,fun w' ⟨hw⟩=>?_⟩
    rw[bin op t x y u ho,hx,hy];exact hw x y
   ·obtain⟨v,hv,hk⟩:=ht
    refine⟨v,_,none,Bu h (by simp [Ent.ok]) hd,hk,hnd,trivial,fun w' _=>?_⟩
    rw[bin op t x y u ho,hx,hy];exact hv x y w'
  ·exact ht.elim
 ·rename_i n1 n2 n3 n4
  have gen:Ct o.op=2∨Ct o.op=3→odd o.op=false∧∀c,o.op≠.defer c:=by
   intro hq
   refine⟨?_,fun c hc=>by rw[hc] at hq;simp [Ct] at hq⟩
   unfold odd
   split
   ·rename_i c hc;rw[hc] at hq;simp [Ct] at hq
   ·rename_i c hc;rw[hc] at hq;simp [Ct] at hq
   ·rename_i _ _ _ _ _ hc;exact absurd hc (n4 _ _ _ _ _)
   ·rename_i _ _ hc;rw[hc] at hq;simp [Ct] at hq
   ·rename_i _ _ hc;rw[hc] at hq;simp [Ct] at hq
   ·rfl
  split at ht
  ·rename_i hq
   obtain⟨ho,hnd⟩:=gen (.inl hq)
   obtain⟨v,hv,hk⟩:=ht
   refine⟨v,_,none,Bu h (by simp [Ent.ok]) hd,hk,hnd,trivial,fun w' _=>?_⟩
   rw[Hv o (Hq h) ho]
   exact hv _ (HF a) w'
  ·rename_i hq
   obtain⟨ho,hnd⟩:=gen (.inr hq)
   obtain⟨v,⟨hv⟩,hk⟩:=ht
   refine⟨v,_,some (Yld P (Cf (CL e) o.op) o.type v),Bu h (by simp [Ent.ok]) hd,hk,hnd,⟨hv⟩,fun w' ⟨hw⟩=>?_⟩
   rw[Hv o (Hq h) ho]
   exact hw _ (HF a)
  ·exact ht.elim
theorem Kq {ops:Array Oper} {o:Oper} {e:Env} {run skip:Env→Prop} {a:Act} (h:Aw e a) (ht:FP ops.toList o e run skip) :
  (∃e',Aw e' a∧Region.wanted o (yielded ops a.tmps)=true∧run e')∨(∃e',Aw e' a∧Region.wanted o (yielded ops a.tmps)=false∧skip e'):=by
 unfold FP at ht
 split at ht
 ·rename_i hg
  exact .inl ⟨e,h,by simp [Region.wanted,hg],ht⟩
 ·rename_i j want hg
  split at ht
  ·exact ht.elim
  ·rename_i d hdj
   have hv:=Gu h d
   split at ht<;>rename_i hx<;>simp only[hx,Ent.ok] at hv
   ·exact ht.elim
   ·rename_i b
    have hw:=FB hg hdj hv
    cases b<;>cases want<;>simp at ht hw
    ·exact .inl ⟨e,h,hw,ht⟩
    ·exact .inr ⟨e,h,hw,ht⟩
    ·exact .inr ⟨e,h,hw,ht⟩
    ·exact .inl ⟨e,h,hw,ht⟩
   ·exact .inr ⟨e,h,Oq hg hdj hv,ht⟩
   ·obtain⟨b,hb,h1,h2⟩:=ht
    have hv':=hv.trans hb
    have hw:=FB hg hdj hv'
    cases b<;>cases want<;>simp at h1 h2 hw
    ·exact .inl ⟨_,CM h (by rw[hx];simp) (x:=.lit false) hv',hw,h2⟩
    ·exact .inr ⟨_,CM h (by rw[hx];simp) (x:=.lit false) hv',hw,h2⟩
    ·exact .inr ⟨_,CM h (by rw[hx];simp) (x:=.lit true) hv',hw,h1⟩
    ·exact .inl ⟨_,CM h (by rw[hx];simp) (x:=.lit true) hv',hw,h1⟩
theorem K8 {m:Nat} {es:List Edge}:okE m es=true↔∀e∈es,Region.binds .any e=true→m.testBit e.on=true:=by
 induction es with
 | nil=>simp [okE]
 | cons e es ih =>
  simp only[okE,Bool.and_eq_true,ih,List.mem_cons,forall_eq_or_imp]
  cases Region.binds .any e<;>simp
theorem LC {m:Nat}:∀(l:List Oper) (i j:Nat),j∈Cl l i m↔∃o,i≤j∧l[j-i]?=some o∧m.testBit j=false∧okE m o.after.toList=true
 | [],i,j=>by simp [Cl]
 | o::l,i,j=>by
  have ih:=LC (m:=m) l (i+1) j
  have split:(∃o',i≤j∧(o::l)[j-i]?=some o'∧m.testBit j=false∧okE m o'.after.toList=true) ↔
    (j=i∧m.testBit i=false∧okE m o.after.toList=true)∨j∈Cl l (i+1) m:=by
   rw[ih]
   constructor
   ·rintro⟨o',hij,ho,hb,hk⟩
    rcases Nat.eq_or_lt_of_le hij with rfl|hlt
    ·simp at ho;subst ho;exact .inl ⟨rfl,hb,hk⟩
    ·obtain⟨d,rfl⟩:∃d,j=i+1+d:=⟨j-(i+1),by omega⟩
     have e1:i+1+d-i=d+1:=by omega
     have e2:i+1+d-(i+1)=d:=by omega
     rw[e1] at ho
     exact .inr ⟨o',by omega,by rw[e2];simpa using ho,hb,hk⟩
   ·rintro(⟨rfl,hb,hk⟩|⟨o',hij,ho,hb,hk⟩)
    ·exact⟨o,Nat.le_refl _,by simp,hb,hk⟩
    ·obtain⟨d,rfl⟩:∃d,j=i+1+d:=⟨j-(i+1),by omega⟩
     have e1:i+1+d-i=d+1:=by omega
     have e2:i+1+d-(i+1)=d:=by omega
     rw[e2] at ho
     exact⟨o',by omega,by rw[e1];simpa using ho,hb,hk⟩
  rw[split]
  have e:Cl (o::l) i m=bif (!m.testBit i && okE m o.after.toList) then i::Cl l (i+1) m else Cl l (i+1) m:=rfl
  rw[e]
  cases hb:m.testBit i<;>cases hk:okE m o.after.toList<;>simp
theorem ES {ops:Array Oper} {m j:Nat}:j∈Cl ops.toList 0 m↔Rdy ops m j:=by
 rw[LC]
 unfold Rdy
 constructor
 ·rintro⟨o,_,ho,hb,hk⟩
  exact⟨hb,o,by simpa using ho,fun e he=>K8.1 hk e (by simpa using he)⟩
 ·rintro⟨hb,o,ho,hall⟩
  exact⟨o,Nat.zero_le _,by simpa using ho,hb,K8.2 fun e he=>hall e (by simpa using he)⟩
theorem TP {ops:Array Oper} {ms:List Nat} (h:Fa ops ms=true) :
  (∀(i:Nat) (oi:Oper),ops[i]?=some oi→∀j oj,ops[j]?=some oj→j≠i→Eg oj i=false→twB ms i j=false→oi.apart ops oj=true) ∧
  (∀(j:Nat) (o:Oper) cs b,ops[j]?=some o→o.op≠.select cs b):=by
 unfold Fa at h
 rw[Bool.and_eq_true] at h
 refine⟨fun i oi hi j oj hj hne hw ht=>?_,fun j o cs b ho=>Region.noSelect_spec h.1 j o cs b ho⟩
 have mem:∀(i:Nat) (o:Oper),ops[i]?=some o→(o,i)∈ops.toList.zipIdx:=fun i o ho=>by
  rw[List.mem_zipIdx_iff_getElem?];simpa using ho
 have h1:=List.all_eq_true.1 h.2 (oi,i) (mem i oi hi)
 have h2:=List.all_eq_true.1 h1 (oj,j) (mem j oj hj)
 simp only[hw,ht,Bool.or_false,Bool.or_eq_true] at h2
 rcases h2 with h2|h2
 ·exact absurd (Nat.eq_of_beq_eq_true h2).symm hne
 ·exact h2
theorem W6 {l:Dg} {w:World} {X:Prop} (h:IM l w X):(∀p∈l,p.2 w)∧X:=by
 induction l with
 | nil=>exact⟨by simp,h⟩
 | cons p l ih=>exact⟨fun q hq=>by rcases List.mem_cons.1 hq with rfl|hq;exact h.1;exact(ih h.2).1 q hq,(ih h.2).2⟩
theorem UY {l:List Nat} {f:Nat→Prop} (h:It l f):∀j∈l,f j:=by
 induction l with
 | nil=>simp
 | cons j l ih =>
  cases l with
  | nil=>intro i hi;simp at hi;subst hi;exact h
  | cons k l=>intro i hi;rcases List.mem_cons.1 hi with rfl|hi;exact h.1;exact ih h.2 i hi
theorem YW {ops:List Oper} {l:List Nat} {i:Nat} (h:ET ops l=some i):i∈l:=by
 induction l with
 | nil=>simp [ET] at h
 | cons j l ih =>
  unfold ET at h
  cases hq:II ops j<;>rw[hq] at h
  ·exact List.mem_cons_of_mem _ (ih h)
  ·simp at h;subst h;simp
theorem Pc {l:List Oper} {o:Oper} (ho:o∈l):∀d∈o.dst.toList,d∈BC l:=by
 induction l with
 | nil=>simp at ho
 | cons p l ih =>
  intro d hd
  unfold BC
  rcases List.mem_cons.1 ho with rfl|ho
  ·cases hp:o.dst with
   | none=>rw[hp] at hd;simp at hd
   | some x=>rw[hp] at hd;simp at hd ⊢;exact .inl hd
  ·cases hp:p.dst with
   | none=>exact ih ho d hd
   | some x=>exact List.mem_cons_of_mem _ (ih ho d hd)
theorem Sk {ops:Array Oper} {ms:List Nat} {K:Env→World→Prop} {a0:Act} (hms:ms=CP ops.toList []) (hap:Fa ops ms=true) (hN:CC a0.tmps.size ops.toList=true) (hD:a0.tmps.size≤DK) :
  ∀(n m:Nat) (held:Dg) (e:Env) (a:Act) (w:World),Di ops m→Frz (BC ops.toList) a0 a→Aw e a→(∀p∈held,p.2 w)→trD P ops.toList ms n m held e K w →
   CJ P ops ms (fun a' w'=>Frz (BC ops.toList) a0 a'∧∃e',Aw e' a'∧K e' w') n m held a w:=by
 have htw:∀j i,twB ms j i=true→TW ops j i:=by
  subst hms
  exact NC ops.toList [] (by simp) (by simp) (by intro j i h;simp [twB] at h)
 obtain⟨hapart,hsel⟩:=TP hap
 intro n
 have bound:∀{a:Act},Frz (BC ops.toList) a0 a→∀{i:Nat} {o:Oper},ops[i]?=some o→∀d,o.dst=some d→d<a.tmps.size:=by
  intro a hf i o ho d hd
  rw[hf.1]
  exact HH hN o (by simpa using List.mem_of_getElem? (l:=ops.toList) (by simpa using ho)) d hd
 have frz:∀{a:Act} (hf:Frz (BC ops.toList) a0 a) {i:Nat} {o:Oper} (ho:ops[i]?=some o) (v:Value),Frz (BC ops.toList) a0 (a.put o.dst v):=by
  intro a hf i o ho v
  refine(hf.trans (LH a o.dst v (bound hf ho) (by rw[hf.1];exact hD))).mono fun s hs=>?_
  rcases List.mem_append.1 hs with h|h
  ·exact h
  ·exact Pc (List.mem_of_getElem? (l:=ops.toList) (by simpa using ho)) s h
 induction n with
 | zero =>
  intro m held e a w hc hf he hh ht
  unfold trD at ht
  split at ht
  ·rename_i hr
   exact⟨fun j hj=>by rw[←ES,hr] at hj;simp at hj,hf,e,he,ht⟩
  ·exact ht.elim
 | succ n ih =>
  intro m held e a w hc hf he hh ht
  unfold trD at ht
  split at ht
  ·rename_i hr
   exact⟨fun _=>⟨hf,e,he,ht⟩,fun j hj=>by rw[←ES,hr] at hj;simp at hj⟩
  ·split at ht
   ·rename_i i hq
    have hri:Rdy ops m i:=ES.1 (YW hq)
    split at ht
    ·exact ht.elim
    ·rename_i o hno
     have ho:ops[i]?=some o:=by rw[MT] at hno;simpa using hno
     have first:=fun(S:World→Prop) (v:Value)=>TU (P:=P) (K:=fun a' w'=>Frz (BC ops.toList) a0 a'∧∃e',Aw e' a'∧K e' w') (S:=S) (v:=v) ho htw (hapart i o ho) hsel n m held a w hc hri
     rcases Kq he ht with ⟨e',he',hw,ht⟩|⟨e',he',hw,ht⟩
     ·obtain⟨v,e'',S,hag,hk,hnd,hS,hrun⟩:=TF he' (bound hf ho) ht
      cases S with
      | none =>
       refine first (fun _=>True) v (.inl ⟨hw,hnd,fun w' _=>hrun w' trivial⟩) trivial hh (HP _ _ _ _ _ ?_)
       exact ih _ _ _ _ _ (Ed hc hri) (frz hf ho v) hag hh hk
      | some S =>
       refine first S v (.inl ⟨hw,hnd,hrun⟩) hS hh ?_
       refine ih _ _ _ _ _ (Ed hc hri) (frz hf ho v) hag ?_ hk
       intro p hp
       rcases List.mem_cons.1 hp with rfl|hp
       ·exact hS
       ·exact hh p hp
     ·refine first (fun _=>True) undef (.inr ⟨hw,rfl⟩) trivial hh (HP _ _ _ _ _ ?_)
      exact ih _ _ _ _ _ (Ed hc hri) (frz hf ho undef) (Bu he' (x:=.und) rfl (bound hf ho)) hh ht
   ·have hall:=UY ht
    refine⟨fun hn=>?_,fun j hj=>?_⟩
    ·rename_i hne _ _
     cases hr:Cl ops.toList 0 m with
     | nil=>exact absurd hr hne
     | cons j l=>exact absurd (ES.1 (by rw[hr];simp)) (hn j)
    ·have hj':=hall j (ES.2 hj)
     split at hj'
     ·exact hj'.elim
     ·rename_i o hno
      have ho:ops[j]?=some o:=by rw[MT] at hno;simpa using hno
      refine⟨o,ho,?_⟩
      rcases Kq he hj' with ⟨e',he',hw,ht⟩|⟨e',he',hw,ht⟩
      ·obtain⟨hnd,hu⟩:=Ku he' (bound hf ho) ht
       refine .inl ⟨hw,hnd,Io (fun v w' ⟨e'',hag,hk⟩=>?_) _ hu⟩
       obtain⟨h1,h2⟩:=W6 hk
       exact⟨h1,ih _ _ _ _ _ (Ed hc hj) (frz hf ho v) hag h1 h2⟩
      ·have h1:∀p∈Bt ms j held,p.2 w:=fun p hp=>hh p (Dm.1 hp).1
       exact .inr ⟨hw,h1,ih _ _ _ _ _ (Ed hc hj) (frz hf ho undef) (Bu he' (x:=.und) rfl (bound hf ho)) h1 ht⟩
theorem Mj {ro:Option Nat} (hm:P.follows .mixedOrders=true) {ops:Array Oper} {id:Nat} {K:Env→World→Prop} {e:Env} {a:Act} {w:World} (hN:CC a.tmps.size ops.toList=true) (he:Aw e a)
  (hap:Fa ops (CP ops.toList [])=true) (h:trD P ops.toList (CP ops.toList []) ops.size 0 [] e K w.drew) :
  WP P ro (.region id ops true) (fun ex a' w'=>ex=.normal∧Frz (BC ops.toList) a a'∧∃e',Aw e' a'∧K e' w') a w:=by
 intro b k cs _
 have hX:=Sk (P:=P) (a0:=a) rfl hap hN he.1 ops.size 0 [] e a w.drew (by intro j o hj;simp at hj) (Frz.refl _ _) he (by simp) h
 obtain⟨a',w',hp,hs⟩:=Ro ops.size (w.tape w.drawn (.order b.fn id)) (Array.replicate ops.size false) 0 [] a w.drew ⟨by simp,fun i hi=>by simp [hi,Array.getD_eq_getD_getElem?],by simp⟩ hX b k cs
 refine⟨.normal,a',w',⟨rfl,hp⟩,.head YV ?_⟩
 have e1:Region.schedule (P.follows .mixedOrders) ops (w.tape w.drawn (.order b.fn id))=Region.linearise.go .any ops ops.size (w.tape w.drawn (.order b.fn id)) (Array.replicate ops.size false) []:=by
  simp only[Region.schedule,hm,Bool.true_or,if_true];rfl
 rw[e1]
 exact hs.trans (.one J0)
end
section
variable {P:Program}
theorem Gd {J:List Nat} {base:Env} {M:(Env→World→Prop)→World→Prop} {K:Env→World→Prop} {w:World} (h:DU J base M K w) :
  ∃R:Env→World→Prop,M R w∧∀(e':Env) (a':Act) (w':World),Aw e' a'→R e' w'→Aw base a'→∃e'',Aw e'' a'∧K e'' w':=by
 unfold DU at h
 split at h
 ·obtain⟨R,h1,h2⟩:=h
  exact⟨fun _ w=>R w,h1,fun e' a' w' _ hr hb=>⟨_,hb,h2 w' hr⟩⟩
 ·rename_i s0
  obtain⟨R,h1,h2⟩:=h
  refine⟨_,h1,fun e' a' w' he hr hb=>?_⟩
  have r0:=Af he hr
  refine⟨_,?_,h2 _ w' r0⟩
  exact(Am hb (x:=.val _) rfl)
 ·rename_i s0 s1
  obtain⟨R,h1,h2⟩:=h
  refine⟨_,h1,fun e' a' w' he hr hb=>?_⟩
  have r0:=Af he hr
  have r1:=Af he r0
  refine⟨_,?_,h2 _ _ w' r1⟩
  exact(Am (Am hb (x:=.val _) rfl) (x:=.val _) rfl)
 ·rename_i s0 s1 s2
  obtain⟨R,h1,h2⟩:=h
  refine⟨_,h1,fun e' a' w' he hr hb=>?_⟩
  have r0:=Af he hr
  have r1:=Af he r0
  have r2:=Af he r1
  refine⟨_,?_,h2 _ _ _ w' r2⟩
  exact(Am (Am (Am hb (x:=.val _) rfl) (x:=.val _) rfl) (x:=.val _) rfl)
 ·rename_i s0 s1 s2 s3
  obtain⟨R,h1,h2⟩:=h
  refine⟨_,h1,fun e' a' w' he hr hb=>?_⟩
  have r0:=Af he hr
  have r1:=Af he r0
  have r2:=Af he r1
  have r3:=Af he r2
  refine⟨_,?_,h2 _ _ _ _ w' r3⟩
  exact(Am (Am (Am (Am hb (x:=.val _) rfl) (x:=.val _) rfl) (x:=.val _) rfl) (x:=.val _) rfl)
 ·rename_i s0 s1 s2 s3 s4
  obtain⟨R,h1,h2⟩:=h
  refine⟨_,h1,fun e' a' w' he hr hb=>?_⟩
  have r0:=Af he hr
  have r1:=Af he r0
  have r2:=Af he r1
  have r3:=Af he r2
  have r4:=Af he r3
  refine⟨_,?_,h2 _ _ _ _ _ w' r4⟩
  exact(Am (Am (Am (Am (Am hb (x:=.val _) rfl) (x:=.val _) rfl) (x:=.val _) rfl) (x:=.val _) rfl) (x:=.val _) rfl)
 ·rename_i s0 s1 s2 s3 s4 s5
  obtain⟨R,h1,h2⟩:=h
  refine⟨_,h1,fun e' a' w' he hr hb=>?_⟩
  have r0:=Af he hr
  have r1:=Af he r0
  have r2:=Af he r1
  have r3:=Af he r2
  have r4:=Af he r3
  have r5:=Af he r4
  refine⟨_,?_,h2 _ _ _ _ _ _ w' r5⟩
  exact(Am (Am (Am (Am (Am (Am hb (x:=.val _) rfl) (x:=.val _) rfl) (x:=.val _) rfl) (x:=.val _) rfl) (x:=.val _) rfl) (x:=.val _) rfl)
 ·rename_i s0 s1 s2 s3 s4 s5 s6
  obtain⟨R,h1,h2⟩:=h
  refine⟨_,h1,fun e' a' w' he hr hb=>?_⟩
  have r0:=Af he hr
  have r1:=Af he r0
  have r2:=Af he r1
  have r3:=Af he r2
  have r4:=Af he r3
  have r5:=Af he r4
  have r6:=Af he r5
  refine⟨_,?_,h2 _ _ _ _ _ _ _ w' r6⟩
  exact(Am (Am (Am (Am (Am (Am (Am hb (x:=.val _) rfl) (x:=.val _) rfl) (x:=.val _) rfl) (x:=.val _) rfl) (x:=.val _) rfl) (x:=.val _) rfl) (x:=.val _) rfl)
 ·rename_i s0 s1 s2 s3 s4 s5 s6 s7
  obtain⟨R,h1,h2⟩:=h
  refine⟨_,h1,fun e' a' w' he hr hb=>?_⟩
  have r0:=Af he hr
  have r1:=Af he r0
  have r2:=Af he r1
  have r3:=Af he r2
  have r4:=Af he r3
  have r5:=Af he r4
  have r6:=Af he r5
  have r7:=Af he r6
  refine⟨_,?_,h2 _ _ _ _ _ _ _ _ w' r7⟩
  exact(Am (Am (Am (Am (Am (Am (Am (Am hb (x:=.val _) rfl) (x:=.val _) rfl) (x:=.val _) rfl) (x:=.val _) rfl) (x:=.val _) rfl) (x:=.val _) rfl) (x:=.val _) rfl) (x:=.val _) rfl)
 ·exact h.elim
theorem VJ {L:List Nat} {e base:Env} {body:Env→(Env→World→Prop)→World→Prop} {a:Act} {w:World} (he:Aw e a) (h:HG L e base body w) :
  ∃(I:Act→World→Prop) (μ:Act→World→Nat),I a w∧∀(a1:Act) (w1:World),I a1 w1→Aw base a1 →
   ∃(e1:Env) (nx:Env→World→Prop),Aw e1 a1∧body e1 nx w1∧∀e2 a2 w2,Aw e2 a2→nx e2 w2→I a2 w2∧μ a2 w2<μ a1 w1:=by
 unfold HG at h
 split at h
 ·obtain⟨I,μ,h0,h1⟩:=h
  exact⟨fun _ w=>I w,fun _ w=>μ w,h0,fun a1 w1 hi hb=>⟨_,_,hb,h1 w1 hi,fun _ _ _ _ h=>h⟩⟩
 ·rename_i s0
  have r0:=Af he h
  obtain⟨I,μ,h0,h1⟩:=r0
  refine⟨fun a w=>I (Ah a s0) w,fun a w=>μ (Ah a s0) w,h0,fun a1 w1 hi hb=>⟨_,_,?_,h1 _ w1 hi,fun e2 a2 w2 he2 hn=>?_⟩⟩
  ·exact(Am hb (x:=.val _) rfl)
  ·have q0:=Af he2 hn
   exact q0
 ·rename_i s0 s1
  have r0:=Af he h
  have r1:=Af he r0
  obtain⟨I,μ,h0,h1⟩:=r1
  refine⟨fun a w=>I (Ah a s0) (Ah a s1) w,fun a w=>μ (Ah a s0) (Ah a s1) w,h0,fun a1 w1 hi hb=>⟨_,_,?_,h1 _ _ w1 hi,fun e2 a2 w2 he2 hn=>?_⟩⟩
  ·exact(Am (Am hb (x:=.val _) rfl) (x:=.val _) rfl)
  ·have q0:=Af he2 hn
   have q1:=Af he2 q0
   exact q1
 ·rename_i s0 s1 s2
  have r0:=Af he h
  have r1:=Af he r0
  have r2:=Af he r1
  obtain⟨I,μ,h0,h1⟩:=r2
  refine⟨fun a w=>I (Ah a s0) (Ah a s1) (Ah a s2) w,fun a w=>μ (Ah a s0) (Ah a s1) (Ah a s2) w,h0,fun a1 w1 hi hb=>⟨_,_,?_,h1 _ _ _ w1 hi,fun e2 a2 w2 he2 hn=>?_⟩⟩
  ·exact(Am (Am (Am hb (x:=.val _) rfl) (x:=.val _) rfl) (x:=.val _) rfl)
  ·have q0:=Af he2 hn
   have q1:=Af he2 q0
   have q2:=Af he2 q1
   exact q2
 ·rename_i s0 s1 s2 s3
  have r0:=Af he h
  have r1:=Af he r0
  have r2:=Af he r1
  have r3:=Af he r2
  obtain⟨I,μ,h0,h1⟩:=r3
  refine⟨fun a w=>I (Ah a s0) (Ah a s1) (Ah a s2) (Ah a s3) w,fun a w=>μ (Ah a s0) (Ah a s1) (Ah a s2) (Ah a s3) w,h0,fun a1 w1 hi hb=>⟨_,_,?_,h1 _ _ _ _ w1 hi,fun e2 a2 w2 he2 hn=>?_⟩⟩
  ·exact(Am (Am (Am (Am hb (x:=.val _) rfl) (x:=.val _) rfl) (x:=.val _) rfl) (x:=.val _) rfl)
  ·have q0:=Af he2 hn
   have q1:=Af he2 q0
   have q2:=Af he2 q1
   have q3:=Af he2 q2
   exact q3
 ·rename_i s0 s1 s2 s3 s4
  have r0:=Af he h
  have r1:=Af he r0
  have r2:=Af he r1
  have r3:=Af he r2
  have r4:=Af he r3
  obtain⟨I,μ,h0,h1⟩:=r4
  refine⟨fun a w=>I (Ah a s0) (Ah a s1) (Ah a s2) (Ah a s3) (Ah a s4) w,fun a w=>μ (Ah a s0) (Ah a s1) (Ah a s2) (Ah a s3) (Ah a s4) w,h0,fun a1 w1 hi hb=>⟨_,_,?_,h1 _ _ _ _ _ w1 hi,fun e2 a2 w2 he2 hn=>?_⟩⟩
  ·exact(Am (Am (Am (Am (Am hb (x:=.val _) rfl) (x:=.val _) rfl) (x:=.val _) rfl) (x:=.val _) rfl) (x:=.val _) rfl)
  ·have q0:=Af he2 hn
   have q1:=Af he2 q0
   have q2:=Af he2 q1
   have q3:=Af he2 q2
   have q4:=Af he2 q3
   exact q4
 ·rename_i s0 s1 s2 s3 s4 s5
  have r0:=Af he h
  have r1:=Af he r0
  have r2:=Af he r1
  have r3:=Af he r2
  have r4:=Af he r3
  have r5:=Af he r4
  obtain⟨I,μ,h0,h1⟩:=r5
  refine⟨fun a w=>I (Ah a s0) (Ah a s1) (Ah a s2) (Ah a s3) (Ah a s4) (Ah a s5) w,fun a w=>μ (Ah a s0) (Ah a s1) (Ah a s2) (Ah a s3) (Ah a s4) (Ah a s5) w,h0,fun a1 w1 hi hb=>⟨_,_,?_,h1 _ _ _ _ _ _ w1 hi,fun e2 a2 w2 he2 hn=>?_⟩⟩
  ·exact(Am (Am (Am (Am (Am (Am hb (x:=.val _) rfl) (x:=.val _) rfl) (x:=.val _) rfl) (x:=.val _) rfl) (x:=.val _) rfl) (x:=.val _) rfl)
  ·have q0:=Af he2 hn
   have q1:=Af he2 q0
   have q2:=Af he2 q1
   have q3:=Af he2 q2
   have q4:=Af he2 q3
   have q5:=Af he2 q4
   exact q5
 ·rename_i s0 s1 s2 s3 s4 s5 s6
  have r0:=Af he h
  have r1:=Af he r0
  have r2:=Af he r1
  have r3:=Af he r2
  have r4:=Af he r3
  have r5:=Af he r4
  have r6:=Af he r5
  obtain⟨I,μ,h0,h1⟩:=r6
  refine⟨fun a w=>I (Ah a s0) (Ah a s1) (Ah a s2) (Ah a s3) (Ah a s4) (Ah a s5) (Ah a s6) w,fun a w=>μ (Ah a s0) (Ah a s1) (Ah a s2) (Ah a s3) (Ah a s4) (Ah a s5) (Ah a s6) w,h0,fun a1 w1 hi hb=>⟨_,_,?_,h1 _ _ _ _ _ _ _ w1 hi,fun e2 a2 w2 he2 hn=>?_⟩⟩
  ·exact(Am (Am (Am (Am (Am (Am (Am hb (x:=.val _) rfl) (x:=.val _) rfl) (x:=.val _) rfl) (x:=.val _) rfl) (x:=.val _) rfl) (x:=.val _) rfl) (x:=.val _) rfl)
  ·have q0:=Af he2 hn
   have q1:=Af he2 q0
   have q2:=Af he2 q1
   have q3:=Af he2 q2
   have q4:=Af he2 q3
   have q5:=Af he2 q4
   have q6:=Af he2 q5
   exact q6
 ·rename_i s0 s1 s2 s3 s4 s5 s6 s7
  have r0:=Af he h
  have r1:=Af he r0
  have r2:=Af he r1
  have r3:=Af he r2
  have r4:=Af he r3
  have r5:=Af he r4
  have r6:=Af he r5
  have r7:=Af he r6
  obtain⟨I,μ,h0,h1⟩:=r7
  refine⟨fun a w=>I (Ah a s0) (Ah a s1) (Ah a s2) (Ah a s3) (Ah a s4) (Ah a s5) (Ah a s6) (Ah a s7) w,fun a w=>μ (Ah a s0) (Ah a s1) (Ah a s2) (Ah a s3) (Ah a s4) (Ah a s5) (Ah a s6) (Ah a s7) w,h0,fun a1 w1 hi hb=>⟨_,_,?_,h1 _ _ _ _ _ _ _ _ w1 hi,fun e2 a2 w2 he2 hn=>?_⟩⟩
  ·exact(Am (Am (Am (Am (Am (Am (Am (Am hb (x:=.val _) rfl) (x:=.val _) rfl) (x:=.val _) rfl) (x:=.val _) rfl) (x:=.val _) rfl) (x:=.val _) rfl) (x:=.val _) rfl) (x:=.val _) rfl)
  ·have q0:=Af he2 hn
   have q1:=Af he2 q0
   have q2:=Af he2 q1
   have q3:=Af he2 q2
   have q4:=Af he2 q3
   have q5:=Af he2 q4
   have q6:=Af he2 q5
   have q7:=Af he2 q6
   exact q7
 ·rename_i s0 s1 s2 s3 s4 s5 s6 s7 s8
  have r0:=Af he h
  have r1:=Af he r0
  have r2:=Af he r1
  have r3:=Af he r2
  have r4:=Af he r3
  have r5:=Af he r4
  have r6:=Af he r5
  have r7:=Af he r6
  have r8:=Af he r7
  obtain⟨I,μ,h0,h1⟩:=r8
  refine⟨fun a w=>I (Ah a s0) (Ah a s1) (Ah a s2) (Ah a s3) (Ah a s4) (Ah a s5) (Ah a s6) (Ah a s7) (Ah a s8) w,fun a w=>μ (Ah a s0) (Ah a s1) (Ah a s2) (Ah a s3) (Ah a s4) (Ah a s5) (Ah a s6) (Ah a s7) (Ah a s8) w,h0,fun a1 w1 hi hb=>⟨_,_,?_,h1 _ _ _ _ _ _ _ _ _ w1 hi,fun e2 a2 w2 he2 hn=>?_⟩⟩
  ·exact(Am (Am (Am (Am (Am (Am (Am (Am (Am hb (x:=.val _) rfl) (x:=.val _) rfl) (x:=.val _) rfl) (x:=.val _) rfl) (x:=.val _) rfl) (x:=.val _) rfl) (x:=.val _) rfl) (x:=.val _) rfl) (x:=.val _) rfl)
  ·have q0:=Af he2 hn
   have q1:=Af he2 q0
   have q2:=Af he2 q1
   have q3:=Af he2 q2
   have q4:=Af he2 q3
   have q5:=Af he2 q4
   have q6:=Af he2 q5
   have q7:=Af he2 q6
   have q8:=Af he2 q7
   exact q8
 ·rename_i s0 s1 s2 s3 s4 s5 s6 s7 s8 s9
  have r0:=Af he h
  have r1:=Af he r0
  have r2:=Af he r1
  have r3:=Af he r2
  have r4:=Af he r3
  have r5:=Af he r4
  have r6:=Af he r5
  have r7:=Af he r6
  have r8:=Af he r7
  have r9:=Af he r8
  obtain⟨I,μ,h0,h1⟩:=r9
  refine⟨fun a w=>I (Ah a s0) (Ah a s1) (Ah a s2) (Ah a s3) (Ah a s4) (Ah a s5) (Ah a s6) (Ah a s7) (Ah a s8) (Ah a s9) w,fun a w=>μ (Ah a s0) (Ah a s1) (Ah a s2) (Ah a s3) (Ah a s4) (Ah a s5) (Ah a s6) (Ah a s7) (Ah a s8) (Ah a s9) w,h0,fun a1 w1 hi hb=>⟨_,_,?_,h1 _ _ _ _ _ _ _ _ _ _ w1 hi,fun e2 a2 w2 he2 hn=>?_⟩⟩
  ·exact(Am (Am (Am (Am (Am (Am (Am (Am (Am (Am hb (x:=.val _) rfl) (x:=.val _) rfl) (x:=.val _) rfl) (x:=.val _) rfl) (x:=.val _) rfl) (x:=.val _) rfl) (x:=.val _) rfl) (x:=.val _) rfl) (x:=.val _) rfl) (x:=.val _) rfl)
  ·have q0:=Af he2 hn
   have q1:=Af he2 q0
   have q2:=Af he2 q1
   have q3:=Af he2 q2
   have q4:=Af he2 q3
   have q5:=Af he2 q4
   have q6:=Af he2 q5
   have q7:=Af he2 q6
   have q8:=Af he2 q7
   have q9:=Af he2 q8
   exact q9
 ·exact h.elim
theorem FO {N:Nat} {ds:List Nat} {a a':Act} (h:a.tmps.size=N) (hf:Frz ds a a'):a'.tmps.size=N:=by rw[hf.1,h]
theorem Td (r:Nat) (ds:List Deferred):Ca ({ target:=.collected r,args:=#[] }::ds)=B7 r (Ca ds):=by
 unfold Ca
 simp only[CA,Gh]
 cases CA ds with
 | none=>rfl
 | some rs=>simp [B7]
def ZJ (L:Loop):LSt→Obj
 | .ready=>.loop L
 | .busy=>.loop { L with state:=.busy }
 | .gone .ret=>.loop { L with state:=.done,pending:=some .ret }
 | .gone (.exit id)=>.loop { L with state:=.done,pending:=some (.exit id) }
 | .gone .normal=>.loop { L with state:=.done }
 | .over .ret=>.loop { L with state:=.exhausted,pending:=some .ret }
 | .over (.exit id)=>.loop { L with state:=.exhausted,pending:=some (.exit id) }
 | .over .normal=>.loop { L with state:=.exhausted }
theorem QZ (l:List (Nat × Value)) (tmps:Array Value):(l.foldl (fun tmps p=>tmps.setIfInBounds p.1 p.2) tmps).size=tmps.size:=by
 induction l generalizing tmps with
 | nil=>rfl
 | cons p l ih=>rw[List.foldl_cons,ih];simp
theorem ON:∀(ps:List Nat) (i:Nat) (vs us:List Value) (e:Env) (a:Act),Aw e a→(∀p∈ps,p<a.tmps.size)→ps.length=us.length→us=vs.drop i →
  Aw (Ei ps i vs e) { tmps:=(ps.zip us).foldl (fun tmps p=>tmps.setIfInBounds p.1 p.2) a.tmps,defers:=a.defers }
 | [],i,vs,us,e,a,h,_,_,_=>by simpa [Ei] using h
 | p::ps,i,vs,[],e,a,h,_,hl,_=>by simp at hl
 | p::ps,i,vs,u::us,e,a,h,hp,hl,hu=>by
  have hn:By vs i=u:=by
   clear h hp hl
   induction vs generalizing i with
   | nil=>simp at hu
   | cons v vs ih =>
    cases i with
    | zero=>simp at hu;exact hu.1.symm
    | succ i=>exact ih i (by simpa using hu)
  have hu':us=vs.drop (i+1):=by
   have:=congrArg (List.drop 1) hu
   simpa [List.drop_drop] using this
  have h1:=Bu (dst:=some p) (x:=.val u) (v:=u) h rfl (fun d hd=>by cases hd;exact hp p (by simp))
  have:=ON ps (i+1) vs us ((p,.val u)::e) (a.put (some p) u) h1 (fun q hq=>by simpa [Act.put] using hp q (by simp [hq])) (by simpa using hl) hu'
  show Aw (Ei ps (i+1) vs ((p,.val (By vs i))::e)) _
  rw[hn]
  exact this
def IZ (ds:List Nat) (Q:Ex→Env→World→Prop) (a:Act) (ex:Ex) (a':Act) (w':World):Prop:=Frz ds a a'∧∃e',Aw e' a'∧Q ex e' w'
theorem Pd (hm:P.follows .mixedOrders=true) {hs:Et} {N:Nat}:∀(c:Code) (top:Bool) (ro:Option Nat),(top=true→ro=none)→∀(n:Nat) (Q:Ex→Env→World→Prop) (e:Env) (a:Act) (w:World),wfc N c=true→a.tmps.size=N→Aw e a →
  tr P top hs c n Q e w→WP P ro c (IZ (BS c) Q a) a w:=by
 intro c
 induction c with
 | skip=>exact fun top ro hro n Q e a w _ _ he h=>.skip ⟨Frz.refl _ _,e,he,h⟩
 | label l=>exact fun top ro hro n Q e a w _ _ he h=>.label ⟨Frz.refl _ _,e,he,h⟩
 | scope c ih =>
  intro top ro hro n Q e a w hw hN he h
  unfold tr at h
  exact .scope (ih top ro hro _ _ e a w hw hN he h)
 | exit id=>exact fun top ro hro n Q e a w _ _ he h=>.exit ⟨Frz.refl _ _,e,he,h⟩
 | ret=>exact fun top ro hro n Q e a w _ _ he h=>.ret ⟨Frz.refl _ _,e,he,h⟩
 | region id ops draw =>
  intro top ro hro n Q e a w hw hN he h
  subst hN
  cases draw with
  | true =>
   unfold tr at h
   split at h
   ·exact h.elim
   ·rename_i hap
    split at h
    ·exact(Mj hm hw he hap h).mono fun ex a' w' ⟨hx,hf,e',he',hk⟩=>by subst hx;exact⟨hf,e',he',hk⟩
    ·obtain⟨R,hM,hK⟩:=Gd h
     refine(Mj hm hw he hap hM).mono fun ex a' w' ⟨hx,hf,e',he',hk⟩=>?_
     subst hx
     exact⟨hf,hK e' a' w' he' hk (DL he hf)⟩
  | false =>
   unfold tr at h
   split at h
   ·exact(LZ hw he h).mono fun ex a' w' ⟨hx,hf,e',he',hk⟩=>by subst hx;exact⟨hf,e',he',hk⟩
   ·obtain⟨R,hM,hK⟩:=Gd h
    refine(LZ hw he hM).mono fun ex a' w' ⟨hx,hf,e',he',hk⟩=>?_
    subst hx
    exact⟨hf,hK e' a' w' he' hk (DL he hf)⟩
 | seq x y ihx ihy =>
  intro top ro hro n Q e a w hw hN he h
  simp only[wfc,Bool.and_eq_true] at hw
  unfold tr at h
  split at h
  ·refine .seq ((ihx top ro hro _ _ e a w hw.1 hN he h).mono ?_)
   rintro ex a' w' ⟨hf,e',he',hq⟩
   cases ex with
   | normal =>
    refine(ihy top ro hro _ _ e' a' w' hw.2 (FO hN hf) he' hq).mono ?_
    rintro ex a₂ w₂ ⟨hf₂,e₂,he₂,hq₂⟩
    exact⟨hf.trans hf₂,e₂,he₂,hq₂⟩
   | exit id=>exact⟨hf.mono fun s hs=>List.mem_append.2 (.inl hs),e',he',hq⟩
   | ret=>exact⟨hf.mono fun s hs=>List.mem_append.2 (.inl hs),e',he',hq⟩
  ·obtain⟨R,hM,hK⟩:=Gd h
   refine .seq ((ihx top ro hro _ _ e a w hw.1 hN he hM).mono ?_)
   rintro ex a' w' ⟨hf,e',he',hq⟩
   cases ex with
   | normal =>
    obtain⟨e'',he'',hk⟩:=hK e' a' w' he' hq (DL he hf)
    refine(ihy top ro hro _ _ e'' a' w' hw.2 (FO hN hf) he'' hk).mono ?_
    rintro ex a₂ w₂ ⟨hf₂,e₂,he₂,hq₂⟩
    exact⟨hf.trans hf₂,e₂,he₂,hq₂⟩
   | exit id=>exact⟨hf.mono fun s hs=>List.mem_append.2 (.inl hs),e',he',hq⟩
   | ret=>exact⟨hf.mono fun s hs=>List.mem_append.2 (.inl hs),e',he',hq⟩
 | cond c x y ihx ihy =>
  intro top ro hro n Q e a w hw hN he h
  simp only[wfc,Bool.and_eq_true] at hw
  have hc:=BA he c
  have go:∀(b:Bool),a.eval c=.bool b→∀e,Aw e a→(b=true→tr P top hs x (n+1) Q e w)→(b=false→tr P top hs y (n+1+BP x) Q e w)→WP P ro (.cond c x y) (IZ (BS (.cond c x y)) Q a) a w:=by
   intro b hb e he h1 h2
   refine .cond hb ?_
   cases b
   ·exact(ihy top ro hro _ _ e a w hw.2 hN he (h2 rfl)).mono fun ex a' w' ⟨hf,r⟩=>⟨hf.mono fun s hs=>List.mem_append.2 (.inr hs),r⟩
   ·exact(ihx top ro hro _ _ e a w hw.1 hN he (h1 rfl)).mono fun ex a' w' ⟨hf,r⟩=>⟨hf.mono fun s hs=>List.mem_append.2 (.inl hs),r⟩
  have ref:∀b,AQ e c≠.unk→a.eval c=.bool b→Aw (Ir e c b) a:=by
   intro b hne hb
   cases c with
   | tmp t=>exact CM he hne (x:=.lit b) hb
   | _=>exact he
  unfold tr at h
  split at h<;>rename_i hx<;>simp only[hx,Ent.ok] at hc
  ·exact h.elim
  ·exact h.elim
  ·rename_i b
   refine go b hc e he ?_ ?_<;>(rintro rfl;exact h)
  ·obtain⟨b,hb,h1,h2⟩:=h
   have hv:=hc.trans hb
   cases b
   ·exact go _ hv _ (ref _ (by rw[hx];simp) hv) (fun h=>by cases h) h2
   ·exact go _ hv _ (ref _ (by rw[hx];simp) hv) h1 (fun h=>by cases h)
 | block id c ih =>
  intro top ro hro n Q e a w hw hN he h
  unfold tr at h
  refine .block ?_
  split at h
  ·refine(ih top ro hro _ _ e a w hw hN he h).mono ?_
   rintro ex a' w' ⟨hf,e',he',hq⟩
   cases ex with
   | normal=>exact⟨hf,e',he',hq⟩
   | ret=>exact⟨hf,e',he',hq⟩
   | exit id' =>
    by_cases hid:id'=id
    ·subst hid
     simp only[Eh,Nat.beq_refl,cond_true] at hq
     simp only[Ex.inBlk,if_true]
     exact⟨hf,e',he',hq⟩
    ·have hb:Nat.beq id' id=false:=by
      cases hb:Nat.beq id' id with
      | true=>exact absurd (Nat.eq_of_beq_eq_true hb) hid
      | false=>rfl
     simp only[Eh,hb,cond_false] at hq
     simp only[Ex.inBlk,hid,if_false]
     exact⟨hf,e',he',hq⟩
  ·obtain⟨R,hM,hK⟩:=Gd h
   refine(ih top ro hro _ _ e a w hw hN he hM).mono ?_
   rintro ex a' w' ⟨hf,e',he',hq⟩
   cases ex with
   | normal=>exact⟨hf,hK e' a' w' he' hq (DL he hf)⟩
   | ret=>exact⟨hf,e',he',hq⟩
   | exit id' =>
    by_cases hid:id'=id
    ·subst hid
     simp only[Eh,Nat.beq_refl,cond_true] at hq
     simp only[Ex.inBlk,if_true]
     exact⟨hf,hK e' a' w' he' hq (DL he hf)⟩
    ·have hb:Nat.beq id' id=false:=by
      cases hb:Nat.beq id' id with
      | true=>exact absurd (Nat.eq_of_beq_eq_true hb) hid
      | false=>rfl
     simp only[Eh,hb,cond_false] at hq
     simp only[Ex.inBlk,hid,if_false]
     exact⟨hf,e',he',hq⟩
 | loop c ih =>
  intro top ro hro n Q e a w hw hN he h
  unfold tr at h
  split at h
  ·exact h.elim
  ·obtain⟨I,μ,h0,hr⟩:=VJ he h
   refine .loop (fun a1 w1=>I a1 w1∧Frz (BS c) a a1) μ ⟨h0,Frz.refl _ _⟩ ?_
   rintro a1 w1 ⟨hI,hf1⟩
   obtain⟨e1,nx,he1,hb,hnx⟩:=hr a1 w1 hI (DL he hf1)
   refine(ih top ro hro _ _ e1 a1 w1 hw (FO hN hf1) he1 hb).mono ?_
   rintro ex a2 w2 ⟨hf2,e2,he2,hq⟩
   have hf:Frz (BS c) a a2:=(hf1.trans hf2).mono fun s hs=>by simpa using hs
   cases ex with
   | normal =>
    obtain⟨hI2,hlt⟩:=hnx e2 a2 w2 he2 hq
    exact⟨⟨hI2,hf⟩,hlt⟩
   | exit id=>exact⟨hf,e2,he2,hq⟩
   | ret=>exact⟨hf,e2,he2,hq⟩
 | rangeFunc f params x y ihx ihy =>
  intro top ro hro n Q e a w hw hN he h
  simp only[wfc,Bool.and_eq_true] at hw
  obtain⟨⟨hwp,hwx⟩,hwy⟩:=hw
  unfold tr at h
  split at h
  ·rename_i fv dv hfv hdv
   have hro':ro=none:=hro rfl
   have hev:=BA he f
   rw[hfv] at hev
   have hev:a.eval f=fv:=hev
   obtain⟨h⟩:=h
   intro b k cs hb
   have h:=h (ZJ { state:=.ready,pending:=none,fn:=b.fn,tmps:=a.tmps,params,assign:=x,body:=y,defers:=w.heap.size }) (.func (.yield (w.heap.size+1)) #[] #[]) ?_
   ·obtain⟨g,us,cs',hgf,hgb,hcalls⟩:=h
    have hst:=Wi (P:=P) (b:=b) (a:=a) (k:=k) (cs:=cs) (w:=w) (f:=f) (params:=params) (assign:=x) (body:=y) (hb.trans hro') (hev.trans hgf) hgb
    have hargs:us.toArray++#[Value.func (.yield (w.heap.size+1)) #[] #[]]++cs'.toArray=(us++[Value.func (.yield (w.heap.size+1)) #[] #[]]++cs').toArray:=by simp
    rw[hargs] at hst
    obtain⟨en,w3,fr,hR,hs,_,hl⟩:=hcalls (At b { a with defers:={ target:=.collected w.heap.size,args:=#[] }::a.defers } (.inRangeFunc (w.heap.size+1)::k)::cs)
    cases en with
    | returned v =>
     have hfin:(At b { a with defers:={ target:=.collected w.heap.size,args:=#[] }::a.defers } (.inRangeFunc (w.heap.size+1)::k)).finish v=At b { a with defers:={ target:=.collected w.heap.size,args:=#[] }::a.defers } (.endRangeFunc (w.heap.size+1)::k):=by simp [Frame.finish,At]
     have hgo:=Steps.trans (.head hst hs) (.one (hfin ▸ step_leave_returned hl))
     have hfz:Frz [DK] a { a with defers:={ target:=.collected w.heap.size,args:=#[] }::a.defers }:=⟨rfl,fun s hs=>by
      have:s≠DK:=by simpa using hs
      rw[Cz _ this,Cz _ this]⟩
     have hag:Aw ((DK,.val (B7 w.heap.size dv))::e) { a with defers:={ target:=.collected w.heap.size,args:=#[] }::a.defers }:=by
      refine⟨he.1,fun i=>?_⟩
      rw[Env.get_cons]
      split
      ·rename_i hi
       subst hi
       have h1:=he.2 DK
       rw[hdv] at h1
       have h1:Ah a DK=dv:=h1
       have h2:Ca a.defers=dv:=by rw[←h1];simp [Ah]
       show Ah _ DK=_
       unfold Ah
       rw[if_pos rfl,←h2]
       exact Td _ _
      ·rename_i hi
       have hi:i≠DK:=fun e=>hi e.symm
       have:=he.2 i
       rw[Cz _ hi] at this ⊢
       exact this
     rcases hR with ⟨hh,hq⟩|⟨hh,hq⟩|⟨id,q,hmem,hh,hq⟩
     ·exact⟨.normal,_,_,⟨hfz,_,hag,hq⟩,hgo.trans (.one (HI hh (by simp)))⟩
     ·cases hr:CN y with
      | false=>rw[hr] at hq;exact hq.elim
      | true =>
       rw[hr] at hq
       exact⟨.ret,_,_,⟨hfz,_,hag,hq⟩,k,hgo.trans (.one (HI hh (by simp)))⟩
     ·obtain⟨id',-,hid⟩:=List.mem_map.1 hmem
      cases hid
      exact⟨.exit id,_,_,⟨hfz,_,hag,hq⟩,k,rfl,hgo.trans (.one (HI hh (by simp)))⟩
    | panicked chain=>exact hR.elim
    | outgrown=>exact hR.elim
   ·intro vs w2 K hlen hh2 hM ats ty
    refine⟨fun ρ hg=>?_⟩
    have hrun:(execOp ρ (An (.call { callee:=.value (.const (.func (.yield (w.heap.size+1)) #[] #[])),args:=(vs.map Operand.const).toArray,argTypes:=ats }) ty)).run P w2 =
      .ok (.round (w.heap.size+1) b.fn ((params.toList.zip vs).foldl (fun tmps p=>tmps.setIfInBounds p.1 p.2) a.tmps) x y) w2:=by
     have hsz:¬(vs.length≠params.size):=by simp [hlen]
     have hmap:(vs.map Operand.const).toArray.map ρ=vs.toArray:=by
      simp only[List.map_toArray,List.map_map]
      congr 1
      rw[show ρ ∘ Operand.const=id from funext fun v=>hg.1 v]
      simp
     have hz:(params.zip vs.toArray).foldl (fun tmps (p:Nat × Value)=>tmps.setIfInBounds p.1 p.2) a.tmps=(params.toList.zip vs).foldl (fun tmps p=>tmps.setIfInBounds p.1 p.2) a.tmps:=by
      rw[←Array.foldl_toList];simp
     simp only[execOp,An,resolve,hmap,hg.1,Deferred.ofValue]
     simp [invoke,Instr.yield,DT hh2,hlen,←hz]
    rw[hrun]
    refine⟨fun c cs'=>?_⟩
    let b':Frame:={ (default:Frame) with fn:=b.fn,kind:=.normal,roundOf:=some (w.heap.size+1) }
    let a':Act:={ tmps:=(params.toList.zip vs).foldl (fun tmps p=>tmps.setIfInBounds p.1 p.2) a.tmps,defers:=[] }
    have hfr:Frame.round (w.heap.size+1) b.fn ((params.toList.zip vs).foldl (fun tmps p=>tmps.setIfInBounds p.1 p.2) a.tmps) x y .normal=At b' a' [.code x,.beginRound,.code y]:=by simp [Frame.round,At,b',a']
    rw[hfr]
    have hag0:Aw ((DK,.unk)::e) { tmps:=a.tmps,defers:=[] }:=by
     refine⟨he.1,fun i=>?_⟩
     rw[Env.get_cons]
     split
     ·trivial
     ·rename_i hi
      have hi:i≠DK:=fun e=>hi e.symm
      have:=he.2 i
      rw[Cz _ hi] at this ⊢
      exact this
    have hps:∀p∈params.toList,p<a.tmps.size:=by
     intro p hp
     have:=List.all_eq_true.1 hwp p hp
     rw[hN];simpa [Nat.blt_eq] using this
    have hag:Aw (Ei params.toList 0 vs ((DK,.unk)::e)) a':=ON params.toList 0 vs vs _ { tmps:=a.tmps,defers:=[] } hag0 hps (by simp [hlen]) rfl
    have hsz:a'.tmps.size=N:=by
     show((params.toList.zip vs).foldl (fun tmps p=>tmps.setIfInBounds p.1 p.2) a.tmps).size=N
     rw[QZ,hN]
    obtain⟨ex1,a1,w1,⟨hf1,e1,he1,hq1⟩,hr1⟩:=ihx false (some (w.heap.size+1)) (by simp) _ _ _ a' w2 hwx hsz hag hM b' [.beginRound,.code y] (c::cs') rfl
    cases ex1 with
    | exit id=>exact hq1.elim
    | ret=>exact hq1.elim
    | normal =>
     obtain⟨hb1,hq1⟩:=hq1
     have hgo1:=Steps.trans hr1 (.one (Sq (P:=P) (b:=b') (a:=a1) (k:=[.code y]) (cs:=c::cs') rfl hb1 rfl))
     obtain⟨ex2,a2,w4,⟨hf2,e2,he2,hq2⟩,hr2⟩:=ihy false (some (w.heap.size+1)) (by simp) _ _ e1 a1 _ hwy (FO hsz hf1) he1 hq1 b' [] (c::cs') rfl
     cases ex2 with
     | normal =>
      obtain⟨hb2,hK⟩:=hq2
      exact⟨_,_,hK,(hgo1.trans hr2).trans (.one (ZZ (P:=P) (b:=b') (a:=a2) rfl rfl hb2))⟩
     | ret =>
      obtain⟨hb2,hK⟩:=hq2
      obtain⟨k',hr2⟩:=hr2
      exact⟨_,_,hK,(hgo1.trans hr2).trans (.one (Wb (P:=P) (b:=b') (a:=a2) (L:={ state:=.busy,pending:=none,fn:=b.fn,tmps:=a.tmps,params,assign:=x,body:=y,defers:=w.heap.size }) rfl rfl hb2))⟩
     | exit id =>
      obtain⟨hb2,hK⟩:=hq2
      obtain⟨k',hek,hr2⟩:=hr2
      exact⟨_,_,hK,(hgo1.trans hr2).trans (.one (Sv (P:=P) (b:=b') (a:=a2) (L:={ state:=.busy,pending:=none,fn:=b.fn,tmps:=a.tmps,params,assign:=x,body:=y,defers:=w.heap.size }) rfl rfl hek hb2))⟩
  ·exact h.elim
 | _=>exact fun top ro hro n Q e a w _ _ _ h=>by simp [tr] at h
theorem Uz (vs:List Value) (i j:Nat):Env.get (Er i vs) j=if i≤j then(match vs[j-i]? with|some v=>.val v|none=>.unk) else .unk:=by
 induction vs generalizing i with
 | nil=>simp [Er,Env.get]
 | cons v vs ih =>
  show Env.get ((i,.val v)::Er (i+1) vs) j=_
  rw[Env.get_cons,ih]
  by_cases h:i=j
  ·subst h;simp
  ·by_cases h2:i≤j
   ·obtain⟨d,rfl⟩:∃d,j=i+1+d:=⟨j-(i+1),by omega⟩
    have e1:i+1+d-i=d+1:=by omega
    have e2:i+1+d-(i+1)=d:=by omega
    simp [e1,e2,show ¬i=i+1+d by omega,show i≤i+1+d by omega]
   ·simp [h,h2,show ¬i+1≤j by omega]
theorem Sl (vs:List Value) (n:Nat) (hn:vs.length+n≤DK):Aw (Gj vs) { tmps:=vs.toArray++Array.replicate n undef,defers:=[] }:=by
 refine⟨by simpa using hn,fun j=>?_⟩
 show(Env.get ((DK,.val (.tuple #[]))::Er 0 vs) j).ok _
 rw[Env.get_cons]
 split
 ·rename_i hj
  subst hj
  simp [Ah,Ca,CA,Ent.ok]
 ·rename_i hj
  rw[Cz _ fun e=>hj e.symm,Uz]
  simp only[Nat.zero_le,if_true,Nat.sub_zero]
  cases h:vs[j]? with
  | none=>trivial
  | some v =>
   have hj:j<vs.length:=(List.getElem?_eq_some_iff.1 h).1
   simp only[Ent.ok,Array.getD_eq_getD_getElem?]
   rw[Array.getElem?_append_left (by simpa using hj)]
   simp [h]
def EV (tmps:Array Value) (r:ResultVar):Sem Value :=
 match r with
 | .tmp t=>pure (tmps.getD t undef)
 | .cell x t=>do loadVar t (←asAddr (tmps.getD x undef))
theorem Pb {rs:List ResultVar} {K:Value→World→Prop} {e:Env} {a:Act} {w:World} (he:Aw e a):∀(acc:List Value),Dp P rs acc K e w →
  ∃vs:List Value,(rs.mapM (EV a.tmps)).run P w=Result.ok vs w∧K (Hi (acc.reverse++vs)) w:=by
 induction rs with
 | nil=>exact fun acc h=>⟨[],rfl,by simpa [Dp] using h⟩
 | cons r rs ih =>
  intro acc h
  cases r with
  | tmp t =>
   have h':=LM he h
   obtain⟨vs,hr,hk⟩:=ih _ h'
   refine⟨a.tmps.getD t undef::vs,?_,by simpa using hk⟩
   rw[List.mapM_cons]
   simp only[EV,Sem.run_bind,pure_bind]
   rw[hr];rfl
  | cell x t =>
   have h':=LM he h
   obtain⟨ad,v,hv,hl,hk'⟩:=h'
   obtain⟨vs,hr,hk⟩:=ih _ hk'
   refine⟨v::vs,?_,by simpa using hk⟩
   rw[List.mapM_cons]
   simp only[EV,hv,Sem.run_bind,asAddr,pure_bind,hl,Result.andThen_ok]
   rw[hr];rfl
theorem RN {fn:Func} {tmps:Array Value} {w:World} {vs:List Value} (h:(fn.results.toList.mapM (EV tmps)).run P w=Result.ok vs w) :
  (results fn tmps).run P w=.ok (Hi vs) w:=by
 have e:results fn tmps=(do let vs ←fn.results.mapM (EV tmps);pure (if h:vs.size=1 then vs[0] else .tuple vs)):=rfl
 rw[e,Array.mapM_eq_mapM_toList]
 simp only[Sem.run_bind,map_eq_pure_bind,bind_assoc,pure_bind,h]
 match vs with
 | []=>rfl
 | [v]=>rfl
 | u::v::l=>rfl
theorem Jp {M:World→Prop} {cs:List Frame}:∀(ds:List Deferred) (fr:Frame) (w:World),fr.defers=ds→fr.mode=.returning→BN (Ca ds) M w →
  ∃w2,M w2∧Steps P (lone fr cs w) (lone { fr with defers:=[] } cs w2)
 | [],fr,w,hd,hm,h=>by
  refine⟨w,by simpa [BN,Ca,CA,DO] using h,?_⟩
  have:{ fr with defers:=[] }=fr:=by rw[←hd]
  rw[this]
  exact .refl _ _
 | d::ds,fr,w,hd,hm,h=>by
  cases hr:Gh d with
  | none=>simp [BN,Ca,CA,hr] at h
  | some r =>
   have ht:d.target=.collected r:=by
    unfold Gh at hr
    split at hr
    ·rename_i r' h';cases hr;exact h'
    ·cases hr
   cases hrs:CA ds with
   | none=>simp [BN,Ca,CA,hr,hrs] at h
   | some rs =>
    simp only[BN,Ca,CA,hr,hrs,List.map_cons,DO,Int.toNat_natCast] at h
    obtain⟨h1,h2⟩:=h
    obtain⟨w2,h3,h4⟩:=Jp ds { fr with defers:=ds } (Ab w r (.deferred none)) rfl hm (by simpa [BN,Ca,hrs] using h2)
    exact⟨w2,h3,.head (SZ ht hd hm h1) h4⟩
theorem TQ (hm:P.follows .mixedOrders=true) {f:FuncId} {fn:Func} {c:Code} {args:List Value} {w:World} {K:Value→World→Prop} {hs:Et} (hf:P.funcs[f]?=some fn) (hb:fn.body=some c)
  (hN:wfc fn.ntmps c=true) (hD:fn.ntmps≤DK) (ha:args.length≤fn.ntmps) (h:tr P true hs c 0 (Ht P fn.results.toList K) (Gj args) w):Calls P f args.toArray w (Ac K):=by
 intro cs
 let b:Frame:={ (default:Frame) with fn:=f,kind:=.normal,roundOf:=none }
 have henter:Frame.enter P f args.toArray .normal=At b { tmps:=args.toArray++Array.replicate (fn.ntmps-args.length) undef,defers:=[] } [.code c]:=by
  simp [Frame.enter,At,hf,hb,b]
 obtain⟨e,a',w',⟨hfz,e',he',hq⟩,hr⟩:=Pd hm c true none (fun _=>rfl) 0 _ _ { tmps:=args.toArray++Array.replicate (fn.ntmps-args.length) undef,defers:=[] } w hN (by simp;omega) (Sl _ _ (by omega)) h b [] cs rfl
 rw[←henter] at hr
 have fin:∀(fr:Frame),fr.defers=a'.defers→fr.mode=.returning→(Ae e' DK fun v=>BN v (fun w=>Dp P fn.results.toList [] K e' w) w')→∃v w2,K v w2∧(results fn a'.tmps).run P w2=.ok v w2∧Steps P (lone fr cs w') (lone { fr with defers:=[] } cs w2):=by
  intro fr hd hmd ht
  have ht:=Af he' ht
  have hsl:Ah a' DK=Ca a'.defers:=by simp [Ah]
  rw[hsl] at ht
  obtain⟨w2,ht2,hs2⟩:=Jp (P:=P) (cs:=cs) a'.defers fr w' hd hmd ht
  obtain⟨vs,hm,hk⟩:=Pb he' [] ht2
  exact⟨_,w2,hk,RN hm,hs2⟩
 cases e with
 | normal =>
  obtain⟨v,w2,hk,hres,hs2⟩:=fin { At b a' [] with mode:=.returning } rfl rfl hq
  refine⟨.returned v,w2,_,hk,(Steps.trans hr (.one ?_)).trans hs2,rfl,rfl,rfl,rfl,fn,hf,hres⟩
  exact step_lone_go (by simp [stepG,stepG.exec,At,b])
 | ret =>
  obtain⟨k',hr⟩:=hr
  obtain⟨v,w2,hk,hres,hs2⟩:=fin { At b a' (.code .ret::k') with mode:=.returning } rfl rfl hq
  refine⟨.returned v,w2,_,hk,(Steps.trans hr (.one ?_)).trans hs2,rfl,rfl,rfl,rfl,fn,hf,hres⟩
  exact step_lone_go (by simp [stepG,stepG.exec,At,b])
 | exit id=>exact hq.elim
end
def Av (x:Option Obj) (o:Nat):Option Value:=match x with|some (.cells c _ _)=>c[o]?|_=>none
def AU (x:Option Obj) (o n:Nat):Option (Array Value):=match x with|some (.cells c _ _)=>if o+n≤c.size then some (c.extract o (o+n)) else none|_=>none
def spl (c:Array Value) (o:Nat) (vs:List Value):Array Value:=(c.toList.take o++vs++c.toList.drop (o+vs.length)).toArray
def Az (x:Option Obj) (o:Nat) (vs:List Value):Option Obj :=
 match x with
 | some (.cells c e (0,0))=>if o+vs.length≤c.size then some (.cells (spl c o vs) e) else none
 | _=>none
@[go_sem] theorem CD (c:Array Value) (e:TypeId) (fr:Nat × Nat) (o:Nat):Av (some (.cells c e fr)) o=c[o]?:=rfl
@[go_sem] theorem Gm (c:Array Value) (e:TypeId) (fr:Nat × Nat) (o n:Nat):AU (some (.cells c e fr)) o n=if o+n≤c.size then some (c.extract o (o+n)) else none:=rfl
@[go_sem] theorem CW (c:Array Value) (e:TypeId) (o:Nat) (vs:List Value):Az (some (.cells c e (0,0))) o vs=if o+vs.length≤c.size then some (.cells (spl c o vs) e) else none:=rfl
@[go_sem] theorem E3 (l:List Value) (o:Nat) (vs:List Value):spl l.toArray o vs=(l.take o++vs++l.drop (o+vs.length)).toArray:=rfl
@[go_sem] theorem heap_alloc_new (w:World) (o:Obj) (b:Nat) (h:b=w.heap.size):(w.alloc o).heap[b]?=some o:=by subst h;unfold World.alloc;simp
@[go_sem] theorem Wg (w:World) (o:Obj) (b:Nat) (h:b<w.heap.size):(w.alloc o).heap[b]?=w.heap[b]?:=by
 simp only[World.alloc,Array.getElem?_push];rw[if_neg (by omega)]
attribute [go_sem] World.size_alloc World.size_drew
@[go_sem] theorem Gx (w:World) (b:Nat):w.drew.heap[b]?=w.heap[b]?:=rfl
@[go_sem] theorem Au (w:World) (b:Nat) (o:Obj) (c:Nat) (h:c=b) (hb:b<w.heap.size):(Ab w b o).heap[c]?=some o:=by subst h;simp [Ab,hb]
@[go_sem] theorem AZ (w:World) (b:Nat) (o:Obj) (c:Nat) (h:c≠b):(Ab w b o).heap[c]?=w.heap[c]?:=by
 simp only[Ab];rw[Array.getElem?_setIfInBounds_ne (Ne.symm h)]
@[go_sem] theorem Dv (w:World) (b:Nat) (o:Obj):(Ab w b o).heap.size=w.heap.size:=by simp [Ab]
@[go_sem] theorem dA (w:World) (b:Nat) (o:Obj):Ab w.drew b o=(Ab w b o).drew:=rfl
@[go_sem] theorem W9 (w:World) (b:Nat) (o o':Obj):Ab (Ab w b o) b o'=Ab w b o':=by simp [Ab]
@[go_sem] theorem HK (w:World) (o o':Obj) (b:Nat) (h:b=w.heap.size):Ab (w.alloc o) b o'=w.alloc o':=by
 subst h;simp only[Ab,World.alloc]
 congr 1
 apply Array.ext_getElem?
 intro i
 simp only[Array.getElem?_setIfInBounds,Array.getElem?_push,Array.size_push]
 by_cases hi:w.heap.size=i
 ·subst hi;simp
 ·have:¬i=w.heap.size:=fun e=>hi e.symm
  simp [hi,this]
@[go_sem] theorem cK (w:World) (o o':Obj) (b:Nat) (h:b<w.heap.size):Ab (w.alloc o) b o'=(Ab w b o').alloc o:=by
 simp only[Ab,World.alloc]
 congr 1
 apply Array.ext_getElem?
 intro i
 simp only[Array.getElem?_setIfInBounds,Array.getElem?_push,Array.size_push,Array.size_setIfInBounds]
 by_cases hi:b=i
 ·subst hi;simp [h,Nat.ne_of_lt h,Nat.lt_succ_of_lt h]
 ·simp [hi]
theorem Aa {w:World} {b:Nat} {o:Obj} (h:w.heap[b]?=some o):b<w.heap.size:=(Array.getElem?_eq_some_iff.1 h).1
@[go_sem] theorem cell?_at (w:World) (b o:Nat):w.cell? ⟨b,o,none⟩=Av w.heap[b]? o:=by
 unfold World.cell? Av
 cases w.heap[b]? with
 | none=>rfl
 | some x=>cases x<;>rfl
def Ak (P:Program) (t:TypeId):Option Nat:=(P.info? t).map (·.size)
def Ao (P:Program) (t:TypeId):Option Nat:=(P.info? t).map (·.bytes)
def AB (P:Program) (t:TypeId):Option Value:=(P.info? t).bind (·.zero)
def Al (P:Program) (t:TypeId):Option Bool:=(P.underlying t).map fun|.struct _=>true|.array _ _=>true|_=>false
def Ag (P:Program) (t:TypeId):Option Nat:=(P.underlying t).map fun|.slice _=>1|.array _ _=>2|.string=>3|.pointer _=>4|.map _ _=>5|.chan _ _=>6|.struct _=>7|.int _=>8|.bool=>9|.interface _=>10|.func _ _ _=>11|_=>0
def AA (P:Program) (t:TypeId):Option Nat:=(P.underlying t).bind fun|.slice e=>some e|.array _ e=>some e|.pointer e=>some e|.chan _ e=>some e|.map _ e=>some e|_=>none
def B9 (P:Program) (t:TypeId):Option Nat:=(P.underlying t).bind fun|.array n _=>some n|_=>none
def Cq (P:Program) (t:TypeId):Option IntKind:=(P.underlying t).bind fun|.int k=>some k|_=>none
def Ai (P:Program) (t:TypeId) (i:Nat):Option (Nat × Nat):=(P.underlying t).bind fun|.struct fs=>(fs[i]?).bind fun f=>(P.info? f.type).map fun j=>(f.offset,j.size)|_=>none
def AM (P:Program) (t:TypeId):Option (List (Nat × Nat)):=(P.underlying t).bind fun|.struct fs=>fs.toList.mapM fun f=>(P.info? f.type).map fun j=>(f.offset,j.size)|_=>none
def UA (P:Program) (t:TypeId) (i:Nat):Option TypeId:=(P.underlying t).bind fun|.struct fs=>(fs[i]?).map (·.type)|_=>none
def tfo (P:Program) (t:TypeId) (i:Nat):Option Nat:=(Ai P t i).bind fun p=>if p.2=0 then none else some p.1
def AI (P:Program) (t:TypeId):Option Nat:=(P.underlying t).bind fun|.slice e=>Ak P e|_=>none
def A8 (P:Program) (t:TypeId):Option (Nat × Nat):=(P.underlying t).bind fun|.array n e=>(Ak P e).map fun m=>(n,m)|_=>none
def AD (P:Program) (t:TypeId):Option Nat:=(Al P t).bind fun b=>bif b then Ak P t else none
def eO (P:Program) (t:TypeId):Option Unit:=(P.underlying t).bind fun|.chan _ e=>(Ao P e).bind fun n=>if n≤1000000 then some () else none|_=>none
def H6 (P:Program) (s t:TypeId):Option IntKind:=(Ag P s).bind fun _=>Cq P t
def OrK {α:Type} (x:Option α) (f:α→Prop) (d:Prop) (_:UK2 f d):Prop:=match x with|some a=>f a|none=>d
@[go_sem] theorem Da {α:Type} (a:α) (f:α→Prop) (d:Prop):OrK (some a) f d ()=f a:=rfl
theorem AF {α:Type} {x:Option α} {f:α→Prop} {d:Prop} {X:Prop} (h:∀a,x=some a→X=f a) (hd:d=X):X=OrK x f d ():=by
 cases x with
 | none=>exact hd.symm
 | some a=>exact h a rfl
section
variable {P:Program}
theorem FV {t:TypeId} {b:Bool} (h:Al P t=some b) (w:World):(isAgg t).run P w=.ok b w:=by
 unfold Al at h
 cases hu:P.underlying t with
 | none=>rw[hu] at h;simp at h
 | some d =>
  rw[hu] at h
  simp only[Option.map_some,Option.some.injEq] at h
  unfold isAgg
  simp only[Sem.run_bind,run_underlying hu,Result.andThen_ok]
  cases d<;>simp at h ⊢<;>exact h
theorem Bh {t:TypeId} {n:Nat} (h:Ak P t=some n) (w:World):(Go.sizeOf t).run P w=.ok n w:=by
 unfold Ak at h
 cases hi:P.info? t with
 | none=>rw[hi] at h;simp at h
 | some i=>rw[hi] at h;simp at h;rw[run_sizeOf w hi];simp [Program.cellsOf,hi,h]
theorem Ds {t:TypeId} {z:Value} (h:AB P t=some z) (w:World):(zeroValue t).run P w=.ok z w:=by
 unfold AB at h
 cases hi:P.info? t with
 | none=>rw[hi] at h;simp at h
 | some i =>
  rw[hi] at h;simp at h
  unfold zeroValue
  simp only[Sem.run_bind,run_typeInfo w hi,Result.andThen_ok,h]
  rfl
theorem AW {op:Op} {ty:TypeId} {K:Value→World→Prop} {w w':World} {v:Value} (h:∀ρ,BB ρ→(execOp ρ (An op ty)).run P w=.ok (.value v) w'):OpX P op ty K w=K v w':=by
 apply propext
 constructor
 ·rintro⟨hx⟩
  have:=hx (fun|.const v=>v|.global g=>.pointer (some ⟨g,0,none⟩)|.func f=>.func (.func f) #[] #[]|.tmp _=>undef) ⟨fun _=>rfl,fun _=>rfl,fun _=>rfl⟩
  rw[h _ ⟨fun _=>rfl,fun _=>rfl,fun _=>rfl⟩] at this
  exact this
 ·exact fun hk=>⟨fun ρ hg=>by rw[h ρ hg];exact hk⟩
theorem Lv {op:Op} {ty:TypeId} {K:Value→World→Prop} {w w':World} (h:∀ρ,BB ρ→(execOp ρ (An op ty)).run P w=.ok .skip w'):OpX P op ty K w=K undef w':=by
 apply propext
 constructor
 ·rintro⟨hx⟩
  have:=hx (fun|.const v=>v|.global g=>.pointer (some ⟨g,0,none⟩)|.func f=>.func (.func f) #[] #[]|.tmp _=>undef) ⟨fun _=>rfl,fun _=>rfl,fun _=>rfl⟩
  rw[h _ ⟨fun _=>rfl,fun _=>rfl,fun _=>rfl⟩] at this
  exact this
 ·exact fun hk=>⟨fun ρ hg=>by rw[h ρ hg];exact hk⟩
theorem VV {op:Op} {ty:TypeId} {K:Value→Prop} {v:Value} (h:∀ρ,BB ρ→∀w,(execOp ρ (An op ty)).run P w=.ok (.value v) w):PurX P op ty K ()=K v:=by
 apply propext
 constructor
 ·rintro⟨u,hu,hk⟩
  have hg:BB (fun|.const v=>v|.global g=>.pointer (some ⟨g,0,none⟩)|.func f=>.func (.func f) #[] #[]|.tmp _=>undef):=⟨fun _=>rfl,fun _=>rfl,fun _=>rfl⟩
  have:=hu _ hg default
  rw[h _ hg] at this
  cases this
  exact hk
 ·exact fun hk=>⟨v,h,hk⟩
theorem Ia {op:Op} {ty:TypeId} {u v:Value} {w:World} (h:∀ρ,BB ρ→(execOp ρ (An op ty)).run P w=.ok (.value v) w):Yld P op ty u w=(u=v):=by
 apply propext
 constructor
 ·rintro⟨hu⟩
  have hg:BB (fun|.const v=>v|.global g=>.pointer (some ⟨g,0,none⟩)|.func f=>.func (.func f) #[] #[]|.tmp _=>undef):=⟨fun _=>rfl,fun _=>rfl,fun _=>rfl⟩
  have:=hu _ hg
  rw[h _ hg] at this
  cases this;rfl
 ·rintro rfl;exact⟨h⟩
theorem Fq {op:Op} {ty:TypeId} {K:Value→Prop} {v:Value} {w:World} (h:∀ρ,BB ρ→(execOp ρ (An op ty)).run P w=.ok (.value v) w):RdX P op ty K w=K v:=by
 apply propext
 constructor
 ·rintro⟨u,hu,hk⟩
  rw[Ia h] at hu;subst hu;exact hk
 ·exact fun hk=>⟨v,⟨h⟩,hk⟩
theorem KN {op:BinOp} {t:TypeId} {a b v:Value} {K:Value→World→Prop} {w w':World} (h:∀x y,(A7 op t a b x y).run P w=.ok (.value v) w'):BinX P op t a b K w=K v w':=by
 apply propext
 constructor
 ·rintro⟨hx⟩
  have:=hx (.const undef) (.const undef)
  have e:=h (.const undef) (.const undef)
  unfold A7 at e
  rw[e] at this
  exact this
 ·exact fun hk=>⟨fun x y=>by have e:=h x y;unfold A7 at e;rw[e];exact hk⟩
theorem XG {op:BinOp} {t:TypeId} {a b v:Value} {K:Value→Prop} (h:∀x y w,(A7 op t a b x y).run P w=.ok (.value v) w):PurB P op t a b K ()=K v:=by
 apply propext
 constructor
 ·rintro⟨u,hu,hk⟩
  have:=hu (.const undef) (.const undef) default
  rw[h] at this
  cases this
  exact hk
 ·exact fun hk=>⟨v,h,hk⟩
theorem X6 {op:BinOp} {t:TypeId} {a b u v:Value} {w:World} (h:∀x y,(A7 op t a b x y).run P w=.ok (.value v) w):YldB P op t a b u w=(u=v):=by
 apply propext
 constructor
 ·rintro⟨hu⟩
  have:=hu (.const undef) (.const undef)
  rw[h] at this
  cases this;rfl
 ·rintro rfl;exact⟨h⟩
theorem Rx {op:BinOp} {t:TypeId} {a b v:Value} {K:Value→Prop} {w:World} (h:∀x y,(A7 op t a b x y).run P w=.ok (.value v) w):RdB P op t a b K w=K v:=by
 apply propext
 constructor
 ·rintro⟨u,hu,hk⟩
  rw[X6 h] at hu;subst hu;exact hk
 ·exact fun hk=>⟨v,⟨h⟩,hk⟩
@[go_sem] theorem dN (A B:Prop):BrW (.bool true) A B ()=A:=propext ⟨fun⟨_,hv,ht,_⟩=>by cases hv;exact ht rfl,fun h=>⟨true,rfl,fun _=>h,(fun h=>by cases h)⟩⟩
@[go_sem] theorem bG (A B:Prop):BrW (.bool false) A B ()=B:=propext ⟨fun⟨_,hv,_,hf⟩=>by cases hv;exact hf rfl,fun h=>⟨false,rfl,(fun h=>by cases h),fun _=>h⟩⟩
theorem BrW.by {b:Bool} {A B:Prop} (ht:b=true→A) (hf:b=false→B):BrW (.bool b) A B ():=⟨b,rfl,ht,hf⟩
theorem BrW.dec {p:Prop} [Decidable p] {A B:Prop} (ht:p→A) (hf:¬p→B):BrW (.bool (decide p)) A B ():=⟨decide p,rfl,fun h=>ht (of_decide_eq_true h),fun h=>hf (of_decide_eq_false h)⟩
theorem Join0.inl {M:(World→Prop)→World→Prop} {K:World→Prop} {w:World} (h:M K w):Join0 M K w:=⟨K,h,fun _ h=>h⟩
theorem Join0.cut {M:(World→Prop)→World→Prop} {K:World→Prop} {w:World} (R:World→Prop) (h:M R w) (hk:∀w',R w'→K w'):Join0 M K w:=⟨R,h,hk⟩
theorem Join1.inl {M:(Value→World→Prop)→World→Prop} {K:Value→World→Prop} {w:World} (h:M K w):Join1 M K w:=⟨K,h,fun _ _ h=>h⟩
theorem Join1.cut {M:(Value→World→Prop)→World→Prop} {K:Value→World→Prop} {w:World} (R:Value→World→Prop) (h:M R w) (hk:∀u0 w',R u0 w'→K u0 w'):Join1 M K w:=⟨R,h,hk⟩
theorem Join2.cut {M:(Value→Value→World→Prop)→World→Prop} {K:Value→Value→World→Prop} {w:World} (R:Value→Value→World→Prop) (h:M R w) (hk:∀u0 u1 w',R u0 u1 w'→K u0 u1 w'):Join2 M K w:=⟨R,h,hk⟩
end
section
variable {P:Program}
structure PureRun (P:Program) (op:Op) (ty:TypeId) (v:Value):Prop where
 run:∀ρ,BB ρ→∀w,(execOp ρ (An op ty)).run P w=.ok (.value v) w
theorem PureRun.op {op:Op} {ty:TypeId} {v:Value} (h:PureRun P op ty v) (K:Value→World→Prop) (w:World):OpX P op ty K w=K v w:=AW fun ρ hg=>h.run ρ hg w
theorem PureRun.pur {op:Op} {ty:TypeId} {v:Value} (h:PureRun P op ty v) (K:Value→Prop):PurX P op ty K ()=K v:=VV h.run
theorem PureRun.rd {op:Op} {ty:TypeId} {v:Value} (h:PureRun P op ty v) (K:Value→Prop) (w:World):RdX P op ty K w=K v:=Fq fun ρ hg=>h.run ρ hg w
structure PureBin (P:Program) (op:BinOp) (t:TypeId) (a b v:Value):Prop where
 run:∀x y w,(A7 op t a b x y).run P w=.ok (.value v) w
theorem PureBin.op {op:BinOp} {t:TypeId} {a b v:Value} (h:PureBin P op t a b v) (K:Value→World→Prop) (w:World):BinX P op t a b K w=K v w:=KN fun x y=>h.run x y w
theorem PureBin.pur {op:BinOp} {t:TypeId} {a b v:Value} (h:PureBin P op t a b v) (K:Value→Prop):PurB P op t a b K ()=K v:=XG h.run
theorem PureBin.rd {op:BinOp} {t:TypeId} {a b v:Value} (h:PureBin P op t a b v) (K:Value→Prop) (w:World):RdB P op t a b K w=K v:=Rx fun x y=>h.run x y w
theorem FT (op:BinOp) (t:TypeId) (k k':IntKind) (a b:Int) (x y:Operand):A7 op t (.int k a) (.int k' b) x y=(do return Next.value (←binOp op t (.int k a) (.int k' b))):=by
 cases op<;>rfl
theorem BK (op:BinOp) (t:TypeId) (k:IntKind) (a b n:Int) (h:binOp op t (.int k a) (.int k b)=pure (.int k n)):PureBin P op t (.int k a) (.int k b) (.int k n) :=
 ⟨fun x y w=>by rw[FT,h];rfl⟩
theorem Cj (op:BinOp) (t:TypeId) (k:IntKind) (a b:Int) (c:Bool) (h:binOp op t (.int k a) (.int k b)=pure (.bool c)):PureBin P op t (.int k a) (.int k b) (.bool c) :=
 ⟨fun x y w=>by rw[FT,h];rfl⟩
theorem KE (t:TypeId) (k:IntKind) (a b:Int):binOp .add t (.int k a) (.int k b)=pure (.int k (k.wrap (a+b))):=by simp [binOp,Op.intArith]
theorem MZ (t:TypeId) (k:IntKind) (a b:Int):binOp .sub t (.int k a) (.int k b)=pure (.int k (k.wrap (a-b))):=by simp [binOp,Op.intArith]
theorem KX (t:TypeId) (k:IntKind) (a b:Int):binOp .mul t (.int k a) (.int k b)=pure (.int k (k.wrap (a*b))):=by simp [binOp,Op.intArith]
theorem Lx (t:TypeId) (k:IntKind) (a b:Int) (h:b≠0):binOp .quo t (.int k a) (.int k b)=pure (.int k (k.wrap (a.tdiv b))):=by simp [binOp,Op.intDiv,h]
theorem Oa (t:TypeId) (k:IntKind) (a b:Int) (h:b≠0):binOp .rem t (.int k a) (.int k b)=pure (.int k (a.tmod b)):=by simp [binOp,Op.intDiv,h]
def AR (op:BinOp) (k:IntKind) (a b:Int):Int :=
 k.wrap (match op with|.and=>(BitVec.ofInt k.bits a &&& BitVec.ofInt k.bits b).toNat|.or=>(BitVec.ofInt k.bits a ||| BitVec.ofInt k.bits b).toNat|.xor=>(BitVec.ofInt k.bits a ^^^ BitVec.ofInt k.bits b).toNat|_=>(BitVec.ofInt k.bits a &&& ~~~BitVec.ofInt k.bits b).toNat)
theorem L4 (t:TypeId) (k:IntKind) (a b:Int):binOp .and t (.int k a) (.int k b)=pure (.int k (AR .and k a b)):=by simp [binOp,Op.intBits,AR]
theorem O6 (t:TypeId) (k:IntKind) (a b:Int):binOp .or t (.int k a) (.int k b)=pure (.int k (AR .or k a b)):=by simp [binOp,Op.intBits,AR]
theorem Md (t:TypeId) (k:IntKind) (a b:Int):binOp .andNot t (.int k a) (.int k b)=pure (.int k (AR .andNot k a b)):=by simp [binOp,Op.intBits,AR]
theorem PF (t:TypeId) (k k':IntKind) (a b:Int) (h:0≤b):binOp .shl t (.int k a) (.int k' b)=pure (.int k (k.wrap (a*2 ^ (min b.toNat k.bits)))):=by
 have:¬b<0:=by omega
 simp [binOp,Op.shift,this]
theorem Yj (t:TypeId) (k k':IntKind) (a b:Int) (h:0≤b):binOp .shr t (.int k a) (.int k' b)=pure (.int k (a.fdiv (2 ^ (min b.toNat k.bits)))):=by
 have:¬b<0:=by omega
 simp [binOp,Op.shift,this]
theorem Oc (t:TypeId) (k:IntKind) (a b:Int):binOp .lss t (.int k a) (.int k b)=pure (.bool (decide (a<b))):=by simp [binOp,Op.intCmp]
theorem Mx (t:TypeId) (k:IntKind) (a b:Int):binOp .leq t (.int k a) (.int k b)=pure (.bool (decide (a≤b))):=by simp [binOp,Op.intCmp]
theorem KS (t:TypeId) (k:IntKind) (a b:Int):binOp .gtr t (.int k a) (.int k b)=pure (.bool (decide (b<a))):=by simp [binOp,Op.intCmp]
theorem La (t:TypeId) (k:IntKind) (a b:Int):binOp .geq t (.int k a) (.int k b)=pure (.bool (decide (b≤a))):=by simp [binOp,Op.intCmp]
theorem J8 (t:TypeId) (k:IntKind) (a b:Int):binOp .eql t (.int k a) (.int k b)=pure (.bool (decide (a=b))):=by simp [binOp,Op.intCmp];rfl
theorem MA (t:TypeId) (k:IntKind) (a b:Int):binOp .neq t (.int k a) (.int k b)=pure (.bool (decide (a≠b))):=by simp [binOp,Op.intCmp];rfl
@[go_sem] theorem fk (t:TypeId) (k:IntKind) (a b:Int) (K:Value→World→Prop) (w:World):BinX P .add t (.int k a) (.int k b) K w=K (.int k (k.wrap (a+b))) w:=(BK _ t k a b _ (KE t k a b)).op K w
@[go_sem] theorem cI (t:TypeId) (k:IntKind) (a b:Int) (K:Value→Prop):PurB P .add t (.int k a) (.int k b) K ()=K (.int k (k.wrap (a+b))):=(BK _ t k a b _ (KE t k a b)).pur K
@[go_sem] theorem cA (t:TypeId) (k:IntKind) (a b:Int) (K:Value→World→Prop) (w:World):BinX P .sub t (.int k a) (.int k b) K w=K (.int k (k.wrap (a-b))) w:=(BK _ t k a b _ (MZ t k a b)).op K w
@[go_sem] theorem fi (t:TypeId) (k:IntKind) (a b:Int) (K:Value→Prop):PurB P .sub t (.int k a) (.int k b) K ()=K (.int k (k.wrap (a-b))):=(BK _ t k a b _ (MZ t k a b)).pur K
@[go_sem] theorem ba (t:TypeId) (k:IntKind) (a b:Int) (K:Value→World→Prop) (w:World):BinX P .mul t (.int k a) (.int k b) K w=K (.int k (k.wrap (a*b))) w:=(BK _ t k a b _ (KX t k a b)).op K w
@[go_sem] theorem fo (t:TypeId) (k:IntKind) (a b:Int) (K:Value→Prop):PurB P .mul t (.int k a) (.int k b) K ()=K (.int k (k.wrap (a*b))):=(BK _ t k a b _ (KX t k a b)).pur K
@[go_sem] theorem dB (t:TypeId) (k:IntKind) (a b:Int) (K:Value→World→Prop) (w:World):BinX P .and t (.int k a) (.int k b) K w=K (.int k (AR .and k a b)) w:=(BK _ t k a b _ (L4 t k a b)).op K w
@[go_sem] theorem fm (t:TypeId) (k:IntKind) (a b:Int) (K:Value→Prop):PurB P .and t (.int k a) (.int k b) K ()=K (.int k (AR .and k a b)):=(BK _ t k a b _ (L4 t k a b)).pur K
@[go_sem] theorem eU (t:TypeId) (k:IntKind) (a b:Int) (K:Value→World→Prop) (w:World):BinX P .or t (.int k a) (.int k b) K w=K (.int k (AR .or k a b)) w:=(BK _ t k a b _ (O6 t k a b)).op K w
@[go_sem] theorem eQ (t:TypeId) (k:IntKind) (a b:Int) (K:Value→Prop):PurB P .or t (.int k a) (.int k b) K ()=K (.int k (AR .or k a b)):=(BK _ t k a b _ (O6 t k a b)).pur K
@[go_sem] theorem da (t:TypeId) (k:IntKind) (a b:Int) (K:Value→World→Prop) (w:World):BinX P .andNot t (.int k a) (.int k b) K w=K (.int k (AR .andNot k a b)) w:=(BK _ t k a b _ (Md t k a b)).op K w
@[go_sem] theorem fb (t:TypeId) (k:IntKind) (a b:Int) (K:Value→Prop):PurB P .andNot t (.int k a) (.int k b) K ()=K (.int k (AR .andNot k a b)):=(BK _ t k a b _ (Md t k a b)).pur K
@[go_sem] theorem fU (t:TypeId) (k:IntKind) (a b:Int) (K:Value→World→Prop) (w:World) (h:b≠0):BinX P .quo t (.int k a) (.int k b) K w=K (.int k (k.wrap (a.tdiv b))) w:=(BK _ t k a b _ (Lx t k a b h)).op K w
@[go_sem] theorem dr (t:TypeId) (k:IntKind) (a b:Int) (K:Value→Prop) (h:b≠0):PurB P .quo t (.int k a) (.int k b) K ()=K (.int k (k.wrap (a.tdiv b))):=(BK _ t k a b _ (Lx t k a b h)).pur K
@[go_sem] theorem bC (t:TypeId) (k:IntKind) (a b:Int) (K:Value→World→Prop) (w:World) (h:b≠0):BinX P .rem t (.int k a) (.int k b) K w=K (.int k (a.tmod b)) w:=(BK _ t k a b _ (Oa t k a b h)).op K w
@[go_sem] theorem aW (t:TypeId) (k:IntKind) (a b:Int) (K:Value→Prop) (h:b≠0):PurB P .rem t (.int k a) (.int k b) K ()=K (.int k (a.tmod b)):=(BK _ t k a b _ (Oa t k a b h)).pur K
theorem Ue (t:TypeId) (k k':IntKind) (a b:Int) (h:0≤b):PureBin P .shl t (.int k a) (.int k' b) (.int k (k.wrap (a*2 ^ (min b.toNat k.bits)))):=⟨fun x y w=>by rw[FT,PF t k k' a b h];rfl⟩
@[go_sem] theorem cu (t:TypeId) (k k':IntKind) (a b:Int) (K:Value→World→Prop) (w:World) (h:0≤b):BinX P .shl t (.int k a) (.int k' b) K w=K (.int k (k.wrap (a*2 ^ (min b.toNat k.bits)))) w:=(Ue t k k' a b h).op K w
theorem Si (t:TypeId) (k k':IntKind) (a b:Int) (h:0≤b):PureBin P .shr t (.int k a) (.int k' b) (.int k (a.fdiv (2 ^ (min b.toNat k.bits)))):=⟨fun x y w=>by rw[FT,Yj t k k' a b h];rfl⟩
@[go_sem] theorem au (t:TypeId) (k k':IntKind) (a b:Int) (K:Value→World→Prop) (w:World) (h:0≤b):BinX P .shr t (.int k a) (.int k' b) K w=K (.int k (a.fdiv (2 ^ (min b.toNat k.bits)))) w:=(Si t k k' a b h).op K w
@[go_sem] theorem cE (t:TypeId) (k:IntKind) (a b:Int) (K:Value→World→Prop) (w:World):BinX P .lss t (.int k a) (.int k b) K w=K (.bool (decide (a<b))) w:=(Cj _ t k a b _ (Oc t k a b)).op K w
@[go_sem] theorem aU (t:TypeId) (k:IntKind) (a b:Int) (K:Value→Prop):PurB P .lss t (.int k a) (.int k b) K ()=K (.bool (decide (a<b))):=(Cj _ t k a b _ (Oc t k a b)).pur K
@[go_sem] theorem dM (t:TypeId) (k:IntKind) (a b:Int) (K:Value→World→Prop) (w:World):BinX P .leq t (.int k a) (.int k b) K w=K (.bool (decide (a≤b))) w:=(Cj _ t k a b _ (Mx t k a b)).op K w
@[go_sem] theorem bD (t:TypeId) (k:IntKind) (a b:Int) (K:Value→Prop):PurB P .leq t (.int k a) (.int k b) K ()=K (.bool (decide (a≤b))):=(Cj _ t k a b _ (Mx t k a b)).pur K
@[go_sem] theorem cU (t:TypeId) (k:IntKind) (a b:Int) (K:Value→World→Prop) (w:World):BinX P .gtr t (.int k a) (.int k b) K w=K (.bool (decide (b<a))) w:=(Cj _ t k a b _ (KS t k a b)).op K w
@[go_sem] theorem eP (t:TypeId) (k:IntKind) (a b:Int) (K:Value→Prop):PurB P .gtr t (.int k a) (.int k b) K ()=K (.bool (decide (b<a))):=(Cj _ t k a b _ (KS t k a b)).pur K
@[go_sem] theorem eJ (t:TypeId) (k:IntKind) (a b:Int) (K:Value→World→Prop) (w:World):BinX P .geq t (.int k a) (.int k b) K w=K (.bool (decide (b≤a))) w:=(Cj _ t k a b _ (La t k a b)).op K w
@[go_sem] theorem eT (t:TypeId) (k:IntKind) (a b:Int) (K:Value→Prop):PurB P .geq t (.int k a) (.int k b) K ()=K (.bool (decide (b≤a))):=(Cj _ t k a b _ (La t k a b)).pur K
@[go_sem] theorem ei (t:TypeId) (k:IntKind) (a b:Int) (K:Value→World→Prop) (w:World):BinX P .eql t (.int k a) (.int k b) K w=K (.bool (decide (a=b))) w:=(Cj _ t k a b _ (J8 t k a b)).op K w
@[go_sem] theorem eE (t:TypeId) (k:IntKind) (a b:Int) (K:Value→Prop) (w:World):RdB P .eql t (.int k a) (.int k b) K w=K (.bool (decide (a=b))):=(Cj _ t k a b _ (J8 t k a b)).rd K w
@[go_sem] theorem dh (t:TypeId) (k:IntKind) (a b:Int) (K:Value→World→Prop) (w:World):BinX P .neq t (.int k a) (.int k b) K w=K (.bool (decide (a≠b))) w:=(Cj _ t k a b _ (MA t k a b)).op K w
@[go_sem] theorem ft (t:TypeId) (k:IntKind) (a b:Int) (K:Value→Prop) (w:World):RdB P .neq t (.int k a) (.int k b) K w=K (.bool (decide (a≠b))):=(Cj _ t k a b _ (MA t k a b)).rd K w
@[go_sem] theorem Ob (n:Int) (h1:-9223372036854775808≤n) (h2:n≤9223372036854775807):IntKind.i64.wrap n=n:=by
 simp only[IntKind.wrap,IntKind.bits,IntKind.signed,Bool.true_and,Bool.false_and,decide_eq_true_eq,ge_iff_le,Bool.false_eq_true,if_false];first|(split<;>omega)|omega
@[go_sem] theorem cR (n:Int) (h1:-2147483648≤n) (h2:n≤2147483647):IntKind.i32.wrap n=n:=by
 simp only[IntKind.wrap,IntKind.bits,IntKind.signed,Bool.true_and,Bool.false_and,decide_eq_true_eq,ge_iff_le,Bool.false_eq_true,if_false];first|(split<;>omega)|omega
@[go_sem] theorem ID (n:Int) (h1:0≤n) (h2:n≤255):IntKind.u8.wrap n=n:=by
 simp only[IntKind.wrap,IntKind.bits,IntKind.signed,Bool.true_and,Bool.false_and,decide_eq_true_eq,ge_iff_le,Bool.false_eq_true,if_false];first|(split<;>omega)|omega
@[go_sem] theorem Ik (n:Int) (h1:0≤n) (h2:n≤18446744073709551615):IntKind.u64.wrap n=n:=by
 simp only[IntKind.wrap,IntKind.bits,IntKind.signed,Bool.true_and,Bool.false_and,decide_eq_true_eq,ge_iff_le,Bool.false_eq_true,if_false];first|(split<;>omega)|omega
theorem Hr {t:TypeId} (h:Ag P t=some 4):∃e,P.underlying t=some (.pointer e):=by
 unfold Ag at h
 cases hu:P.underlying t with
 | none=>rw[hu] at h;simp at h
 | some d=>rw[hu] at h;cases d<;>simp at h;exact⟨_,rfl⟩
theorem Ie {t:TypeId} (h:Ag P t=some 1):∃e,P.underlying t=some (.slice e):=by
 unfold Ag at h
 cases hu:P.underlying t with
 | none=>rw[hu] at h;simp at h
 | some d=>rw[hu] at h;cases d<;>simp at h;exact⟨_,rfl⟩
theorem Wt {t:TypeId} (h:Ag P t=some 5):∃k e,P.underlying t=some (.map k e):=by
 unfold Ag at h
 cases hu:P.underlying t with
 | none=>rw[hu] at h;simp at h
 | some d=>rw[hu] at h;cases d<;>simp at h;exact⟨_,_,rfl⟩
theorem GC {t:TypeId} (h:Ag P t=some 3):P.underlying t=some .string:=by
 unfold Ag at h
 cases hu:P.underlying t with
 | none=>rw[hu] at h;simp at h
 | some d=>rw[hu] at h;cases d<;>simp at h;rfl
theorem IX {t:TypeId} (h:Ag P t=some 9):P.underlying t=some .bool:=by
 unfold Ag at h
 cases hu:P.underlying t with
 | none=>rw[hu] at h;simp at h
 | some d=>rw[hu] at h;cases d<;>simp at h;rfl
theorem HB {t:TypeId} {a b:Value} {c:Bool} (ha:∀x y,eqGuard .eql t x y a b=pure ()) (hb:binOp .eql t a b=(do pure (.bool (←Op.equal t a b)))) (h:∀w,(Op.equal t a b).run P w=.ok c w):PureBin P .eql t a b (.bool c) :=
 ⟨fun x y w=>by unfold A7;rw[ha,hb];simp [h]⟩
theorem Lo {t:TypeId} {a b:Value} {c:Bool} (ha:∀x y,eqGuard .neq t x y a b=pure ()) (hb:binOp .neq t a b=(do pure (.bool (!(←Op.equal t a b))))) (h:∀w,(Op.equal t a b).run P w=.ok c w):PureBin P .neq t a b (.bool (!c)) :=
 ⟨fun x y w=>by unfold A7;rw[ha,hb];simp [h]⟩
theorem IK {t:TypeId} (h:Ag P t=some 4) (p:Option Addr) (w:World):(Op.equal t (.pointer p) (.pointer none)).run P w=.ok p.isNone w:=by
 obtain⟨e,he⟩:=Hr h
 unfold Op.equal Op.maxDepth Op.equalIn
 cases p<;>simp [run_underlying he]
theorem Ty {t:TypeId} (h:Ag P t=some 1) (p:Option Addr) (n c n' c':Nat) (w:World):(Op.equal t (.slice p n c) (.slice none n' c')).run P w=.ok p.isNone w:=by
 obtain⟨e,he⟩:=Ie h
 unfold Op.equal Op.maxDepth Op.equalIn
 cases p<;>simp [run_underlying he]
theorem Vg {t:TypeId} (h:Ag P t=some 9) (a b:Bool) (w:World):(Op.equal t (.bool a) (.bool b)).run P w=.ok (a == b) w:=by
 unfold Op.equal Op.maxDepth Op.equalIn
 simp [run_underlying (IX h)]
@[go_sem] theorem dH (t:TypeId) (p:Option Addr) (K:Value→World→Prop) (w:World) (h:Ag P t=some 4):BinX P .eql t (.pointer p) (.pointer none) K w=K (.bool p.isNone) w:=(HB (fun _ _=>rfl) rfl (fun w=>IK h p w)).op K w
@[go_sem] theorem Z5 (t:TypeId) (p:Option Addr) (K:Value→World→Prop) (w:World) (h:Ag P t=some 4):BinX P .neq t (.pointer p) (.pointer none) K w=K (.bool (!p.isNone)) w:=(Lo (fun _ _=>rfl) rfl (fun w=>IK h p w)).op K w
@[go_sem] theorem aK (t:TypeId) (p:Option Addr) (K:Value→Prop) (w:World) (h:Ag P t=some 4):RdB P .eql t (.pointer p) (.pointer none) K w=K (.bool p.isNone):=(HB (fun _ _=>rfl) rfl (fun w=>IK h p w)).rd K w
@[go_sem] theorem bI (t:TypeId) (p:Option Addr) (n c n' c':Nat) (K:Value→World→Prop) (w:World) (h:Ag P t=some 1):BinX P .eql t (.slice p n c) (.slice none n' c') K w=K (.bool p.isNone) w:=(HB (fun _ _=>rfl) rfl (fun w=>Ty h p n c n' c' w)).op K w
@[go_sem] theorem fK (t:TypeId) (a b:Bool) (K:Value→World→Prop) (w:World) (h:Ag P t=some 9):BinX P .neq t (.bool a) (.bool b) K w=K (.bool (!(a == b))) w:=(Lo (fun _ _=>rfl) rfl (fun w=>Vg h a b w)).op K w
theorem Y5 (t:TypeId) (a b:ByteArray):PureBin P .neq t (.string a) (.string b) (.bool (!(a.toList == b.toList))):=⟨fun x y w=>by simp [A7,eqGuard,binOp,Op.stringOp]⟩
@[go_sem] theorem aA (t:TypeId) (a b:ByteArray) (K:Value→World→Prop) (w:World):BinX P .neq t (.string a) (.string b) K w=K (.bool (!(a.toList == b.toList))) w:=(Y5 t a b).op K w
end
section
variable {P:Program}
@[go_sem] theorem CG (b o n:Nat):(⟨b,o,none⟩:Addr).add n=⟨b,o+n,none⟩:=by
 unfold Addr.add
 by_cases h:n=0
 ·subst h;simp
 ·simp [h]
def LdX (P:Program) (t ty:TypeId) (a:Addr) (o:Option Value) (K:Value→World→Prop) (w:WK K):Prop :=
 match o with|some v=>K v w|none=>OpX P (.load t (.const (.pointer (some a)))) ty K w
@[go_sem] theorem SJ (t ty:TypeId) (a:Addr) (v:Value) (K:Value→World→Prop) (w:World):LdX P t ty a (some v) K w=K v w:=rfl
theorem FQ {t:TypeId} (ht:Al P t=some false) {b o:Nat} {v:Value} {w:World} (h:Av w.heap[b]? o=some v):(loadVar t ⟨b,o,none⟩).run P w=.ok v w:=by
 rw[←cell?_at] at h
 unfold loadVar
 simp [FV ht,h]
theorem Gg {t:TypeId} (ht:Al P t=some true) {n:Nat} (hn:Ak P t=some n) {b o:Nat} {c:Array Value} {w:World} (h:AU w.heap[b]? o n=some c):(loadVar t ⟨b,o,none⟩).run P w=.ok (.agg c) w:=by
 unfold loadVar
 have hc:c.toList.length=n∧∀j v,c.toList[j]?=some v→w.cell? ((⟨b,o,none⟩:Addr).add j)=some v:=by
  unfold AU at h
  split at h
  ·rename_i x cs e fr hb
   split at h
   ·rename_i hle
    cases h
    refine⟨by simp;omega,fun j v hj=>?_⟩
    rw[CG,cell?_at,hb,CD]
    have hj':j<n:=by
     have:=(List.getElem?_eq_some_iff.1 hj).1
     simp at this;omega
    have:=hj
    simp only[Array.getElem?_toList] at this
    rw[Array.getElem?_extract_of_lt (by omega)] at this
    rw[←this]
    have hlt:o+j<cs.size:=by omega
    simp [hlt]
   ·simp at h
  ·simp at h
 obtain⟨hl,hc⟩:=hc
 have:=run_loadCells_list (P:=P) w ⟨b,o,none⟩ c.toList hc
 rw[hl] at this
 simp [FV ht,Bh hn,this]
theorem En (ρ:Operand→Value) (t ty:TypeId) (x:Operand) (a:Addr) (v:Value) (w:World) (hx:ρ x=.pointer (some a)) (h:(loadVar t a).run P w=.ok v w) :
  (execOp ρ (An (.load t x) ty)).run P w=.ok (.value v) w:=by
 simp [execOp,An,hx,Instr.loadAt,Instr.sureAddr,h]
@[go_sem] theorem cW (t ty:TypeId) (b o:Nat) (K:Value→World→Prop) (w:World) (ht:Al P t=some false) :
  OpX P (.load t (.const (.pointer (some ⟨b,o,none⟩)))) ty K w=LdX P t ty ⟨b,o,none⟩ (Av w.heap[b]? o) K w:=by
 cases h:Av w.heap[b]? o with
 | none=>rfl
 | some v=>rw[SJ];exact AW fun ρ hg=>En ρ t ty _ _ v w (hg.1 _) (FQ ht h)
theorem C5 {t:TypeId} {n:Nat} (h:AD P t=some n):Al P t=some true∧Ak P t=some n:=by
 unfold AD at h
 cases ht:Al P t with
 | none=>rw[ht] at h;simp at h
 | some b=>rw[ht] at h;cases b<;>simp at h;exact⟨rfl,h⟩
@[go_sem] theorem YN (t ty:TypeId) (b o:Nat) (K:Value→World→Prop) (w:World) (_ht:Al P t=some true) :
  OpX P (.load t (.const (.pointer (some ⟨b,o,none⟩)))) ty K w=OrK ((AD P t).bind (AU w.heap[b]? o)) (fun c=>K (.agg c) w) (OpX P (.load t (.const (.pointer (some ⟨b,o,none⟩)))) ty K w) ():=by
 refine AF (fun c h=>?_) rfl
 obtain⟨n,hn,h⟩:=Option.bind_eq_some_iff.1 h
 exact AW fun ρ hg=>En ρ t ty _ _ _ w (hg.1 _) (Gg (C5 hn).1 (C5 hn).2 h)
def LdQ (P:Program) (t ty:TypeId) (a:Addr) (o:Option Value) (K:Value→Prop) (w:WK K):Prop :=
 match o with|some v=>K v|none=>RdX P (.load t (.const (.pointer (some a)))) ty K w
@[go_sem] theorem VE (t ty:TypeId) (a:Addr) (v:Value) (K:Value→Prop) (w:World):LdQ P t ty a (some v) K w=K v:=rfl
@[go_sem] theorem cr (t ty:TypeId) (b o:Nat) (K:Value→Prop) (w:World) (ht:Al P t=some false) :
  RdX P (.load t (.const (.pointer (some ⟨b,o,none⟩)))) ty K w=LdQ P t ty ⟨b,o,none⟩ (Av w.heap[b]? o) K w:=by
 cases h:Av w.heap[b]? o with
 | none=>rfl
 | some v=>rw[VE];exact Fq fun ρ hg=>En ρ t ty _ _ v w (hg.1 _) (FQ ht h)
@[go_sem] theorem dJ (t ty:TypeId) (b o:Nat) (K:Value→Prop) (w:World) (_ht:Al P t=some true) :
  RdX P (.load t (.const (.pointer (some ⟨b,o,none⟩)))) ty K w=OrK ((AD P t).bind (AU w.heap[b]? o)) (fun c=>K (.agg c)) (RdX P (.load t (.const (.pointer (some ⟨b,o,none⟩)))) ty K w) ():=by
 refine AF (fun c h=>?_) rfl
 obtain⟨n,hn,h⟩:=Option.bind_eq_some_iff.1 h
 exact Fq fun ρ hg=>En ρ t ty _ _ _ w (hg.1 _) (Gg (C5 hn).1 (C5 hn).2 h)
def YdX (P:Program) (t ty:TypeId) (a:Addr) (o:Option Value) (u:Value) (w:World):Prop :=
 match o with|some v=>u=v|none=>Yld P (.load t (.const (.pointer (some a)))) ty u w
@[go_sem] theorem Sb (t ty:TypeId) (a:Addr) (v u:Value) (w:World):YdX P t ty a (some v) u w=(u=v):=rfl
@[go_sem] theorem cF (t ty:TypeId) (b o:Nat) (u:Value) (w:World) (ht:Al P t=some false) :
  Yld P (.load t (.const (.pointer (some ⟨b,o,none⟩)))) ty u w=YdX P t ty ⟨b,o,none⟩ (Av w.heap[b]? o) u w:=by
 cases h:Av w.heap[b]? o with
 | none=>rfl
 | some v=>rw[Sb];exact Ia fun ρ hg=>En ρ t ty _ _ v w (hg.1 _) (FQ ht h)
@[go_sem] theorem bZ (t ty:TypeId) (b o:Nat) (u:Value) (w:World) (_ht:Al P t=some true) :
  Yld P (.load t (.const (.pointer (some ⟨b,o,none⟩)))) ty u w=OrK ((AD P t).bind (AU w.heap[b]? o)) (fun c=>u=.agg c) (Yld P (.load t (.const (.pointer (some ⟨b,o,none⟩)))) ty u w) ():=by
 refine AF (fun c h=>?_) rfl
 obtain⟨n,hn,h⟩:=Option.bind_eq_some_iff.1 h
 exact Ia fun ρ hg=>En ρ t ty _ _ _ w (hg.1 _) (Gg (C5 hn).1 (C5 hn).2 h)
theorem Xv (t:TypeId) (b o:Nat) (K:Value→World→Prop) (w:World) (ht:Al P t=some false) (v:Value) (h:Av w.heap[b]? o=some v):LdR P t (.pointer (some ⟨b,o,none⟩)) K w=K v w:=by
 have hr:=FQ ht h
 apply propext
 constructor
 ·rintro⟨a,x,ha,hx,hk⟩
  cases ha
  rw[hr] at hx;cases hx;exact hk
 ·exact fun hk=>⟨_,v,rfl,hr,hk⟩
def RsX (P:Program) (t:TypeId) (a:Addr) (o:Option Value) (K:Value→World→Prop) (w:WK K):Prop :=
 match o with|some v=>K v w|none=>LdR P t (.pointer (some a)) K w
@[go_sem] theorem Vy (t:TypeId) (a:Addr) (v:Value) (K:Value→World→Prop) (w:World):RsX P t a (some v) K w=K v w:=rfl
@[go_sem] theorem aF (t:TypeId) (b o:Nat) (K:Value→World→Prop) (w:World) (ht:Al P t=some false):LdR P t (.pointer (some ⟨b,o,none⟩)) K w=RsX P t ⟨b,o,none⟩ (Av w.heap[b]? o) K w:=by
 cases h:Av w.heap[b]? o with
 | none=>rfl
 | some v=>rw[Vy,Xv t b o K w ht v h]
@[go_sem] theorem Jr (t:TypeId) (b o:Nat) (K:Value→World→Prop) (w:World) (_ht:Al P t=some true) :
  LdR P t (.pointer (some ⟨b,o,none⟩)) K w=OrK ((AD P t).bind (AU w.heap[b]? o)) (fun c=>K (.agg c) w) (LdR P t (.pointer (some ⟨b,o,none⟩)) K w) ():=by
 refine AF (fun c h=>?_) rfl
 obtain⟨n,hn,h⟩:=Option.bind_eq_some_iff.1 h
 have hr:=Gg (C5 hn).1 (C5 hn).2 h
 apply propext
 constructor
 ·rintro⟨a,x,ha,hx,hk⟩
  cases ha
  rw[hr] at hx;cases hx;exact hk
 ·exact fun hk=>⟨_,_,rfl,hr,hk⟩
def AP (vs:List Value):Bool:=vs.all Value.oneCell'
def StX (P:Program) (t ty:TypeId) (b o:Nat) (v:Value) (x:Option Obj) (K:Value→World→Prop) (w:WK K):Prop :=
 match x with|some x'=>K undef (Ab w b x')|none=>OpX P (.store t (.const (.pointer (some ⟨b,o,none⟩))) (.const v)) ty K w
@[go_sem] theorem D4 (t ty:TypeId) (b o:Nat) (v:Value) (x:Obj) (K:Value→World→Prop) (w:World):StX P t ty b o v (some x) K w=K undef (Ab w b x):=rfl
theorem WO {w:World} {b:Nat} {c c':Array Value} {e:TypeId} (h:w.heap[b]?=some (.cells c e (0,0))):w.setRow b c'=Ab w b (.cells c' e):=by
 unfold World.setRow Ab
 congr 1
 apply Array.ext_getElem?
 intro i
 simp only[Array.getElem?_modify,Array.getElem?_setIfInBounds]
 by_cases hi:b=i
 ·subst hi;rw[h];simp [Aa h]
 ·simp [hi]
theorem E2 {b o:Nat} {vs:List Value} {x':Obj} {w:World} (h:Az w.heap[b]? o vs=some x') (hv:AP vs=true):(storeCells ⟨b,o,none⟩ vs).run P w=.ok () (Ab w b x'):=by
 unfold Az at h
 split at h
 ·rename_i c e hb
  split at h
  ·rename_i hle
   cases h
   have:=run_storeCells_at P b o e vs 0 c w hb (by omega) (by simpa [AP] using hv)
   rw[this]
   simp only[Nat.add_zero]
   rw[WO hb]
   rfl
  ·simp at h
 ·simp at h
@[go_sem] theorem DZ (t ty:TypeId) (b o:Nat) (v:Value) (K:Value→World→Prop) (w:World) (hn:Ak P t=some v.cells.size) (hv:AP v.cells.toList=true) :
  OpX P (.store t (.const (.pointer (some ⟨b,o,none⟩))) (.const v)) ty K w=StX P t ty b o v (Az w.heap[b]? o v.cells.toList) K w:=by
 cases h:Az w.heap[b]? o v.cells.toList with
 | none=>rfl
 | some x' =>
  rw[D4]
  refine Lv fun ρ hg=>?_
  simp [execOp,An,hg.1,Instr.storeAt,Instr.sureAddr,storeVar,Bh hn,E2 h hv]
@[go_sem] theorem SL (t ty:TypeId) (v:Value) (K:Value→World→Prop) (w:World):OpX P (.box t (.const v)) ty K w=K (.pointer (some ⟨w.heap.size,0,none⟩)) (w.alloc (.cells v.cells t)) :=
 AW fun ρ hg=>by simp [execOp,An,hg.1,Instr.box,newVar,newRow]
@[go_sem] theorem H2 (t ty:TypeId) (K:Value→World→Prop) (w:World) :
  OpX P (.alloc t) ty K w=OrK (AB P t) (fun z=>K (.pointer (some ⟨w.heap.size,0,none⟩)) (w.alloc (.cells z.cells t))) (OpX P (.alloc t) ty K w) ():=by
 refine AF (fun z h=>?_) rfl
 exact AW fun ρ hg=>by simp [execOp,An,Instr.alloc,newVar,newRow,Ds h]
def Cu (pl:List (Nat × Nat)) (c:Array Value):List (Nat × Value)→Option (Array Value)
 | []=>some c
 | (i,v)::r=>match pl[i]? with
  | none=>none
  | some (off,n)=>if v.cells.size=n∧off+n≤c.size then Cu pl (spl c off v.cells.toList) r else none
@[go_sem] theorem bq (pl:List (Nat × Nat)) (c:Array Value):Cu pl c []=some c:=rfl
@[go_sem] theorem XZ (pl:List (Nat × Nat)) (c:Array Value) (i:Nat) (v:Value) (r:List (Nat × Value)) :
  Cu pl c ((i,v)::r)=match pl[i]? with|none=>none|some (off,n)=>if v.cells.size=n∧off+n≤c.size then Cu pl (spl c off v.cells.toList) r else none:=rfl
theorem NU:∀(l:List Value) (off k:Nat) (c:Array Value),off+k+l.length≤c.size→(l.zipIdx k).foldl (fun cs (p:Value × Nat)=>cs.setIfInBounds (off+p.2) p.1) c=spl c (off+k) l
 | [],off,k,c,_=>by simp [spl]
 | v::l,off,k,c,h=>by
  simp only[List.zipIdx_cons,List.foldl_cons]
  simp only[List.length_cons] at h
  rw[show off+k=off+k from rfl,NU l off (k+1) _ (by simp;omega)]
  unfold spl
  simp only[Array.toList_setIfInBounds]
  congr 1
  have:=list_seg_step c.toList (off+k) v l (by simp;omega)
  simpa [Nat.add_assoc] using this
theorem FH (place:Nat→Option (Nat × Nat)) (pl:List (Nat × Nat)) (hpl:∀i x,pl[i]?=some x→place i=some x):∀(l:List (Nat × Value)) (c c':Array Value),Cu pl c l=some c'→Instr.fill place c l=some c'
 | [],c,c',h=>h
 | (i,v)::r,c,c',h=>by
  rw[XZ] at h
  unfold Instr.fill
  cases hp:pl[i]? with
  | none=>rw[hp] at h;simp at h
  | some x =>
   obtain⟨off,n⟩:=x
   rw[hp] at h
   simp only at h
   split at h
   ·rename_i hc
    rw[hpl i _ hp]
    have h1:¬(v.cells.size≠n || decide (off+v.cells.size>c.size))=true:=by
     simp only[Bool.or_eq_true,decide_eq_true_eq,not_or];omega
    simp only[h1]
    have e:v.cells.zipIdx.foldl (fun cs (p:Value × Nat)=>cs.setIfInBounds (off+p.2) p.1) c=spl c off v.cells.toList:=by
     have:=NU v.cells.toList off 0 c (by simp;omega)
     simp only[Nat.add_zero] at this
     rw[←this,←Array.foldl_toList]
     simp
    have:=FH place pl hpl r _ c' h
    rw[←e] at this
    exact this
   ·simp at h
def Bc:List (Nat × Operand)→Option (List (Nat × Value))
 | []=>some []
 | (i,.const v)::r=>(Bc r).map ((i,v)::·)
 | _=>none
@[go_sem] theorem eN:Bc []=some []:=rfl
@[go_sem] theorem bN (i:Nat) (v:Value) (r:List (Nat × Operand)):Bc ((i,.const v)::r)=(Bc r).map ((i,v)::·):=rfl
theorem D8 {ρ:Operand→Value} (hg:BB ρ):∀{l:List (Nat × Operand)} {vs:List (Nat × Value)},Bc l=some vs→l.map (fun p=>(p.1,ρ p.2))=vs
 | [],vs,h=>by simp [Bc] at h;subst h;rfl
 | (i,x)::r,vs,h=>by
  cases x with
  | const v =>
   simp only[Bc,Option.map_eq_some_iff] at h
   obtain⟨us,hu,rfl⟩:=h
   simp [D8 hg hu,hg.1]
  | _=>simp [Bc] at h
theorem VQ {fs:Array Field} {l:List (Nat × Nat)} (h:fs.toList.mapM (fun f=>(P.info? f.type).map fun j=>(f.offset,j.size))=some l) (w:World) :
  (fs.mapM fun f=>(do pure (f.offset,←Go.sizeOf f.type):Sem (Nat × Nat))).run P w=.ok l.toArray w:=by
 rw[Array.mapM_eq_mapM_toList]
 suffices ∀(fl:List Field) (l:List (Nat × Nat)),fl.mapM (fun f=>(P.info? f.type).map fun j=>(f.offset,j.size))=some l →
   (fl.mapM fun f=>(do pure (f.offset,←Go.sizeOf f.type):Sem (Nat × Nat))).run P w=.ok l w by
  rw[Sem.run_map,this _ _ h];rfl
 intro fl
 induction fl with
 | nil=>intro l h;simp at h;subst h;rfl
 | cons f fl ih =>
  intro l h
  simp only[List.mapM_cons,bind,Option.bind_eq_some_iff,Option.map_eq_some_iff,pure,Option.some.injEq] at h
  obtain⟨p,⟨j,hj,rfl⟩,r,hr,rfl⟩:=h
  rw[List.mapM_cons]
  have hs:Ak P f.type=some j.size:=by simp [Ak,hj]
  rw[Sem.run_bind,Sem.run_bind,Bh hs]
  simp only[Result.andThen_ok,Sem.run_pure]
  rw[Sem.run_bind,ih r hr];rfl
theorem KI (t ty:TypeId) (parts:List (Nat × Operand)) (K:Value→World→Prop) (w:World) :
  OpX P (.build t parts.toArray) ty K w=OrK ((AB P t).bind fun z=>(AM P t).bind fun pl=>(Bc parts).bind (Cu pl z.cells)) (fun c=>K (.agg c) w) (OpX P (.build t parts.toArray) ty K w) ():=by
 refine AF (fun c h=>?_) rfl
 obtain⟨z,hz,h⟩:=Option.bind_eq_some_iff.1 h
 obtain⟨pl,hpl,h⟩:=Option.bind_eq_some_iff.1 h
 obtain⟨vs,hv,hf⟩:=Option.bind_eq_some_iff.1 h
 refine AW fun ρ hg=>?_
 unfold AM at hpl
 cases hu:P.underlying t with
 | none=>rw[hu] at hpl;simp at hpl
 | some d =>
  rw[hu] at hpl
  cases d<;>simp at hpl
  rename_i fs
  have hfill:=FH (fun i=>pl[i]?) pl (fun i x hx=>hx) vs z.cells c hf
  have hf:=VQ hpl w
  have hp:=D8 hg hv
  simp only[execOp,An,Instr.build,Sem.run_bind,Ds hz,Result.andThen_ok,run_underlying hu]
  rw[hf]
  simp only[Result.andThen_ok,List.getElem?_toArray,List.map_toArray,hp,hfill]
  rfl
@[go_sem] theorem GF (t ty:TypeId) (parts:List (Nat × Operand)) (K:Value→World→Prop) (w:World) (_ht:Ag P t=some 7) :
  OpX P (.build t parts.toArray) ty K w=OrK ((AB P t).bind fun z=>(AM P t).bind fun pl=>(Bc parts).bind (Cu pl z.cells)) (fun c=>K (.agg c) w) (OpX P (.build t parts.toArray) ty K w) ():=KI t ty parts K w
@[go_sem] theorem aw:AP []=true:=rfl
@[go_sem] theorem cj (v:Value) (l:List Value):AP (v::l)=(v.oneCell' && AP l):=rfl
end
attribute [go_sem] Value.oneCell' Bool.and_true Bool.true_and if_true if_false Nat.le_refl
section
variable {P:Program}
attribute [go_sem] Int.toNat_natCast and_self and_true true_and and_false false_and ne_eq not_false_eq_true not_true_eq_false eq_self Option.isNone_none Option.isNone_some Bool.not_true Bool.not_false Nat.zero_add Nat.add_zero List.getElem?_toArray List.getElem?_cons_zero List.getElem?_cons_succ List.size_toArray List.length_cons List.length_nil List.take_zero List.take_succ_cons List.drop_zero List.drop_succ_cons List.nil_append List.cons_append List.append_assoc List.extract_toArray Option.map_some Option.bind_some Option.isSome_some List.map_cons List.map_nil decide_true decide_false
@[go_sem] theorem cx {α:Type} (l:List α) (a b:Nat):l.extract a b=(l.drop a).take (b-a):=rfl
def aP:Option Value→Value
 | some v=>v
 | none=>undef
theorem Kb (ty:TypeId) (a:Addr):PureRun P (.nilCheck (.const (.pointer (some a)))) ty (.pointer (some a)):=⟨fun ρ hg w=>by simp [execOp,An,hg.1]⟩
theorem I7 (t ty:TypeId) (b o f off n:Nat) (h:Ai P t f=some (off,n)) (hn:n≠0):PureRun P (.fieldAddr t (.const (.pointer (some ⟨b,o,none⟩))) f) ty (.pointer (some ⟨b,o+off,none⟩)):=by
 have hfs:∃fs,P.underlying t=some (.struct fs):=by
  unfold Ai at h
  cases hu:P.underlying t with
  | none=>rw[hu] at h;simp at h
  | some d=>rw[hu] at h;cases d<;>first|exact⟨_,rfl⟩|simp at h
 obtain⟨fs,hu⟩:=hfs
 unfold Ai at h
 rw[hu] at h
 simp only[Option.bind_some] at h
 obtain⟨fd,hfd⟩:∃fd,fs[f]?=some fd:=by
  cases hfd:fs[f]? with
  | none=>rw[hfd] at h;simp at h
  | some fd=>exact⟨fd,rfl⟩
 rw[hfd] at h
 simp only[Option.bind_some,Option.map_eq_some_iff] at h
 obtain⟨j,hj,h⟩:=h
 cases h
 have hs:Ak P fd.type=some j.size:=by simp [Ak,hj]
 refine⟨fun ρ hg w=>?_⟩
 simp [execOp,An,hg.1,Instr.fieldAt,run_underlying hu,hfd,Instr.sureAddr,fieldPlace,Bh hs,hn,CG]
theorem K5 (t ty e:TypeId) (b o len cap n:Nat) (k:IntKind) (i:Int) (hk:Ag P t=some 1) (he:AA P t=some e) (hn:Ak P e=some n) (h0:0≤i) (h1:i<len) :
  PureRun P (.indexAddr t (.const (.slice (some ⟨b,o,none⟩) len cap)) (.const (.int k i))) ty (.pointer (some ⟨b,o+i.toNat*n,none⟩)):=by
 obtain⟨e',hu⟩:=Ie hk
 have:e'=e:=by simpa [AA,hu] using he
 subst this
 refine⟨fun ρ hg w=>?_⟩
 simp [execOp,An,hg.1,Instr.indexAt,asIntOf,run_underlying hu,Bh hn,h0,h1,CG]
theorem Qe {t:TypeId} (h:Ag P t=some 2):∃n e,P.underlying t=some (.array n e):=by
 unfold Ag at h
 cases hu:P.underlying t with
 | none=>rw[hu] at h;simp at h
 | some d=>rw[hu] at h;cases d<;>simp at h;exact⟨_,_,rfl⟩
theorem Lw (t ty e:TypeId) (b o len n:Nat) (k:IntKind) (i:Int) (hk:Ag P t=some 2) (he:AA P t=some e) (hl:B9 P t=some len) (hn:Ak P e=some n) (h0:0≤i) (h1:i<len) :
  PureRun P (.indexAddr t (.const (.pointer (some ⟨b,o,none⟩))) (.const (.int k i))) ty (.pointer (some ⟨b,o+i.toNat*n,none⟩)):=by
 obtain⟨l',e',hu⟩:=Qe hk
 have e1:e'=e:=by simpa [AA,hu] using he
 have e2:l'=len:=by simpa [B9,hu] using hl
 subst e1;subst e2
 refine⟨fun ρ hg w=>?_⟩
 simp [execOp,An,hg.1,Instr.indexAt,Instr.sureAddr,asIntOf,run_underlying hu,Bh hn,h0,h1,CG]
theorem KJ (ty:TypeId) (vs:Array Value) (i:Nat) (v:Value) (h:vs[i]?=some v):PureRun P (.extract (.const (.tuple vs)) i) ty v:=⟨fun ρ hg w=>by simp [execOp,An,hg.1,Instr.extract,h]⟩
theorem LN (t ty:TypeId) (b:Bool):PureRun P (.unOp .not t (.const (.bool b))) ty (.bool (!b)):=⟨fun ρ hg w=>by simp [execOp,An,hg.1,Op.unary]⟩
theorem Mf (t ty:TypeId) (k:IntKind) (n:Int):PureRun P (.unOp .neg t (.const (.int k n))) ty (.int k (k.wrap (-n))):=⟨fun ρ hg w=>by simp [execOp,An,hg.1,Op.unary,Op.intArith]⟩
theorem Kx (s t ty:TypeId) (k k':IntKind) (n:Int) (hs:(Ag P s).isSome=true) (h:Cq P t=some k'):PureRun P (.convert s t (.const (.int k n))) ty (.int k' (k'.wrap n)):=by
 unfold Cq at h
 obtain⟨d,hd⟩:∃d,P.underlying s=some d:=by
  unfold Ag at hs
  cases hu:P.underlying s with
  | none=>rw[hu] at hs;simp at hs
  | some d=>exact⟨d,rfl⟩
 cases hu:P.underlying t with
 | none=>rw[hu] at h;simp at h
 | some d' =>
  rw[hu] at h
  cases d'<;>simp at h
  subst h
  refine⟨fun ρ hg w=>?_⟩
  simp [execOp,An,hg.1,convert,run_underlying hu,run_underlying hd,Conv.intToInt]
theorem NN (t ty:TypeId) (a:Option Addr) (n c:Nat) (h:Ag P t=some 1):PureRun P (.call { callee:=.builtin .len,args:=#[.const (.slice a n c)],argTypes:=#[t] }) ty (.int .i64 n):=by
 obtain⟨e,he⟩:=Ie h
 exact⟨fun ρ hg w=>by simp [execOp,An,resolve,invoke,builtin,hg.1,Builtin.len_,run_underlying he,goInt]⟩
theorem XW (t ty:TypeId) (s:ByteArray) (h:Ag P t=some 3):PureRun P (.call { callee:=.builtin .len,args:=#[.const (.string s)],argTypes:=#[t] }) ty (.int .i64 s.size):=by
 have he:=GC h
 exact⟨fun ρ hg w=>by simp [execOp,An,resolve,invoke,builtin,hg.1,Builtin.len_,run_underlying he,goInt]⟩
theorem LO (ts:Array TypeId) (ty:TypeId) (k k':IntKind) (x y:Int):PureRun P (.call { callee:=.builtin .min,args:=#[.const (.int k x),.const (.int k' y)],argTypes:=ts }) ty (.int k (min x y)) :=
 ⟨fun ρ hg w=>by
  have e:(if y<x then y else x)=min x y:=by omega
  simp [execOp,An,resolve,invoke,builtin,hg.1,Builtin.min_,Builtin.min2,e]⟩
theorem No (ts:Array TypeId) (ty:TypeId) (k k':IntKind) (x y:Int):PureRun P (.call { callee:=.builtin .max,args:=#[.const (.int k x),.const (.int k' y)],argTypes:=ts }) ty (.int k (max x y)) :=
 ⟨fun ρ hg w=>by
  have e:(if y>x then y else x)=max x y:=by omega
  simp [execOp,An,resolve,invoke,builtin,hg.1,Builtin.max_,Builtin.max2,e]⟩
theorem Pv (ty:TypeId) (fn:Fn) (xs ys:List Operand) (us vs:List Value) (hx:(Bc (xs.map fun x=>(0,x)))=some (us.map fun v=>(0,v))) (hy:(Bc (ys.map fun x=>(0,x)))=some (vs.map fun v=>(0,v))) :
  PureRun P (.makeFunc fn xs.toArray ys.toArray) ty (.func fn us.toArray vs.toArray):=by
 refine⟨fun ρ hg w=>?_⟩
 have h1:=D8 hg hx
 have h2:=D8 hg hy
 have e1:xs.map ρ=us:=by
  have:=congrArg (List.map Prod.snd) h1
  simpa [List.map_map,Function.comp_def] using this
 have e2:ys.map ρ=vs:=by
  have:=congrArg (List.map Prod.snd) h2
  simpa [List.map_map,Function.comp_def] using this
 simp [execOp,An,Instr.makeFunc,e1,e2]
@[go_sem] theorem df (ty:TypeId) (a:Addr) (K:Value→World→Prop) (w:World) :OpX P (.nilCheck (.const (.pointer (some a)))) ty K w=K (.pointer (some a)) w:=(Kb ty a).op K w
@[go_sem] theorem ff (ty:TypeId) (a:Addr) (K:Value→Prop) :PurX P (.nilCheck (.const (.pointer (some a)))) ty K ()=K (.pointer (some a)):=(Kb ty a).pur K
@[go_sem] theorem Z4 (t ty:TypeId) (b:Bool) (K:Value→World→Prop) (w:World) :OpX P (.unOp .not t (.const (.bool b))) ty K w=K (.bool (!b)) w:=(LN t ty b).op K w
@[go_sem] theorem cO (t ty:TypeId) (b:Bool) (K:Value→Prop) :PurX P (.unOp .not t (.const (.bool b))) ty K ()=K (.bool (!b)):=(LN t ty b).pur K
@[go_sem] theorem fM (t ty:TypeId) (k:IntKind) (n:Int) (K:Value→World→Prop) (w:World) :OpX P (.unOp .neg t (.const (.int k n))) ty K w=K (.int k (k.wrap (-n))) w:=(Mf t ty k n).op K w
@[go_sem] theorem du (t ty:TypeId) (k:IntKind) (n:Int) (K:Value→Prop) :PurX P (.unOp .neg t (.const (.int k n))) ty K ()=K (.int k (k.wrap (-n))):=(Mf t ty k n).pur K
@[go_sem] theorem dg (t ty:TypeId) (a:Option Addr) (n c:Nat) (K:Value→World→Prop) (w:World) (h:Ag P t=some 1):OpX P (.call { callee:=.builtin .len,args:=#[.const (.slice a n c)],argTypes:=#[t] }) ty K w=K (.int .i64 n) w:=(NN t ty a n c h).op K w
@[go_sem] theorem eG (t ty:TypeId) (a:Option Addr) (n c:Nat) (K:Value→Prop) (w:World) (h:Ag P t=some 1):RdX P (.call { callee:=.builtin .len,args:=#[.const (.slice a n c)],argTypes:=#[t] }) ty K w=K (.int .i64 n):=(NN t ty a n c h).rd K w
@[go_sem] theorem dm (t ty:TypeId) (s:ByteArray) (K:Value→World→Prop) (w:World) (h:Ag P t=some 3):OpX P (.call { callee:=.builtin .len,args:=#[.const (.string s)],argTypes:=#[t] }) ty K w=K (.int .i64 s.size) w:=(XW t ty s h).op K w
@[go_sem] theorem eo (ts:Array TypeId) (ty:TypeId) (k k':IntKind) (x y:Int) (K:Value→World→Prop) (w:World) :OpX P (.call { callee:=.builtin .min,args:=#[.const (.int k x),.const (.int k' y)],argTypes:=ts }) ty K w=K (.int k (min x y)) w:=(LO ts ty k k' x y).op K w
@[go_sem] theorem aV (ts:Array TypeId) (ty:TypeId) (k k':IntKind) (x y:Int) (K:Value→Prop) :PurX P (.call { callee:=.builtin .min,args:=#[.const (.int k x),.const (.int k' y)],argTypes:=ts }) ty K ()=K (.int k (min x y)):=(LO ts ty k k' x y).pur K
@[go_sem] theorem cY (ts:Array TypeId) (ty:TypeId) (k k':IntKind) (x y:Int) (K:Value→World→Prop) (w:World) :OpX P (.call { callee:=.builtin .max,args:=#[.const (.int k x),.const (.int k' y)],argTypes:=ts }) ty K w=K (.int k (max x y)) w:=(No ts ty k k' x y).op K w
@[go_sem] theorem dd (ts:Array TypeId) (ty:TypeId) (k k':IntKind) (x y:Int) (K:Value→Prop) :PurX P (.call { callee:=.builtin .max,args:=#[.const (.int k x),.const (.int k' y)],argTypes:=ts }) ty K ()=K (.int k (max x y)):=(No ts ty k k' x y).pur K
theorem J1 {t:TypeId} {f off:Nat} (h:tfo P t f=some off):∃n,Ai P t f=some (off,n)∧n≠0:=by
 unfold tfo at h
 obtain⟨p,hp,h⟩:=Option.bind_eq_some_iff.1 h
 split at h
 ·simp at h
 ·rename_i hn;cases h;exact⟨p.2,hp,hn⟩
theorem LR {t:TypeId} {n:Nat} (h:AI P t=some n):∃e,Ag P t=some 1∧AA P t=some e∧Ak P e=some n:=by
 unfold AI at h
 cases hu:P.underlying t with
 | none=>rw[hu] at h;simp at h
 | some d =>
  rw[hu] at h
  cases d<;>simp at h
  exact⟨_,by simp [Ag,hu],by simp [AA,hu],h⟩
theorem K2 {t:TypeId} {n m:Nat} (h:A8 P t=some (n,m)):∃e,Ag P t=some 2∧AA P t=some e∧B9 P t=some n∧Ak P e=some m:=by
 unfold A8 at h
 cases hu:P.underlying t with
 | none=>rw[hu] at h;simp at h
 | some d =>
  rw[hu] at h
  cases d with
  | array k e =>
   simp only[Option.bind_some,Option.map_eq_some_iff] at h
   obtain⟨x,hx,h⟩:=h
   cases h
   exact⟨e,by simp [Ag,hu],by simp [AA,hu],by simp [B9,hu],hx⟩
  | _=>simp at h
@[go_sem] theorem dj (t ty:TypeId) (b o f:Nat) (K:Value→World→Prop) (w:World) :OpX P (.fieldAddr t (.const (.pointer (some ⟨b,o,none⟩))) f) ty K w=OrK (tfo P t f) (fun off=>K (.pointer (some ⟨b,o+off,none⟩)) w) (OpX P (.fieldAddr t (.const (.pointer (some ⟨b,o,none⟩))) f) ty K w) ():=by
 refine AF (fun q h=>?_) rfl
 obtain⟨n,h1,h2⟩:=J1 h
 have hr:=I7 (P:=P) t ty b o f q n h1 h2
 exact PureRun.op hr K w
@[go_sem] theorem cL (t ty:TypeId) (b o f:Nat) (K:Value→Prop) :PurX P (.fieldAddr t (.const (.pointer (some ⟨b,o,none⟩))) f) ty K ()=OrK (tfo P t f) (fun off=>K (.pointer (some ⟨b,o+off,none⟩))) (PurX P (.fieldAddr t (.const (.pointer (some ⟨b,o,none⟩))) f) ty K ()) ():=by
 refine AF (fun q h=>?_) rfl
 obtain⟨n,h1,h2⟩:=J1 h
 have hr:=I7 (P:=P) t ty b o f q n h1 h2
 exact PureRun.pur hr K
@[go_sem] theorem eh (t ty:TypeId) (b o len cap:Nat) (k:IntKind) (i:Int) (K:Value→World→Prop) (w:World) (h0:0≤i) (h1:i<len):OpX P (.indexAddr t (.const (.slice (some ⟨b,o,none⟩) len cap)) (.const (.int k i))) ty K w=OrK (AI P t) (fun n=>K (.pointer (some ⟨b,o+i.toNat*n,none⟩)) w) (OpX P (.indexAddr t (.const (.slice (some ⟨b,o,none⟩) len cap)) (.const (.int k i))) ty K w) ():=by
 refine AF (fun q h=>?_) rfl
 obtain⟨e,h2,h3,h4⟩:=LR h
 have hr:=K5 (P:=P) t ty e b o len cap q k i h2 h3 h4 h0 h1
 exact PureRun.op hr K w
@[go_sem] theorem dK (t ty:TypeId) (b o len cap:Nat) (k:IntKind) (i:Int) (K:Value→Prop) (h0:0≤i) (h1:i<len):PurX P (.indexAddr t (.const (.slice (some ⟨b,o,none⟩) len cap)) (.const (.int k i))) ty K ()=OrK (AI P t) (fun n=>K (.pointer (some ⟨b,o+i.toNat*n,none⟩))) (PurX P (.indexAddr t (.const (.slice (some ⟨b,o,none⟩) len cap)) (.const (.int k i))) ty K ()) ():=by
 refine AF (fun q h=>?_) rfl
 obtain⟨e,h2,h3,h4⟩:=LR h
 have hr:=K5 (P:=P) t ty e b o len cap q k i h2 h3 h4 h0 h1
 exact PureRun.pur hr K
@[go_sem] theorem bO (t ty:TypeId) (b o:Nat) (k:IntKind) (i:Int) (K:Value→World→Prop) (w:World) (h0:0≤i) (h1:i<((A8 P t).getD (0,0)).1):OpX P (.indexAddr t (.const (.pointer (some ⟨b,o,none⟩))) (.const (.int k i))) ty K w=OrK (A8 P t) (fun n=>K (.pointer (some ⟨b,o+i.toNat*n.2,none⟩)) w) (OpX P (.indexAddr t (.const (.pointer (some ⟨b,o,none⟩))) (.const (.int k i))) ty K w) ():=by
 refine AF (fun q h=>?_) rfl
 obtain⟨n,m⟩:=q
 rw[h] at h1
 obtain⟨e,h2,h3,h4,h5⟩:=K2 h
 have hr:=Lw (P:=P) t ty e b o n m k i h2 h3 h4 h5 h0 h1
 exact PureRun.op hr K w
@[go_sem] theorem cS (t ty:TypeId) (b o:Nat) (k:IntKind) (i:Int) (K:Value→Prop) (h0:0≤i) (h1:i<((A8 P t).getD (0,0)).1):PurX P (.indexAddr t (.const (.pointer (some ⟨b,o,none⟩))) (.const (.int k i))) ty K ()=OrK (A8 P t) (fun n=>K (.pointer (some ⟨b,o+i.toNat*n.2,none⟩))) (PurX P (.indexAddr t (.const (.pointer (some ⟨b,o,none⟩))) (.const (.int k i))) ty K ()) ():=by
 refine AF (fun q h=>?_) rfl
 obtain⟨n,m⟩:=q
 rw[h] at h1
 obtain⟨e,h2,h3,h4,h5⟩:=K2 h
 have hr:=Lw (P:=P) t ty e b o n m k i h2 h3 h4 h5 h0 h1
 exact PureRun.pur hr K
@[go_sem] theorem bL (s t ty:TypeId) (k:IntKind) (n:Int) (K:Value→World→Prop) (w:World) :OpX P (.convert s t (.const (.int k n))) ty K w=OrK (H6 P s t) (fun k'=>K (.int k' (k'.wrap n)) w) (OpX P (.convert s t (.const (.int k n))) ty K w) ():=by
 refine AF (fun q h=>?_) rfl
 obtain⟨x,h1,h2⟩:=Option.bind_eq_some_iff.1 h
 have hr:=Kx (P:=P) s t ty k q n (by rw[h1];rfl) h2
 exact PureRun.op hr K w
@[go_sem] theorem ao (s t ty:TypeId) (k:IntKind) (n:Int) (K:Value→Prop) :PurX P (.convert s t (.const (.int k n))) ty K ()=OrK (H6 P s t) (fun k'=>K (.int k' (k'.wrap n))) (PurX P (.convert s t (.const (.int k n))) ty K ()) ():=by
 refine AF (fun q h=>?_) rfl
 obtain⟨x,h1,h2⟩:=Option.bind_eq_some_iff.1 h
 have hr:=Kx (P:=P) s t ty k q n (by rw[h1];rfl) h2
 exact PureRun.pur hr K
@[go_sem] theorem aC (s t:TypeId):H6 P s t=(Ag P s).bind fun _=>Cq P t:=rfl
attribute [go_sem] Option.getD_some
def ExX (P:Program) (ty:TypeId) (vs:Array Value) (i:Nat) (x:Option Value) (K:Value→World→Prop) (w:WK K):Prop :=
 match x with|some v=>K v w|none=>OpX P (.extract (.const (.tuple vs)) i) ty K w
@[go_sem] theorem SD (ty:TypeId) (vs:Array Value) (i:Nat) (v:Value) (K:Value→World→Prop) (w:World):ExX P ty vs i (some v) K w=K v w:=rfl
@[go_sem] theorem ah (ty:TypeId) (vs:Array Value) (i:Nat) (K:Value→World→Prop) (w:World):OpX P (.extract (.const (.tuple vs)) i) ty K w=ExX P ty vs i vs[i]? K w:=by
 cases h:vs[i]? with
 | none=>rfl
 | some v=>rw[SD];exact(KJ ty vs i v h).op K w
def ExQ (P:Program) (ty:TypeId) (vs:Array Value) (i:Nat) (x:Option Value) (K:Value→Prop) (u:UK K):Prop :=
 match x with|some v=>K v|none=>PurX P (.extract (.const (.tuple vs)) i) ty K u
@[go_sem] theorem Vk (ty:TypeId) (vs:Array Value) (i:Nat) (v:Value) (K:Value→Prop):ExQ P ty vs i (some v) K ()=K v:=rfl
@[go_sem] theorem aj (ty:TypeId) (vs:Array Value) (i:Nat) (K:Value→Prop):PurX P (.extract (.const (.tuple vs)) i) ty K ()=ExQ P ty vs i vs[i]? K ():=by
 cases h:vs[i]? with
 | none=>rfl
 | some v=>rw[Vk];exact(KJ ty vs i v h).pur K
def FnX (P:Program) (ty:TypeId) (fn:Fn) (xs ys:List Operand) (u v:Option (List (Nat × Value))) (K:Value→World→Prop) (w:WK K):Prop :=
 match u,v with|some us,some vs=>K (.func fn (us.map (·.2)).toArray (vs.map (·.2)).toArray) w|_,_=>OpX P (.makeFunc fn xs.toArray ys.toArray) ty K w
@[go_sem] theorem PO (ty:TypeId) (fn:Fn) (xs ys:List Operand) (us vs:List (Nat × Value)) (K:Value→World→Prop) (w:World):FnX P ty fn xs ys (some us) (some vs) K w=K (.func fn (us.map (·.2)).toArray (vs.map (·.2)).toArray) w:=rfl
theorem Ih:∀(xs:List Operand) (us:List (Nat × Value)),Bc (xs.map fun x=>(0,x))=some us→us=(us.map (·.2)).map fun v=>(0,v)
 | [],us,h=>by simp [Bc] at h;subst h;rfl
 | x::xs,us,h=>by
  cases x with
  | const v =>
   simp only[List.map_cons,Bc,Option.map_eq_some_iff] at h
   obtain⟨vs,hv,rfl⟩:=h
   have:=Ih xs vs hv
   simp only[List.map_cons]
   rw[←this]
  | _=>simp [Bc] at h
@[go_sem] theorem fX (ty:TypeId) (fn:Fn) (xs ys:List Operand) (K:Value→World→Prop) (w:World) :
  OpX P (.makeFunc fn xs.toArray ys.toArray) ty K w=FnX P ty fn xs ys (Bc (xs.map fun x=>(0,x))) (Bc (ys.map fun x=>(0,x))) K w:=by
 cases h:Bc (xs.map fun x=>(0,x)) with
 | none=>rfl
 | some us =>
  cases h2:Bc (ys.map fun x=>(0,x)) with
  | none=>rfl
  | some vs =>
   rw[PO]
   refine(Pv ty fn xs ys (us.map (·.2)) (vs.map (·.2)) ?_ ?_).op K w
   ·rw[h,←Ih _ _ h]
   ·rw[h2,←Ih _ _ h2]
def Ci:List Operand→Option (List Value)
 | []=>some []
 | .const v::r=>(Ci r).map (v::·)
 | _=>none
theorem Ea {ρ:Operand→Value} (hg:BB ρ):∀{l:List Operand} {vs:List Value},Ci l=some vs→l.map ρ=vs
 | [],vs,h=>by simp [Ci] at h;subst h;rfl
 | x::r,vs,h=>by
  cases x with
  | const v =>
   simp only[Ci,Option.map_eq_some_iff] at h
   obtain⟨us,hu,rfl⟩:=h
   simp [Ea hg hu,hg.1]
  | _=>simp [Ci] at h
theorem OpX.call {f:FuncId} {l:List Operand} {vs:List Value} {ats:Array TypeId} {ty:TypeId} {K:Value→World→Prop} {w:World} (hb:Ad P f) (hl:Ci l=some vs) (h:Calls P f vs.toArray w (Ac K)) :
  OpX P (.call { callee:=.value (.func f),args:=l.toArray,argTypes:=ats }) ty K w:=by
 refine⟨fun ρ hg=>?_⟩
 have:(execOp ρ (An (.call { callee:=.value (.func f),args:=l.toArray,argTypes:=ats }) ty)).run P w=.ok (.enter f vs.toArray) w:=by
  simp [execOp,An,resolve,invoke,hg.2.2,Deferred.ofValue,Ea hg hl,Fs hb]
 rw[this]
 exact h
theorem OpX.callV {f:FuncId} {us cs:List Value} {l:List Operand} {vs:List Value} {ats:Array TypeId} {ty:TypeId} {K:Value→World→Prop} {w:World} (hb:Ad P f) (hl:Ci l=some vs) (h:Calls P f (us++vs++cs).toArray w (Ac K)) :
  OpX P (.call { callee:=.value (.const (.func (.func f) us.toArray cs.toArray)),args:=l.toArray,argTypes:=ats }) ty K w:=by
 refine⟨fun ρ hg=>?_⟩
 have:(execOp ρ (An (.call { callee:=.value (.const (.func (.func f) us.toArray cs.toArray)),args:=l.toArray,argTypes:=ats }) ty)).run P w=.ok (.enter f (us++vs++cs).toArray) w:=by
  simp [execOp,An,resolve,invoke,hg.1,Deferred.ofValue,Ea hg hl,Fs hb]
 rw[this]
 exact h
theorem Calls.ret {f:FuncId} {args:Array Value} {w:World} {R:Value→World→Prop} {K:Value→World→Prop} (h:Calls P f args w (Ac R)) (hk:∀v w',R v w'→K v w'):Calls P f args w (Ac K) :=
 h.mono fun e w' he=>by cases e<;>first|exact hk _ _ he|exact he
end
structure Chg (F:List Nat) (w w':World):Prop where
 os:w'.os=w.os
 tape:w'.tape=w.tape
 output:w'.output=w.output
 size:w.heap.size≤w'.heap.size
 same:∀b,b<w.heap.size→b∉F→w'.heap[b]?=w.heap[b]?
theorem Chg.refl (F:List Nat) (w:World):Chg F w w:=⟨rfl,rfl,rfl,Nat.le_refl _,fun _ _ _=>rfl⟩
theorem Chg.trans {F F':List Nat} {a b c:World} (h:Chg F a b) (k:Chg F' b c) (hf:∀x∈F',x∈F∨a.heap.size≤x):Chg F a c :=
 ⟨k.os.trans h.os,k.tape.trans h.tape,k.output.trans h.output,Nat.le_trans h.size k.size,fun x hx hn=>by
  rw[k.same x (Nat.lt_of_lt_of_le hx h.size) fun hm=>(hf x hm).elim hn (fun hle=>absurd hx (by omega)),h.same x hx hn]⟩
theorem Chg.trans0 {F:List Nat} {a b c:World} (h:Chg F a b) (k:Chg [] b c):Chg F a c:=h.trans k (by simp)
theorem Chg.mono {F F':List Nat} {a b:World} (h:Chg F a b) (hf:∀x∈F,x∈F'∨a.heap.size≤x):Chg F' a b:=(Chg.refl F' a).trans h hf
theorem Chg.alloc {F:List Nat} {a b:World} (h:Chg F a b) (o:Obj):Chg F a (b.alloc o) :=
 h.trans (F':=[]) ⟨rfl,rfl,rfl,by simp,fun x hx _=>Wg b o x hx⟩ (by simp)
theorem Chg.drew {F:List Nat} {a b:World} (h:Chg F a b):Chg F a b.drew:=⟨h.os,h.tape,h.output,h.size,h.same⟩
theorem Chg.set {F:List Nat} {a b:World} (h:Chg F a b) (x:Nat) (o:Obj) (hx:x∈F∨a.heap.size≤x):Chg F a (Ab b x o) :=
 h.trans (F':=[x]) ⟨rfl,rfl,rfl,by rw[Dv];exact Nat.le_refl _,fun y _ hn=>AZ b x o y (by simpa using hn)⟩ (by simpa using hx)
theorem Chg.below {w w':World} (h:Chg [] w w'):Go.RowKit.Below w.heap.size w w':=⟨h.os,h.tape,h.output,h.size,fun k hk=>h.same k hk (by simp)⟩
theorem Chg.keep {F:List Nat} {w w':World} (h:Chg F w w') {b:Nat} {o:Obj} (hb:w.heap[b]?=some o) (hn:b∉F):w'.heap[b]?=some o:=(h.same b (Aa hb) hn).trans hb
theorem Dx {x:Option Obj} {o n:Nat} {l:List Value} (hl:l.length=n) (h0:0<n) (h:∀j,j<n→Av x (o+j)=l[j]?):AU x o n=some l.toArray:=by
 have h1:=h 0 h0
 have hl0:∃v,l[0]?=some v:=⟨l[0]'(by omega),by simp⟩
 obtain⟨v0,hl0⟩:=hl0
 rw[hl0] at h1
 cases x with
 | none=>simp [Av] at h1
 | some x =>
  cases x with
  | cells c e fr =>
   rw[Gm]
   have hle:o+n≤c.size:=by
    have:=h (n-1) (by omega)
    rw[CD] at this
    rcases Nat.lt_or_ge (o+(n-1)) c.size with h'|h'
    ·omega
    ·rw[Array.getElem?_eq_none h'] at this
     have:n-1<l.length:=by omega
     simp [this] at *
   rw[if_pos hle]
   congr 1
   apply Array.ext_getElem?
   intro i
   rcases Nat.lt_or_ge i n with hi|hi
   ·have:=h i hi
    rw[CD] at this
    rw[Array.getElem?_extract_of_lt (by omega),List.getElem?_toArray,←this]
    simp [show o+i<c.size by omega]
   ·rw[Array.getElem?_eq_none (by simp;omega),Array.getElem?_eq_none (by simp;omega)]
  | _=>simp [Av] at h1
noncomputable def Bk (p:Nat→Prop):Nat:=open Classical in if h:∃n,p n∧∀m,p m→n≤m then Classical.choose h else 0
theorem C9 {p:Nat→Prop} {n:Nat} (h:p n):p (Bk p)∧∀m,p m→Bk p≤m:=by
 have:∃n,p n∧∀m,p m→n≤m:=by
  induction n using Nat.strongRecOn with
  | ind n ih =>
   by_cases hh:∃m,m<n∧p m
   ·obtain⟨m,hm,hp⟩:=hh;exact ih m hm hp
   ·exact⟨n,h,fun m hm=>Nat.not_lt.mp fun hl=>hh ⟨m,hl,hm⟩⟩
 unfold Bk
 rw[dif_pos this]
 exact Classical.choose_spec this
theorem Join2.cutK {M:(Value→Value→World→Prop)→World→Prop} {K:Value→Value→World→Prop} {w:World} (R:Value→Value→World→Prop) (h:∀k:Value→Value→World→Prop,(∀u0 u1 w',R u0 u1 w'→k u0 u1 w')→M k w) (hk:∀u0 u1 w',R u0 u1 w'→K u0 u1 w'):Join2 M K w:=⟨R,h R (fun _ _ _ h=>h),hk⟩
theorem Loop0.st {body:(World→Prop)→World→Prop} {w:World} {St:Type} (I:St→World→Prop) (μ:St→Nat) (s:St) (h0:I s w)
  (round:∀(next:World→Prop) (s:St) (w:World),(∀s' w',I s' w'→μ s'<μ s→next w')→I s w→body next w):Loop0 body w:=by
 refine⟨fun w'=>∃s,(True)∧I s w',fun w'=>Bk fun n=>∃s,(True)∧I s w'∧μ s=n,⟨s,trivial,h0⟩,?_⟩
 rintro w ⟨sa,ha,hIa⟩
 obtain⟨⟨s,hs,hI,hm⟩,-⟩:=C9 (p:=fun n=>∃s,(True)∧I s w∧μ s=n) ⟨sa,ha,hIa,rfl⟩
 obtain -:=hs
 refine round _ s w (fun s' w' hI' hlt=>⟨⟨s',trivial,hI'⟩,?_⟩) hI
 rw[←hm]
 exact Nat.lt_of_le_of_lt ((C9 (p:=fun n=>∃s,_∧I s w'∧μ s=n) ⟨s',trivial,hI',rfl⟩).2 _ ⟨s',trivial,hI',rfl⟩) hlt
theorem Loop1.st {s0:Value} {body:Value→(Value→World→Prop)→World→Prop} {w:World} {St:Type} (f0:St→Value) (I:St→World→Prop) (μ:St→Nat) (s:St) (e0:s0=f0 s) (h0:I s w)
  (round:∀(next:Value→World→Prop) (s:St) (w:World),(∀s' w',I s' w'→μ s'<μ s→next (f0 s') w')→I s w→body (f0 s) next w):Loop1 s0 body w:=by
 refine⟨fun v0 w'=>∃s,(v0=f0 s∧True)∧I s w',fun v0 w'=>Bk fun n=>∃s,(v0=f0 s∧True)∧I s w'∧μ s=n,⟨s,⟨e0,trivial⟩,h0⟩,?_⟩
 rintro v0 w ⟨sa,ha,hIa⟩
 obtain⟨⟨s,hs,hI,hm⟩,-⟩:=C9 (p:=fun n=>∃s,(v0=f0 s∧True)∧I s w∧μ s=n) ⟨sa,ha,hIa,rfl⟩
 obtain⟨rfl,-⟩:=hs
 refine round _ s w (fun s' w' hI' hlt=>⟨⟨s',⟨rfl,trivial⟩,hI'⟩,?_⟩) hI
 rw[←hm]
 exact Nat.lt_of_le_of_lt ((C9 (p:=fun n=>∃s,_∧I s w'∧μ s=n) ⟨s',⟨rfl,trivial⟩,hI',rfl⟩).2 _ ⟨s',⟨rfl,trivial⟩,hI',rfl⟩) hlt
theorem Loop2.st {s0 s1:Value} {body:Value→Value→(Value→Value→World→Prop)→World→Prop} {w:World} {St:Type} (f0 f1:St→Value) (I:St→World→Prop) (μ:St→Nat) (s:St) (e0:s0=f0 s) (e1:s1=f1 s) (h0:I s w)
  (round:∀(next:Value→Value→World→Prop) (s:St) (w:World),(∀s' w',I s' w'→μ s'<μ s→next (f0 s') (f1 s') w')→I s w→body (f0 s) (f1 s) next w):Loop2 s0 s1 body w:=by
 refine⟨fun v0 v1 w'=>∃s,(v0=f0 s∧v1=f1 s∧True)∧I s w',fun v0 v1 w'=>Bk fun n=>∃s,(v0=f0 s∧v1=f1 s∧True)∧I s w'∧μ s=n,⟨s,⟨e0,e1,trivial⟩,h0⟩,?_⟩
 rintro v0 v1 w ⟨sa,ha,hIa⟩
 obtain⟨⟨s,hs,hI,hm⟩,-⟩:=C9 (p:=fun n=>∃s,(v0=f0 s∧v1=f1 s∧True)∧I s w∧μ s=n) ⟨sa,ha,hIa,rfl⟩
 obtain⟨rfl,rfl,-⟩:=hs
 refine round _ s w (fun s' w' hI' hlt=>⟨⟨s',⟨rfl,rfl,trivial⟩,hI'⟩,?_⟩) hI
 rw[←hm]
 exact Nat.lt_of_le_of_lt ((C9 (p:=fun n=>∃s,_∧I s w'∧μ s=n) ⟨s',⟨rfl,rfl,trivial⟩,hI',rfl⟩).2 _ ⟨s',⟨rfl,rfl,trivial⟩,hI',rfl⟩) hlt
theorem Loop4.st {s0 s1 s2 s3:Value} {body:Value→Value→Value→Value→(Value→Value→Value→Value→World→Prop)→World→Prop} {w:World} {St:Type} (f0 f1 f2 f3:St→Value) (I:St→World→Prop) (μ:St→Nat) (s:St) (e0:s0=f0 s) (e1:s1=f1 s) (e2:s2=f2 s) (e3:s3=f3 s) (h0:I s w)
  (round:∀(next:Value→Value→Value→Value→World→Prop) (s:St) (w:World),(∀s' w',I s' w'→μ s'<μ s→next (f0 s') (f1 s') (f2 s') (f3 s') w')→I s w→body (f0 s) (f1 s) (f2 s) (f3 s) next w):Loop4 s0 s1 s2 s3 body w:=by
 refine⟨fun v0 v1 v2 v3 w'=>∃s,(v0=f0 s∧v1=f1 s∧v2=f2 s∧v3=f3 s∧True)∧I s w',fun v0 v1 v2 v3 w'=>Bk fun n=>∃s,(v0=f0 s∧v1=f1 s∧v2=f2 s∧v3=f3 s∧True)∧I s w'∧μ s=n,⟨s,⟨e0,e1,e2,e3,trivial⟩,h0⟩,?_⟩
 rintro v0 v1 v2 v3 w ⟨sa,ha,hIa⟩
 obtain⟨⟨s,hs,hI,hm⟩,-⟩:=C9 (p:=fun n=>∃s,(v0=f0 s∧v1=f1 s∧v2=f2 s∧v3=f3 s∧True)∧I s w∧μ s=n) ⟨sa,ha,hIa,rfl⟩
 obtain⟨rfl,rfl,rfl,rfl,-⟩:=hs
 refine round _ s w (fun s' w' hI' hlt=>⟨⟨s',⟨rfl,rfl,rfl,rfl,trivial⟩,hI'⟩,?_⟩) hI
 rw[←hm]
 exact Nat.lt_of_le_of_lt ((C9 (p:=fun n=>∃s,_∧I s w'∧μ s=n) ⟨s',⟨rfl,rfl,rfl,rfl,trivial⟩,hI',rfl⟩).2 _ ⟨s',⟨rfl,rfl,rfl,rfl,trivial⟩,hI',rfl⟩) hlt
end Lyc
namespace Lyc
open Go Go.ChangeShapes Go.WideShapes Go.ChangeAt Go.RowKit Go.Deep
section
variable {H:Type} {enc:TypeId × Value→H} {P:Program}
theorem Js (hl:laidOutB P=true) {W W':World} (hb:Below W.heap.size W W') {sp:Nat→Bool}:∀{ts:List TypeId} {vs:List Value} {ds:List (DataW H)} {p:List MemPlace},
  ts.all (fun t=>P.readableRec t && decide (t<P.types.size))=true→DataW.TrodAll enc P W 0 (fun _=>true) true ts vs ds p→(∀x∈p,x.block<W.heap.size)→(∀x∈p,sp x.block=true) →
  DataW.TrodAll enc P W' 0 sp true ts vs ds p
 | [],[],[],_,_,h,_,_=>h
 | [],_::_,_,_,_,h,_,_=>h.elim
 | [],[],_::_,_,_,h,_,_=>h.elim
 | _::_,[],_,_,_,h,_,_=>h.elim
 | _::_,_::_,[],_,_,h,_,_=>h.elim
 | t::ts,v::vs,d::ds,_,ht,h,hlt,hs=>by
  obtain⟨p,q,h1,h2,rfl⟩:=h
  simp only[List.all_cons,Bool.and_eq_true,decide_eq_true_eq] at ht
  exact⟨p,q,WideElems.Trod_stays hl ht.1.1 ht.1.2 h1 (fun x hx=>hb.same (hlt x (by simp [hx]))) (fun x hx=>hs x (by simp [hx])),
   Js hl hb ht.2 h2 (fun x hx=>hlt x (by simp [hx])) (fun x hx=>hs x (by simp [hx])),rfl⟩
theorem UL {f:Func} {s:ChangeSpec} {apart fresh handsOn again:Bool} {W W':World} {args:Array Value} {ds gs:List (DataW H)} {before:List MemPlace} {tb:TypeId}
  (hl:laidOutB P=true) (hrt:f.resultTypes=#[tb]) (htb:P.underlying tb=some .bool)
  (hts:f.params.toList.all (fun t=>P.readableRec t && decide (t<P.types.size))=true)
  (hv:s.vars=[]) (hW:DataW.Whole enc P f.params.toList s.vars apart W args.toList ds gs before)
  (hspec:s.fn H (ds++gs)={ results:=[.lit (.bool true)],args:=ds }) (hb:Below W.heap.size W W') :
  s.post enc P f apart fresh handsOn again W args (.bool true) W':=by
 have hlt:∀x∈before,x.block<W.heap.size:=fun x hx=>by simpa using hW.lt x hx
 have hW':=hW
 obtain⟨p,q,hA,hV,rfl,hz,hn⟩:=hW
 rw[hv] at hV
 obtain⟨rfl,rfl⟩:=trodVars_none hV
 simp only[List.append_nil] at hlt hz hn hW'
 have hres:∀(b:Nat) (sp:Nat→Bool) (hd:Bool),DataW.TrodAll enc P W' b sp hd f.resultTypes.toList ((Value.bool true).resultList f.resultTypes.size) [.lit (.bool true)] []:=by
  intro b sp hd
  rw[hrt]
  exact trodAll_mk1 ⟨1,by simp [DataW.trod,Value.cells,htb]⟩
 have hargs:∀sp:Nat→Bool,(∀x∈p,sp x.block=true)→DataW.TrodAll enc P W' 0 sp true f.params.toList args.toList ds p:=fun sp hs=>Js hl hb hts hA hlt hs
 refine⟨ds,[],p,[],p,[],hW',?_,?_,?_,hb.frame _,fun _=>?_⟩
 ·rw[hspec];exact hres _ _ _
 ·rw[hspec];exact hargs _ (by simpa using hlt)
 ·rw[hspec,hv];exact rfl
 ·refine⟨ok_one hrt rfl (okWide_bool_mk htb true),[.lit (.bool true)]++ds,[],p,⟨[]++p,[],trodAll_append (hargs _ (fun _ _=>rfl)) (hres _ _ _),?_,by simp,?_,?_⟩,?_⟩
  ·rw[hv];exact rfl
  ·intro b off hp
   rw[hb.frozen (hlt _ hp)]
   exact hz b off hp
  ·intro ha
   simpa using hn ha
  ·intro x hx _
   exact hx
end
section
variable {H:Type} {enc:TypeId × Value→H} {P:Program}
theorem Y2 {C:Checked} {a:Assume} {os:Os} {f:FuncId} {fn:Func} {s:ChangeSpec} {conds:List PathCond} {apart fresh handsOn again:Bool} {tb:TypeId} {X:World→Prop}
  (hX:∀w w':World,w.heap=w'.heap→X w→X w')
  (own:ownKnob C.prog.godebug=none) (started:os.Started) (noInit:C.prog.inits.idxOf? f=none) (hfn:C.prog.funcs[f]?=some fn)
  (witness:∃(w:World) (tape:Tape) (i:Input),w.os=os∧(w.forCall tape i).Shaped C.prog∧i.vars=[]∧Input.okWide C.prog (w.forCall tape i) .any w.heap.size f i ∧
   ((s.pre enc C.prog fn conds apart (w.forCall tape i).memory i.args∧X (w.forCall tape i).memory)∧sizedMet enc C.prog fn (OpenSpec.ofChange s) apart (w.forCall tape i).memory i.args)∧a.holds C.prog (lone (Frame.enter C.prog f i.args .normal) [] (w.forCall tape i)))
  (hl:laidOutB C.prog=true) (hrt:fn.resultTypes=#[tb]) (htb:C.prog.underlying tb=some .bool)
  (hts:fn.params.toList.all (fun t=>C.prog.readableRec t && decide (t<C.prog.types.size))=true)
  (hv:s.vars=[]) (hspec:∀ds:List (DataW H),ds.length=fn.params.toList.length→s.fn H ds={ results:=[.lit (.bool true)],args:=ds })
  (contract:∀(W:World) (base:Nat) (args:Array Value) (ds:List (DataW H)) (p:List MemPlace),
   (∀(j:Nat) t v,fn.params[j]?=some t→args[j]?=some v→Value.okWide C.prog W .any base t v) →
   DataW.TrodAll enc C.prog W 0 (fun _=>true) true fn.params.toList args.toList ds p→X W →
   Calls C.prog f args W (Ac fun v w'=>v=.bool true∧Chg [] W w')) :
  ReturnsInHanded a C os f .any (fun w args=>(s.pre enc C.prog fn conds apart w args∧X w)∧sizedMet enc C.prog fn (OpenSpec.ofChange s) apart w args) (s.post enc C.prog fn apart fresh handsOn again):=by
 refine returnsInHanded_of_change_and (X:=fun w _=>X w) (fun w w' _ h hx=>hX w w' h hx) own started noInit hfn witness ?_
 intro W base args ds gs before hval hW hcnd hwt hx hah
 have hW':=hW
 obtain⟨p,q,hA,hV,hp,hfz,hnd⟩:=hW
 have hV':=hV
 rw[hv] at hV'
 obtain⟨rfl,rfl⟩:=trodVars_none hV'
 have hlen:ds.length=fn.params.toList.length:=by
  clear hval hW' hV hV' hp hfz hnd hcnd hwt hah
  generalize fn.params.toList=ts at hA
  generalize args.toList=vs at hA
  induction ts generalizing vs ds p with
  | nil=>cases vs<;>cases ds<;>first|rfl|exact hA.elim
  | cons t ts ih =>
   cases vs with
   | nil=>exact hA.elim
   | cons v vs =>
    cases ds with
    | nil=>exact hA.elim
    | cons d ds =>
     obtain⟨p,q,_,h2,_⟩:=hA
     simp [ih _ _ _ h2]
 refine(contract W base args ds p hval hA hx).mono fun e W' he=>?_
 cases e<;>first|exact he.elim|skip
 obtain⟨rfl,hc⟩:=he
 exact⟨_,rfl,UL hl hrt htb hts hv hW' (by rw[List.append_nil];exact hspec ds hlen) hc.below⟩
end
end Lyc
namespace Lyc
open Go
section
variable {P:Program}
attribute [go_sem] Int.cast_ofNat_Int beq_self_eq_true Bool.false_and Bool.true_and Bool.and_false Bool.and_true Bool.false_or Bool.true_or Bool.or_false Bool.or_true Bool.not_not
theorem F1 (a n:Int) (h:0<n):-n<a.tmod n∧a.tmod n<n:=⟨Int.lt_tmod_of_pos _ h,Int.tmod_lt_of_pos _ h⟩
theorem L3 {t:TypeId} (h:Ag P t=some 3):P.underlying t=some .string:=by
 unfold Ag at h
 cases hu:P.underlying t with
 | none=>rw[hu] at h;simp at h
 | some d=>rw[hu] at h;cases d<;>simp at h;rfl
theorem U8 (t ty:TypeId) (s:ByteArray) (k:IntKind) (i:Int) (h:Ag P t=some 3) (h0:0≤i) (h1:i≤s.size):PureRun P (.slice t (.const (.string s)) none (some (.const (.int k i))) none) ty (.string (s.extract 0 i.toNat)):=by
 refine⟨fun ρ hg w=>?_⟩
 simp [execOp,An,hg.1,Instr.sliceAt,Instr.slice,Instr.sliceBounds,Instr.sliceBound,asIntOf,run_underlying (L3 h),h0,h1]
theorem PJ (t ty:TypeId) (s:ByteArray) (k:IntKind) (i:Int) (h:Ag P t=some 3) (h0:0≤i) (h1:i≤s.size):PureRun P (.slice t (.const (.string s)) (some (.const (.int k i))) none none) ty (.string (s.extract i.toNat s.size)):=by
 refine⟨fun ρ hg w=>?_⟩
 simp [execOp,An,hg.1,Instr.sliceAt,Instr.slice,Instr.sliceBounds,Instr.sliceBound,asIntOf,run_underlying (L3 h),h0,h1]
def slo (o cap l n:Nat):Nat:=if cap=l then o else o+l*n
theorem CY {t:TypeId} {n:Nat} (h:AI P t=some n):∃e,P.underlying t=some (.slice e)∧Ak P e=some n:=by
 unfold AI at h
 cases hu:P.underlying t with
 | none=>rw[hu] at h;simp at h
 | some d=>rw[hu] at h;cases d<;>simp at h;exact⟨_,rfl,h⟩
theorem Gw (b o cap l n:Nat):(if cap=l then some (⟨b,o,none⟩:Addr) else some ((⟨b,o,none⟩:Addr).add (l*n)))=some ⟨b,slo o cap l n,none⟩:=by
 unfold slo
 split
 ·rfl
 ·rw[CG]
theorem Qy (t ty:TypeId) (a:Option Addr) (len cap n:Nat) (k:IntKind) (i:Int) (h:AI P t=some n) (h0:0≤i) (h1:i≤cap):PureRun P (.slice t (.const (.slice a len cap)) none (some (.const (.int k i))) none) ty (.slice a i.toNat cap):=by
 obtain⟨e,hu,hs⟩:=CY h
 refine⟨fun ρ hg w=>?_⟩
 cases a with
 | none=>simp [execOp,An,hg.1,Instr.sliceAt,Instr.slice,Instr.sliceBounds,Instr.sliceBound,asIntOf,run_underlying hu,Bh hs,h0,h1]
 | some a =>
  obtain⟨b,o,sp⟩:=a
  simp [execOp,An,hg.1,Instr.sliceAt,Instr.slice,Instr.sliceBounds,Instr.sliceBound,asIntOf,run_underlying hu,Bh hs,h0,h1,Addr.add]
theorem NX (t ty:TypeId) (b o len cap n:Nat) (k:IntKind) (i:Int) (h:AI P t=some n) (h0:0≤i) (h1:i≤len):PureRun P (.slice t (.const (.slice (some ⟨b,o,none⟩) len cap)) (some (.const (.int k i))) none none) ty (.slice (some ⟨b,slo o cap i.toNat n,none⟩) (len-i.toNat) (cap-i.toNat)):=by
 obtain⟨e,hu,hs⟩:=CY h
 refine⟨fun ρ hg w=>?_⟩
 simp [execOp,An,hg.1,Instr.sliceAt,Instr.slice,Instr.sliceBounds,Instr.sliceBound,asIntOf,run_underlying hu,Bh hs,h0,h1,Gw]
theorem J4 (t ty:TypeId) (b o len cap n:Nat) (k k':IntKind) (i j:Int) (h:AI P t=some n) (h0:0≤i) (h1:i≤j) (h2:j≤cap):PureRun P (.slice t (.const (.slice (some ⟨b,o,none⟩) len cap)) (some (.const (.int k i))) (some (.const (.int k' j))) none) ty (.slice (some ⟨b,slo o cap i.toNat n,none⟩) (j.toNat-i.toNat) (cap-i.toNat)):=by
 obtain⟨e,hu,hs⟩:=CY h
 refine⟨fun ρ hg w=>?_⟩
 have h3:0≤j:=by omega
 have h4:i≤(j.toNat:Int):=by omega
 simp [execOp,An,hg.1,Instr.sliceAt,Instr.slice,Instr.sliceBounds,Instr.sliceBound,asIntOf,run_underlying hu,Bh hs,h0,h2,h3,h4,Gw]
 intro hc;exact absurd hc (by omega)
@[go_sem] theorem aq (t ty:TypeId) (s:ByteArray) (k:IntKind) (i:Int) (K:Value→Prop) (h:Ag P t=some 3) (h0:0≤i) (h1:i≤s.size):PurX P (.slice t (.const (.string s)) none (some (.const (.int k i))) none) ty K ()=K (.string (s.extract 0 i.toNat)):=(U8 t ty s k i h h0 h1).pur K
@[go_sem] theorem fJ (t ty:TypeId) (s:ByteArray) (k:IntKind) (i:Int) (K:Value→World→Prop) (w:World) (h:Ag P t=some 3) (h0:0≤i) (h1:i≤s.size):OpX P (.slice t (.const (.string s)) (some (.const (.int k i))) none none) ty K w=K (.string (s.extract i.toNat s.size)) w:=(PJ t ty s k i h h0 h1).op K w
@[go_sem] theorem bE (t ty:TypeId) (a:Option Addr) (len cap:Nat) (k:IntKind) (i:Int) (K:Value→Prop) (h0:0≤i) (h1:i≤cap):PurX P (.slice t (.const (.slice a len cap)) none (some (.const (.int k i))) none) ty K ()=OrK (AI P t) (fun _=>K (.slice a i.toNat cap)) (PurX P (.slice t (.const (.slice a len cap)) none (some (.const (.int k i))) none) ty K ()) () :=
 AF (fun q h=>(Qy t ty a len cap q k i h h0 h1).pur K) rfl
@[go_sem] theorem aM (t ty:TypeId) (b o len cap:Nat) (k:IntKind) (i:Int) (K:Value→World→Prop) (w:World) (h0:0≤i) (h1:i≤len):OpX P (.slice t (.const (.slice (some ⟨b,o,none⟩) len cap)) (some (.const (.int k i))) none none) ty K w=OrK (AI P t) (fun n=>K (.slice (some ⟨b,slo o cap i.toNat n,none⟩) (len-i.toNat) (cap-i.toNat)) w) (OpX P (.slice t (.const (.slice (some ⟨b,o,none⟩) len cap)) (some (.const (.int k i))) none none) ty K w) () :=
 AF (fun q h=>(NX t ty b o len cap q k i h h0 h1).op K w) rfl
@[go_sem] theorem aG (t ty:TypeId) (b o len cap:Nat) (k:IntKind) (i:Int) (K:Value→Prop) (h0:0≤i) (h1:i≤len):PurX P (.slice t (.const (.slice (some ⟨b,o,none⟩) len cap)) (some (.const (.int k i))) none none) ty K ()=OrK (AI P t) (fun n=>K (.slice (some ⟨b,slo o cap i.toNat n,none⟩) (len-i.toNat) (cap-i.toNat))) (PurX P (.slice t (.const (.slice (some ⟨b,o,none⟩) len cap)) (some (.const (.int k i))) none none) ty K ()) () :=
 AF (fun q h=>(NX t ty b o len cap q k i h h0 h1).pur K) rfl
@[go_sem] theorem aH (t ty:TypeId) (b o len cap:Nat) (k k':IntKind) (i j:Int) (K:Value→World→Prop) (w:World) (h0:0≤i) (h1:i≤j) (h2:j≤cap):OpX P (.slice t (.const (.slice (some ⟨b,o,none⟩) len cap)) (some (.const (.int k i))) (some (.const (.int k' j))) none) ty K w=OrK (AI P t) (fun n=>K (.slice (some ⟨b,slo o cap i.toNat n,none⟩) (j.toNat-i.toNat) (cap-i.toNat)) w) (OpX P (.slice t (.const (.slice (some ⟨b,o,none⟩) len cap)) (some (.const (.int k i))) (some (.const (.int k' j))) none) ty K w) () :=
 AF (fun q h=>(J4 t ty b o len cap q k k' i j h h0 h1 h2).op K w) rfl
@[go_sem] theorem dQ (t ty:TypeId) (b o len cap:Nat) (k k':IntKind) (i j:Int) (K:Value→Prop) (h0:0≤i) (h1:i≤j) (h2:j≤cap):PurX P (.slice t (.const (.slice (some ⟨b,o,none⟩) len cap)) (some (.const (.int k i))) (some (.const (.int k' j))) none) ty K ()=OrK (AI P t) (fun n=>K (.slice (some ⟨b,slo o cap i.toNat n,none⟩) (j.toNat-i.toNat) (cap-i.toNat))) (PurX P (.slice t (.const (.slice (some ⟨b,o,none⟩) len cap)) (some (.const (.int k i))) (some (.const (.int k' j))) none) ty K ()) () :=
 AF (fun q h=>(J4 t ty b o len cap q k k' i j h h0 h1 h2).pur K) rfl
end
section
variable {P:Program}
abbrev AG:=List (Int × Value × Nat)
def Ar (kk:IntKind) (l:AG):Array MapEntry:=(l.map fun x=>(⟨.int kk x.1,x.2.1,x.2.2⟩:MapEntry)).toArray
def Bn:AG→Int→Nat→Option (Nat × Value)
 | [],_,_=>none
 | x::l,k,i=>if k=x.1 then some (i,x.2.1) else Bn l k (i+1)
def Bo:AG→Int→Option Value
 | [],_=>none
 | x::l,k=>if k=x.1 then some x.2.1 else Bo l k
def Cr:AG→Int→Value→Nat→AG
 | [],k,v,c=>[(k,v,c)]
 | x::l,k,v,c=>if k=x.1 then(k,v,x.2.2)::l else x::Cr l k v c
def Ch:AG→Int→AG
 | [],_=>[]
 | x::l,k=>if k=x.1 then l else x::Ch l k
theorem Iz (l:AG) (k:Int) (i:Nat):(Bn l k i).map (·.2)=Bo l k:=by
 induction l generalizing i with
 | nil=>rfl
 | cons x l ih=>unfold Bn Bo;split<;>simp [ih]
theorem WT (kk k2:IntKind) (l:AG) (k:Int) (i:Nat):Instr.findNow (.int k2) (.int kk k) (l.map fun x=>(⟨.int kk x.1,x.2.1,x.2.2⟩:MapEntry)) i=some (Bn l k i):=by
 induction l generalizing i with
 | nil=>rfl
 | cons x l ih =>
  simp only[List.map_cons,Instr.findNow,Instr.sameNow,Bn,if_true]
  by_cases h:k=x.1
  ·simp [h]
  ·have hb:(k == x.1)=false:=by simpa using h
   simp [h,hb,ih]
theorem S3 {l:AG} {k:Int} {j n:Nat} {u:Value} (h:Bn l k j=some (n,u)) (v:Value) (c:Nat):j≤n∧n-j<l.length∧Cr l k v c=l.modify (n-j) fun x=>(k,v,x.2.2):=by
 induction l generalizing j with
 | nil=>simp [Bn] at h
 | cons x l ih =>
  unfold Bn at h
  split at h
  ·rename_i hk
   simp at h
   obtain⟨rfl,-⟩:=h
   simp [Cr,hk]
  ·rename_i hk
   obtain⟨h1,h2,h3⟩:=ih h
   refine⟨by omega,by simp;omega,?_⟩
   have:n-j=(n-(j+1))+1:=by omega
   rw[this]
   simp [Cr,hk,h3]
theorem Nc {l:AG} {k:Int} {j n:Nat} {u:Value} (h:Bn l k j=some (n,u)):j≤n∧n-j<l.length∧Ch l k=l.eraseIdx (n-j):=by
 induction l generalizing j with
 | nil=>simp [Bn] at h
 | cons x l ih =>
  unfold Bn at h
  split at h
  ·rename_i hk
   simp at h
   obtain⟨rfl,-⟩:=h
   simp [Ch,hk]
  ·rename_i hk
   obtain⟨h1,h2,h3⟩:=ih h
   refine⟨by omega,by simp;omega,?_⟩
   have:n-j=(n-(j+1))+1:=by omega
   rw[this]
   simp [Ch,hk,h3]
theorem JN {l:AG} {k:Int} {j:Nat} (h:Bn l k j=none) (v:Value) (c:Nat):Cr l k v c=l++[(k,v,c)]∧Ch l k=l:=by
 induction l generalizing j with
 | nil=>simp [Cr,Ch]
 | cons x l ih =>
  unfold Bn at h
  split at h
  ·simp at h
  ·rename_i hk
   simp [Cr,Ch,hk,ih h]
theorem Uc {l:AG} {k:Int} {j n:Nat} {u:Value} (h:Bn l k j=some (n,u)):∃c,l[n-j]?=some (k,u,c):=by
 induction l generalizing j with
 | nil=>simp [Bn] at h
 | cons x l ih =>
  unfold Bn at h
  split at h
  ·rename_i hk
   simp at h
   obtain⟨rfl,rfl⟩:=h
   exact⟨x.2.2,by simp [hk]⟩
  ·obtain⟨c,hc⟩:=ih h
   obtain⟨h1,-,-⟩:=Nc h
   have:n-j=(n-(j+1))+1:=by omega
   exact⟨c,by rw[this];simpa using hc⟩
theorem PA {α β:Type} (f:α→β) (l:List α) (n:Nat):(l.map f).eraseIdx n=(l.eraseIdx n).map f:=by
 induction l generalizing n with
 | nil=>rfl
 | cons x l ih=>cases n<;>simp [ih]
def BO (P:Program) (t:TypeId):Option (IntKind × Value):=(P.underlying t).bind fun|.map k e=>(Cq P k).bind fun kk=>(AB P e).map fun z=>(kk,z)|_=>none
theorem E5 {t:TypeId} {kk:IntKind} {z:Value} (h:BO P t=some (kk,z)):∃k e,P.underlying t=some (.map k e)∧P.underlying k=some (.int kk)∧AB P e=some z:=by
 unfold BO at h
 cases hu:P.underlying t with
 | none=>rw[hu] at h;simp at h
 | some d =>
  rw[hu] at h
  cases d<;>first|(rename_i k e;dsimp only at h)|skip
  all_goals first|(simp at h;done)|skip
  rename_i k e
  cases hk:Cq P k with
  | none=>simp [hk] at h
  | some kk' =>
  cases hz:AB P e with
  | none=>simp [hk,hz] at h
  | some z' =>
  simp [hk,hz] at h
  obtain⟨rfl,rfl⟩:=h
  unfold Cq at hk
  cases hku:P.underlying k with
  | none=>rw[hku] at hk;simp at hk
  | some d =>
   rw[hku] at hk
   cases d<;>simp at hk
   subst hk
   exact⟨k,e,rfl,hku,hz⟩
theorem Ft {k:TypeId} {kk:IntKind} (h:P.underlying k=some (.int kk)) (b:Bool) (n:Int) (w:World):(Instr.checkKey b 10000 k (.int kk n)).run P w=.ok () w:=by
 show(Instr.checkKey b (9999+1) k (.int kk n)).run P w=.ok () w
 unfold Instr.checkKey
 simp [run_underlying h]
theorem Gl {k:TypeId} {kk:IntKind} (h:P.underlying k=some (.int kk)) (l:AG) (n:Int) (w:World):(Instr.findKey k (.int kk n) (Ar kk l).toList).run P w=.ok (Bn l n 0) w:=by
 unfold Instr.findKey Ar
 simp [run_underlying h,WT]
theorem DR {r c:Nat} {es:Array MapEntry} {w:World} (hc:w.heap[r]?=some (.map es c)):(getObj r).run P w=.ok (.map es c) w:=by
 simp [getObj,Sem.run,hc]
theorem FI {r c:Nat} {es:Array MapEntry} {o:Obj} {w:World} (hc:w.heap[r]?=some (.map es c)):(setObj r o).run P w=.ok () (Ab w r o):=by
 simp [setObj,Sem.run,Ab,hc]
theorem Zv {t ty:TypeId} (K:Value→World→Prop) (w:World):OpX P (.makeMap t none) ty K w=K (.map (some w.heap.size)) (w.alloc (.map #[] 0)):=by
 exact AW fun ρ hg=>by simp [execOp,An,Instr.makeMap,newObj,Sem.run]
attribute [go_sem] Zv
theorem Xl {t ty:TypeId} {kk:IntKind} {z:Value} {r c:Nat} {l:AG} {k:Int} {K:Value→World→Prop} {w:World} (ht:BO P t=some (kk,z)) (hh:w.heap[r]?=some (.map (Ar kk l) c)) :
  OpX P (.lookup t (.const (.map (some r))) (.const (.int kk k)) false) ty K w=K ((Bo l k).getD z) w:=by
 obtain⟨kt,e,h1,h2,h3⟩:=E5 ht
 refine AW fun ρ hg=>?_
 simp only[execOp,An,hg.1,Instr.lookup]
 simp [run_underlying h1,DR hh,Ft h2,Gl h2,Ds h3]
 rw[←Iz l k 0]
 cases hp:Bn l k 0<;>simp [Ds h3]
def CT (l:AG) (k:Int) (c:Nat):Nat:=if(Bo l k).isSome then c else c+1
theorem put_ok {t ty:TypeId} {kk:IntKind} {z:Value} {r c:Nat} {l:AG} {k:Int} {v:Value} {K:Value→World→Prop} {w:World} (ht:BO P t=some (kk,z)) (hh:w.heap[r]?=some (.map (Ar kk l) c)) :
  OpX P (.mapUpdate t (.const (.map (some r))) (.const (.int kk k)) (.const v)) ty K w=K undef (Ab w r (.map (Ar kk (Cr l k v c)) (CT l k c))):=by
 obtain⟨kt,e,h1,h2,h3⟩:=E5 ht
 refine Lv fun ρ hg=>?_
 simp only[execOp,An,hg.1,Instr.mapUpdate]
 simp [run_underlying h1,DR hh,Ft h2,Gl h2]
 have hf:=Iz l k 0
 cases hp:Bn l k 0 with
 | none =>
  rw[hp] at hf
  obtain⟨e1,-⟩:=JN hp v c
  simp [FI hh,CT,←hf,e1,Ar]
 | some x =>
  obtain⟨n,u⟩:=x
  rw[hp] at hf
  obtain⟨-,hn,e1⟩:=S3 hp v c
  obtain⟨c0,hk⟩:=Uc hp
  have hkey:((Option.map (fun x=>x.key) (Ar kk l)[n]?).getD (.int kk k))=.int kk k:=by
   simp [Ar] at hk ⊢
   simp [hk]
  have hm:(Ar kk l).modify n (fun e=>{ key:=.int kk k,val:=v,born:=e.born })=Ar kk (Cr l k v c):=by
   rw[e1]
   unfold Ar
   apply Array.ext'
   simp only[Array.toList_modify,Nat.sub_zero]
   apply List.ext_getElem?
   intro i
   simp only[List.getElem?_modify,List.getElem?_map]
   by_cases hi:n=i<;>simp [hi]<;>cases l[i]?<;>rfl
  simp [hkey,Instr.keyThatStays,Instr.sameBits]
  rw[hm,FI hh]
  simp [CT,←hf]
theorem RZ {t ty:TypeId} {ts:Array TypeId} {kk:IntKind} {z:Value} {r c:Nat} {l:AG} {k:Int} {K:Value→World→Prop} {w:World} (ht:BO P t=some (kk,z)) (hts:ts[0]?=some t) (hh:w.heap[r]?=some (.map (Ar kk l) c)) :
  OpX P (.call { callee:=.builtin .delete,args:=#[.const (.map (some r)),.const (.int kk k)],argTypes:=ts }) ty K w=K (.tuple #[]) (Ab w r (.map (Ar kk (Ch l k)) c)):=by
 obtain⟨kt,e,h1,h2,h3⟩:=E5 ht
 refine AW fun ρ hg=>?_
 simp only[execOp,An]
 simp [resolve,invoke,builtin,Builtin.delete_,hg.1,hts,run_underlying h1,DR hh,Ft h2,Gl h2]
 cases hp:Bn l k 0 with
 | none =>
  obtain⟨-,e1⟩:=JN hp .nilIface 0
  simp [FI hh,e1]
 | some x =>
  obtain⟨n,u⟩:=x
  obtain⟨-,hn,e1⟩:=Nc hp
  have hm:(Ar kk l).eraseIdxIfInBounds n=Ar kk (Ch l k):=by
   rw[e1]
   unfold Ar
   simp only[Nat.sub_zero] at hn ⊢
   have hn':n<((l.map fun x=>(⟨.int kk x.1,x.2.1,x.2.2⟩:MapEntry)).toArray).size:=by simpa using hn
   simp only[Array.eraseIdxIfInBounds,hn',dite_true]
   apply Array.ext'
   simp [PA]
  simp [hm,FI hh]
theorem XH {t ty:TypeId} {ts:Array TypeId} {kk:IntKind} {z:Value} {r c:Nat} {l:AG} {K:Value→World→Prop} {w:World} (ht:BO P t=some (kk,z)) (hts:ts[0]?=some t) (hh:w.heap[r]?=some (.map (Ar kk l) c)) :
  OpX P (.call { callee:=.builtin .len,args:=#[.const (.map (some r))],argTypes:=ts }) ty K w=K (.int .i64 l.length) w:=by
 obtain⟨kt,e,h1,h2,h3⟩:=E5 ht
 refine AW fun ρ hg=>?_
 simp only[execOp,An]
 simp [resolve,invoke,builtin,Builtin.len_,hg.1,hts,run_underlying h1,DR hh,goInt,Ar]
theorem Uo {kk:IntKind} {l l':AG} (h:Ar kk l=Ar kk l'):l=l':=by
 unfold Ar at h
 have h:=List.toArray_inj h
 induction l generalizing l' with
 | nil=>cases l'<;>simp at h ⊢
 | cons x l ih =>
  cases l' with
  | nil=>simp at h
  | cons y l' =>
   simp only[List.map_cons,List.cons.injEq] at h
   obtain⟨h1,h2⟩:=h
   obtain⟨x1,x2,x3⟩:=x
   obtain⟨y1,y2,y3⟩:=y
   simp at h1
   obtain⟨rfl,rfl,rfl⟩:=h1
   rw[ih (by rw[h2]) h2]
noncomputable def CI (kk:IntKind) (x:Option Obj):Option (AG × Nat):=open Classical in if h:∃p:AG × Nat,x=some (.map (Ar kk p.1) p.2) then some h.choose else none
@[go_sem] theorem dT (kk:IntKind) (l:AG) (c:Nat):CI kk (some (.map (Ar kk l) c))=some (l,c):=by
 unfold CI
 have h:∃p:AG × Nat,some (Obj.map (Ar kk l) c)=some (.map (Ar kk p.1) p.2):=⟨(l,c),rfl⟩
 rw[dif_pos h]
 have:=h.choose_spec
 generalize h.choose=p at this
 simp at this
 obtain⟨h1,h2⟩:=this
 rw[Uo h1,h2]
attribute [go_sem] Option.isSome_none Option.getD_some Option.getD_none
theorem Fc {kk:IntKind} {x:Option Obj} {p:AG × Nat} (h:CI kk x=some p):x=some (.map (Ar kk p.1) p.2):=by
 unfold CI at h
 split at h
 ·rename_i hh
  simp at h
  rw[←h]
  exact hh.choose_spec
 ·simp at h
def Cy (P:Program) (t:TypeId) (kk:IntKind):Option Value:=(BO P t).bind fun p=>if p.1=kk then some p.2 else none
theorem FF {t:TypeId} {kk:IntKind} {z:Value} (h:Cy P t kk=some z):BO P t=some (kk,z):=by
 unfold Cy at h
 cases ht:BO P t with
 | none=>rw[ht] at h;simp at h
 | some p =>
  obtain⟨a,b⟩:=p
  rw[ht] at h
  simp at h
  rw[h.1,h.2]
@[go_sem] theorem fp (t ty:TypeId) (kk:IntKind) (r:Nat) (k:Int) (K:Value→World→Prop) (w:World) :
  OpX P (.lookup t (.const (.map (some r))) (.const (.int kk k)) false) ty K w =
   OrK (Cy P t kk) (fun z=>OrK (CI kk w.heap[r]?) (fun p=>K ((Bo p.1 k).getD z) w) (OpX P (.lookup t (.const (.map (some r))) (.const (.int kk k)) false) ty K w) ()) (OpX P (.lookup t (.const (.map (some r))) (.const (.int kk k)) false) ty K w) () :=
 AF (fun z hz=>AF (fun p hp=>Xl (FF hz) (Fc hp)) rfl) rfl
@[go_sem] theorem dp (t ty:TypeId) (kk:IntKind) (r:Nat) (k:Int) (v:Value) (K:Value→World→Prop) (w:World) :
  OpX P (.mapUpdate t (.const (.map (some r))) (.const (.int kk k)) (.const v)) ty K w =
   OrK (Cy P t kk) (fun _=>OrK (CI kk w.heap[r]?) (fun p=>K undef (Ab w r (.map (Ar kk (Cr p.1 k v p.2)) (CT p.1 k p.2)))) (OpX P (.mapUpdate t (.const (.map (some r))) (.const (.int kk k)) (.const v)) ty K w) ()) (OpX P (.mapUpdate t (.const (.map (some r))) (.const (.int kk k)) (.const v)) ty K w) () :=
 AF (fun z hz=>AF (fun p hp=>put_ok (FF hz) (Fc hp)) rfl) rfl
@[go_sem] theorem aI (t t' ty:TypeId) (kk:IntKind) (r:Nat) (k:Int) (K:Value→World→Prop) (w:World) :
  OpX P (.call { callee:=.builtin .delete,args:=#[.const (.map (some r)),.const (.int kk k)],argTypes:=#[t,t'] }) ty K w =
   OrK (Cy P t kk) (fun _=>OrK (CI kk w.heap[r]?) (fun p=>K (.tuple #[]) (Ab w r (.map (Ar kk (Ch p.1 k)) p.2))) (OpX P (.call { callee:=.builtin .delete,args:=#[.const (.map (some r)),.const (.int kk k)],argTypes:=#[t,t'] }) ty K w) ()) (OpX P (.call { callee:=.builtin .delete,args:=#[.const (.map (some r)),.const (.int kk k)],argTypes:=#[t,t'] }) ty K w) () :=
 AF (fun z hz=>AF (fun p hp=>RZ (FF hz) rfl (Fc hp)) rfl) rfl
def EB (P:Program) (t:TypeId):Option IntKind:=(BO P t).map (·.1)
theorem Wf {t:TypeId} {kk:IntKind} (h:EB P t=some kk):∃z,BO P t=some (kk,z):=by
 unfold EB at h
 simp at h
 exact h
@[go_sem] theorem dF (t ty:TypeId) (r:Nat) (K:Value→World→Prop) (w:World) :
  OpX P (.call { callee:=.builtin .len,args:=#[.const (.map (some r))],argTypes:=#[t] }) ty K w =
   OrK (EB P t) (fun kk=>OrK (CI kk w.heap[r]?) (fun p=>K (.int .i64 p.1.length) w) (OpX P (.call { callee:=.builtin .len,args:=#[.const (.map (some r))],argTypes:=#[t] }) ty K w) ()) (OpX P (.call { callee:=.builtin .len,args:=#[.const (.map (some r))],argTypes:=#[t] }) ty K w) () :=
 AF (fun kk hk=>AF (fun p hp=>by obtain⟨z,hz⟩:=Wf hk;exact XH hz rfl (Fc hp)) rfl) rfl
end
section
variable {P:Program}
theorem Km {w w':World} {row:Option Nat} (h:w.grownBy w' row):Chg row.toList w w' :=
 ⟨h.os,h.tape,h.output,h.size,fun b hb hn=>h.block b hb (by cases row<;>simp_all)⟩
def BM (P:Program) (t:TypeId):Option (TypeId × Nat × Nat) :=
 (P.underlying t).bind fun
  | .slice e=>(P.info? e).bind fun i=>i.zero.bind fun z=>if z.cells.size=i.size∧0<i.size then some (e,i.size,i.bytes) else none
  | _=>none
theorem GD {t e:TypeId} {m by_:Nat} (h:BM P t=some (e,m,by_)):P.underlying t=some (.slice e)∧∃i z,P.info? e=some i∧i.zero=some z∧i.size=m∧i.bytes=by_∧z.cells.size=m∧0<m:=by
 unfold BM at h
 cases hu:P.underlying t with
 | none=>rw[hu] at h;simp at h
 | some d =>
  rw[hu] at h
  cases d<;>first|(rename_i e';dsimp only at h)|skip
  all_goals first|(simp at h;done)|skip
  rename_i e'
  cases hi:P.info? e' with
  | none=>simp [hi] at h
  | some i =>
   cases hz:i.zero with
   | none=>simp [hi,hz] at h
   | some z =>
    simp only[hi,hz,Option.bind_some] at h
    split at h
    ·rename_i hc
     simp at h
     obtain⟨rfl,rfl,rfl⟩:=h
     exact⟨rfl,i,z,hi,hz,rfl,rfl,hc.1,hc.2⟩
    ·simp at h
def Bg (z:List Value):Nat→List Value
 | 0=>[]
 | n+1=>z++Bg z n
@[go_sem] theorem eX (z:List Value):Bg z 0=[]:=rfl
@[go_sem] theorem Fv (z:List Value) (n:Nat):Bg z (n+1)=z++Bg z n:=rfl
theorem Ko (z:List Value) (n:Nat):(Bg z n).length=n*z.length:=by
 induction n with
 | zero=>simp [Bg]
 | succ n ih=>rw[Fv,List.length_append,ih,Nat.add_mul];omega
theorem YT (z:List Value) (n i:Nat) (h:i<n*z.length):(Bg z n)[i]?=z[i % z.length]?:=by
 induction n generalizing i with
 | zero=>omega
 | succ n ih =>
  rw[Fv]
  by_cases hi:i<z.length
  ·rw[List.getElem?_append_left hi,Nat.mod_eq_of_lt hi]
  ·rw[List.getElem?_append_right (by omega),ih (i-z.length) (by rw[Nat.add_mul] at h;omega)]
   rw[Nat.mod_eq_sub_mod (show i≥z.length by omega)]
theorem H8 (z:Array Value) (n s:Nat) (hs:z.size=s) (h0:0<s):(Array.range (n*s)).map (fun i=>z[i % z.size]!)=(Bg z.toList n).toArray:=by
 subst hs
 apply Array.ext_getElem?
 intro i
 have e2:(Bg z.toList n).toArray[i]?=(Bg z.toList n)[i]?:=by simp
 rw[e2]
 by_cases hi:i<n*z.size
 ·have hm:i % z.size<z.size:=Nat.mod_lt _ h0
  rw[YT _ _ _ (by rw[Array.length_toList];exact hi)]
  simp [hi,hm]
 ·rw[Array.getElem?_eq_none (by simpa using hi),List.getElem?_eq_none (by rw[Ko,Array.length_toList];omega)]
def tbs (P:Program) (t:TypeId):Option (TypeId × Nat × List Value) :=
 (P.underlying t).bind fun
  | .slice e=>(P.info? e).bind fun i=>i.zero.bind fun z=>if z.cells.size=i.size∧0<i.size then some (e,i.size,z.cells.toList) else none
  | _=>none
theorem FE {t e:TypeId} {m:Nat} {zs:List Value} (h:tbs P t=some (e,m,zs)):P.underlying t=some (.slice e)∧∃i z,P.info? e=some i∧i.zero=some z∧i.size=m∧z.cells.toList=zs∧z.cells.size=m∧0<m:=by
 unfold tbs at h
 cases hu:P.underlying t with
 | none=>rw[hu] at h;simp at h
 | some d =>
  rw[hu] at h
  cases d<;>first|(rename_i e';dsimp only at h)|skip
  all_goals first|(simp at h;done)|skip
  rename_i e'
  cases hi:P.info? e' with
  | none=>simp [hi] at h
  | some i =>
   cases hz:i.zero with
   | none=>simp [hi,hz] at h
   | some z =>
    simp only[hi,hz,Option.bind_some] at h
    split at h
    ·rename_i hc
     simp at h
     obtain⟨rfl,rfl,rfl⟩:=h
     exact⟨rfl,i,z,hi,hz,rfl,rfl,hc.1,hc.2⟩
    ·simp at h
def Cb (m:Nat):Nat→Nat→List (Nat × Nat)
 | 0,_=>[]
 | n+1,o=>(o,m)::Cb m n (o+m)
@[go_sem] theorem an (m o:Nat):Cb m 0 o=[]:=rfl
@[go_sem] theorem aZ (m n o:Nat):Cb m (n+1) o=(o,m)::Cb m n (o+m):=rfl
theorem Hy (m:Nat):∀(n o i:Nat) (x:Nat × Nat),(Cb m n o)[i]?=some x→some (o+i*m,m)=some x
 | 0,o,i,x,h=>by simp [Cb] at h
 | n+1,o,0,x,h=>by simpa [Cb] using h
 | n+1,o,i+1,x,h=>by
  have:=Hy m n (o+m) i x (by simpa [Cb] using h)
  rw[←this,Nat.add_mul];congr 2;omega
@[go_sem] theorem cd (t ty:TypeId) (n:Nat) (parts:List (Nat × Operand)) (K:Value→World→Prop) (w:World) (hn:0<n) (hn2:n≤1000) :
  OpX P (.buildSlice t n parts.toArray) ty K w=OrK ((tbs P t).bind fun q=>if q.2.1≤1000 then(Bc parts).bind fun vs=>(Cu (Cb q.2.1 n 0) (Bg q.2.2 n).toArray vs).map fun c=>(q.1,c) else none) (fun r=>K (.slice (some ⟨w.heap.size,0,none⟩) n n) (w.alloc (.cells r.2 r.1))) (OpX P (.buildSlice t n parts.toArray) ty K w) ():=by
 refine AF (fun r h=>?_) rfl
 obtain⟨⟨e,m,zs⟩,hq,h⟩:=Option.bind_eq_some_iff.1 h
 dsimp only at h
 split at h
 ·rename_i hm
  obtain⟨vs,hv,h⟩:=Option.bind_eq_some_iff.1 h
  obtain⟨c,hf,rfl⟩:=Option.map_eq_some_iff.1 h
  obtain⟨hu,i,z,hi,hz,hs,hzs,hzn,h0⟩:=FE hq
  subst hs
  have hle:n*i.size≤1000*1000:=Nat.mul_le_mul hn2 hm
  have hpos:0<n*i.size:=Nat.mul_pos hn h0
  refine AW fun ρ hg=>?_
  have hfill:=FH (fun j=>some (j*i.size,i.size)) (Cb i.size n 0) (fun j x hx=>by simpa using Hy _ _ _ _ _ hx) vs _ c hf
  rw[←hzs,←H8 z.cells n i.size hzn h0] at hfill
  have hp:=D8 hg hv
  have hr:=run_buildSlice (P:=P) w t e n (vs.toArray) c i z hu hi hz (by omega) (by omega) (by simpa using hfill)
  simp only[execOp,An,List.map_toArray,hp]
  rw[Sem.run_bind,hr]
  rfl
 ·simp at h
def tmk (P:Program) (t:TypeId):Option (TypeId × Nat × List Value × Nat):=(tbs P t).bind fun q=>(Ao P q.1).map fun b=>(q.1,q.2.1,q.2.2,b)
theorem Q5 {t ty e:TypeId} {m b:Nat} {zs:List Value} {kl kc:IntKind} {l c:Int} {K:Value→World→Prop} {w:World} (ht:tmk P t=some (e,m,zs,b)) (h0:0≤l) (hlc:l≤c)
  (hcells:c.toNat*m≤16777216) (hbytes:(b:Int)*c≤281474976710656) (h63:c≤9223372036854775807) :
  OpX P (.makeSlice t (.const (.int kl l)) (.const (.int kc c))) ty K w=K (.slice (some ⟨w.heap.size,0,none⟩) l.toNat c.toNat) (w.alloc (.cells (Bg zs c.toNat).toArray e)):=by
 obtain⟨⟨e',m',zs'⟩,hq,h⟩:=Option.bind_eq_some_iff.1 ht
 obtain⟨b',hb0,h⟩:=Option.map_eq_some_iff.1 h
 simp only[Prod.mk.injEq] at h
 obtain⟨rfl,rfl,rfl,rfl⟩:=h
 obtain⟨hu,i,z,hi,hz,hs,hzs,hzn,hm⟩:=FE hq
 have hb:i.bytes=b':=by
  unfold Ao at hb0
  rw[hi] at hb0
  simpa using hb0
 subst hs;subst hb
 have hr:=run_makeSlice (P:=P) (w:=w) t e' i z hu hi hz kl kc l c h0 hlc hcells hbytes h63
 have e1:madeCells z.cells (c.toNat*i.size)=(Bg zs' c.toNat).toArray:=by
  rw[←hzs,←H8 z.cells c.toNat i.size hzn hm]
  rfl
 rw[e1] at hr
 refine AW fun ρ hg=>?_
 simp [execOp,An,hg.1,hr]
theorem JK {t t' ty:TypeId} {m:Nat} {b o dl dc b' o' sl sc:Nat} {cs:List Value} {x':Obj} {K:Value→World→Prop} {w:World} (ht:AI P t=some m) (hl:cs.length=min sl dl*m)
  (hsrc:∀j u,cs[j]?=some u→Av w.heap[b']? (o'+j)=some u) (hok:AP cs=true) (hput:Az w.heap[b]? o cs=some x') :
  OpX P (.call { callee:=.builtin .copy,args:=#[.const (.slice (some ⟨b,o,none⟩) dl dc),.const (.slice (some ⟨b',o',none⟩) sl sc)],argTypes:=#[t,t'] }) ty K w=K (.int .i64 (min sl dl:Nat)) (Ab w b x'):=by
 obtain⟨e,hu,hs⟩:=CY ht
 have hf:=run_firstCells_some (P:=P) w m (min sl dl) ⟨b',o',none⟩ sl sc cs hl (fun j u hj=>by rw[CG,cell?_at];exact hsrc j u hj)
 have hst:=E2 (P:=P) hput hok
 refine AW fun ρ hg=>?_
 have hm:Nat.min sl dl=min sl dl:=rfl
 simp [execOp,An,resolve,invoke,builtin,hg.1,Builtin.copy_,run_underlying hu,Bh hs,Builtin.lenOf,goInt,hm,hf,hst]
end
section
variable {P:Program} {α:Type}
attribute [go_sem] Nat.mul_one
def BR:Option TypeId→TypeId→Bool
 | none,_=>true
 | some e,e'=>Nat.beq e e'
theorem Lh {e e':TypeId} (h:BR (some e) e'=true):e'=e:=(Nat.eq_of_beq_eq_true h).symm
structure Sx (w:World) (e:Option TypeId) (f:α→List Value) (a:Option Addr) (l:List α):Prop where
 at_:l≠[]→∃b o c e' fr pre post,a=some ⟨b,o,none⟩∧w.heap[b]?=some (.cells c e' fr)∧BR e e'=true∧c=(pre++l.flatMap f++post).toArray∧pre.length=o
theorem Sx.nil (w:World) (e:Option TypeId) (f:α→List Value) (a:Option Addr):Sx w e f a []:=⟨fun h=>absurd rfl h⟩
theorem Sx.untag {w:World} {e:Option TypeId} {f:α→List Value} {a:Option Addr} {l:List α} (h:Sx w e f a l):Sx w none f a l :=
 ⟨fun hl=>let ⟨b,o,c,e',fr,pre,post,h1,h2,_,h4⟩:=h.at_ hl;⟨b,o,c,e',fr,pre,post,h1,h2,rfl,h4⟩⟩
theorem Sx.chg {w w':World} {e:Option TypeId} {f:α→List Value} {a:Option Addr} {l:List α} {F:List Nat} (h:Sx w e f a l) (hc:Chg F w w') (hF:∀b o,a=some ⟨b,o,none⟩→l≠[]→b∉F):Sx w' e f a l :=
 ⟨fun hl=>let ⟨b,o,c,e',fr,pre,post,h1,h2,h3,h4⟩:=h.at_ hl;⟨b,o,c,e',fr,pre,post,h1,hc.keep h2 (hF b o h1 hl),h3,h4⟩⟩
theorem Sx.chg0 {w w':World} {e:Option TypeId} {f:α→List Value} {a:Option Addr} {l:List α} (h:Sx w e f a l) (hc:Chg [] w w'):Sx w' e f a l:=h.chg hc (by simp)
theorem Sx.lt {w:World} {e:Option TypeId} {f:α→List Value} {a:Option Addr} {l:List α} (h:Sx w e f a l) (hl:l≠[]) {b o:Nat} (ha:a=some ⟨b,o,none⟩):b<w.heap.size:=by
 obtain⟨b',o',c,e',fr,pre,post,h1,h2,_⟩:=h.at_ hl
 rw[ha] at h1;cases h1
 exact Aa h2
theorem Sx.ne {w:World} {e:TypeId} {f:α→List Value} {a:Option Addr} {l:List α} (h:Sx w (some e) f a l) {b o:Nat} (ha:a=some ⟨b,o,none⟩) (hl:l≠[]) {b':Nat} {c:Array Value} {e':TypeId} {fr:Nat × Nat} (hb:w.heap[b']?=some (.cells c e' fr)) (hne:Nat.beq e' e=false):b≠b':=by
 obtain⟨b2,o2,c2,e2,fr2,pre,post,h1,h2,h3,_⟩:=h.at_ hl
 rw[ha] at h1;cases h1
 rintro rfl
 rw[hb] at h2;cases h2
 rw[Lh h3] at hne
 simp at hne
theorem HR {f:α→List Value} {m:Nat} (hf:∀x,(f x).length=m):∀(l:List α) (i:Nat) (x:α),l[i]?=some x→∃pre post,l.flatMap f=pre++f x++post∧pre.length=i*m
 | [],i,x,h=>by simp at h
 | y::l,0,x,h=>by simp at h;subst h;exact⟨[],l.flatMap f,by simp,by simp⟩
 | y::l,i+1,x,h=>by
  obtain⟨pre,post,h1,h2⟩:=HR hf l i x (by simpa using h)
  exact⟨f y++pre,post,by simp [h1],by rw[List.length_append,hf,h2,Nat.add_mul];omega⟩
theorem AJ {f:α→List Value} {m:Nat} (hf:∀x,(f x).length=m) (l:List α):(l.flatMap f).length=l.length*m:=by
 induction l with
 | nil=>simp
 | cons x l ih=>simp [hf,ih,Nat.add_mul];omega
theorem HA (pre xs post:List Value) (e:TypeId) (fr:Nat × Nat) (o n:Nat) (ho:pre.length=o) (hn:xs.length=n):AU (some (.cells (pre++xs++post).toArray e fr)) o n=some xs.toArray:=by
 subst ho;subst hn
 rw[Gm,if_pos (by simp)]
 simp [List.extract_toArray]
theorem Cc {x:Option Obj} {o n:Nat} {c:Array Value} (h:AU x o n=some c) (j:Nat) (hj:j<n):Av x (o+j)=c[j]?:=by
 cases x with
 | none=>simp [AU] at h
 | some x =>
  cases x with
  | cells cs e fr =>
   rw[Gm] at h
   split at h
   ·rename_i hle
    cases h
    rw[CD,Array.getElem?_extract_of_lt (by omega)]
    simp [show o+j<cs.size by omega]
   ·simp at h
  | _=>simp [AU] at h
theorem Sx.get {w:World} {e:Option TypeId} {f:α→List Value} {a:Option Addr} {l:List α} {m:Nat} (h:Sx w e f a l) (hf:∀x,(f x).length=m) {i:Nat} {x:α} (hi:l[i]?=some x) :
  ∃b o,a=some ⟨b,o,none⟩∧b<w.heap.size∧AU w.heap[b]? (o+i*m) m=some (f x).toArray:=by
 have hl:l≠[]:=by rintro rfl;simp at hi
 obtain⟨b,o,c,e',fr,pre,post,h1,h2,h3,h4,h5⟩:=h.at_ hl
 refine⟨b,o,h1,Aa h2,?_⟩
 obtain⟨p,q,h6,h7⟩:=HR hf l i x hi
 rw[h2,h4,h6]
 have:pre++(p++f x++q)++post=(pre++p)++f x++(q++post):=by simp
 rw[this]
 exact HA _ _ _ _ _ _ _ (by simp [h5,h7]) (hf x)
theorem Sx.get1 {w:World} {e:Option TypeId} {f:α→List Value} {g:α→Value} {a:Option Addr} {l:List α} (h:Sx w e f a l) (hf:∀x,f x=[g x]) {i:Nat} {x:α} (hi:l[i]?=some x) :
  ∃b o,a=some ⟨b,o,none⟩∧b<w.heap.size∧Av w.heap[b]? (o+i)=some (g x):=by
 obtain⟨b,o,h1,h2,h3⟩:=h.get (m:=1) (fun x=>by simp [hf]) hi
 refine⟨b,o,h1,h2,?_⟩
 have:=Cc h3 0 (by omega)
 simp only[Nat.mul_one,Nat.add_zero] at this
 rw[this,hf];rfl
theorem Sx.sub {w:World} {e:Option TypeId} {f:α→List Value} {b o:Nat} {l:List α} {m:Nat} (h:Sx w e f (some ⟨b,o,none⟩) l) (hf:∀x,(f x).length=m) (i n:Nat) (a:Option Addr) (ha:n=0∨l.length≤i∨a=some ⟨b,o+i*m,none⟩):Sx w e f a ((l.drop i).take n):=by
 refine⟨fun hl=>?_⟩
 have hi:i<l.length∧n≠0:=by
  constructor
  ·apply Nat.lt_of_not_le;intro hle;apply hl;rw[List.drop_eq_nil_of_le hle];simp
  ·rintro rfl;simp at hl
 have ha:a=some ⟨b,o+i*m,none⟩:=by rcases ha with h|h|h<;>first|exact h|omega
 subst ha
 have hl':l≠[]:=by rintro rfl;simp at hi
 obtain⟨b',o',c,e',fr,pre,post,h1,h2,h3,h4,h5⟩:=h.at_ hl'
 cases h1
 refine⟨b,o+i*m,c,e',fr,pre++(l.take i).flatMap f,((l.drop i).drop n).flatMap f++post,rfl,h2,h3,?_,?_⟩
 ·rw[h4]
  congr 1
  have e1:l.flatMap f=(l.take i).flatMap f++((l.drop i).take n).flatMap f++((l.drop i).drop n).flatMap f:=by
   rw[←List.flatMap_append,←List.flatMap_append,List.append_assoc,List.take_append_drop,List.take_append_drop]
  rw[e1];simp
 ·simp only[List.length_append,h5,AJ hf,List.length_take]
  rw[Nat.min_eq_left (by omega)]
theorem Sx.cell {w:World} {e:Option TypeId} {f:α→List Value} {b o:Nat} {l:List α} (h:Sx w e f (some ⟨b,o,none⟩) l):∀j u,(l.flatMap f)[j]?=some u→Av w.heap[b]? (o+j)=some u:=by
 intro j u hj
 have hl:l≠[]:=by rintro rfl;simp at hj
 obtain⟨b',o',c,e',fr,pre,post,h1,h2,h3,h4,h5⟩:=h.at_ hl
 cases h1
 rw[h2,h4,CD]
 have hj':=(List.getElem?_eq_some_iff.1 hj).1
 rw[List.getElem?_toArray,List.append_assoc,List.getElem?_append_right (by omega),List.getElem?_append_left (by omega)]
 rw[←hj];congr 1;omega
def Ox (base:Nat) (w:World) (e:TypeId) (m:Nat) (f:α→List Value) (v:Value) (l:List α):Prop:=w.ownsRow base e m v l.length (l.flatMap f)
section
variable {base:Nat} {w w':World} {e:TypeId} {m:Nat} {f:α→List Value} {v:Value} {l:List α}
theorem Ox.nil (base:Nat) (w:World) (e:TypeId) (m:Nat) (f:α→List Value):Ox base w e m f (.slice none 0 0) []:=World.ownsRow_nil w base e m
theorem Ox.form (h:Ox base w e m f v l):∃a cap,v=.slice a l.length cap∧l.length≤cap∧Sx w (some e) f a l∧(∀b,some b=v.ownBlock→base≤b∧b<w.heap.size)∧(l≠[]→∃g,a=some ⟨g,0,none⟩∧base≤g∧g<w.heap.size):=by
 have hlt:∀b,some b=v.ownBlock→base≤b∧b<w.heap.size:=fun b hb=>h.lt b hb.symm
 obtain⟨hl,h⟩:=h
 rcases h with ⟨rfl,h0⟩|⟨g,cap,cur,rfl,hb,hg,hn,hm,hs,ht⟩
 ·have:l=[]:=List.eq_nil_of_length_eq_zero h0
  subst this
  exact⟨none,0,rfl,Nat.le_refl _,Sx.nil ..,by simp [Value.ownBlock],by simp⟩
 ·refine⟨some ⟨g,0,none⟩,cap,rfl,hn,⟨fun _=>⟨g,0,cur,e,(0,0),[],cur.toList.drop (l.length*m),rfl,hg,by simp [BR],?_,rfl⟩⟩,hlt,fun _=>⟨g,rfl,hb,Aa hg⟩⟩
  rw[←ht];simp
theorem Ox.blk (h:Ox base w e m f v l) (hl:l≠[]):∃nb cap sp,v=.slice (some ⟨nb,0,none⟩) l.length cap∧l.length≤cap∧base≤nb∧w.heap[nb]?=some (.cells (l.flatMap f++sp).toArray e):=by
 obtain⟨hl1,h⟩:=h
 rcases h with ⟨rfl,h0⟩|⟨g,cap,cur,rfl,hb,hg,hn,hm,hs,ht⟩
 ·exact absurd (List.eq_nil_of_length_eq_zero h0) hl
 ·refine⟨g,cap,cur.toList.drop (l.length*m),rfl,hn,hb,?_⟩
  rw[hg,←ht];simp
theorem Ox.chg {F:List Nat} (h:Ox base w e m f v l) (hc:Chg F w w') (hF:∀b,some b=v.ownBlock→b∉F):Ox base w' e m f v l:=by
 obtain⟨hl,h⟩:=h
 refine⟨hl,?_⟩
 rcases h with h|⟨g,cap,cur,rfl,hb,hg,hn,hm,hs,ht⟩
 ·exact .inl h
 ·exact .inr ⟨g,cap,cur,rfl,hb,hc.keep hg (hF g rfl),hn,hm,hs,ht⟩
theorem Ox.off (h:Ox base w e m f v l) {t:Nat} {c:Array Value} {e':TypeId} {fr:Nat × Nat} (ht:w.heap[t]?=some (.cells c e' fr)) (hne:Nat.beq e' e=false):v.ownBlock≠some t:=by
 obtain⟨hl,ho⟩:=h
 rcases ho with ⟨hv,-⟩|⟨g,cap,cur,hv,-,hg,-⟩
 ·rw[hv];simp [Value.ownBlock]
 ·rw[hv]
  simp only[Value.ownBlock,ne_eq,Option.some.injEq]
  rintro rfl
  rw[ht] at hg
  simp only[Option.some.injEq,Obj.cells.injEq] at hg
  rw[hg.2.1,Nat.beq_refl] at hne
  simp at hne
theorem Ox.own_ge (h:Ox base w e m f v l):∀x∈v.ownBlock.toList,base≤x:=by
 obtain⟨a,cap,hv,-,-,hb,-⟩:=h.form
 intro x hx
 exact(hb x (by cases hv':v.ownBlock with|none=>rw[hv'] at hx;simp at hx|some y=>rw[hv'] at hx;simp at hx;rw[hx])).1
theorem Ox.chg0 (h:Ox base w e m f v l) (hc:Chg [] w w'):Ox base w' e m f v l:=h.chg hc (by simp)
theorem Ox.low {F:List Nat} (h:Ox base w e m f v l) (hc:Chg F w w') (hF:∀x∈F,x<base):Ox base w' e m f v l :=
 h.chg hc fun b hb hm=>absurd (hF b hm) (by have:=h.lt b hb.symm;omega)
theorem Ox.base_le (h:Ox base w e m f v l) {base':Nat} (hb:base'≤base):Ox base' w e m f v l:=by
 obtain⟨hl,h⟩:=h
 refine⟨hl,?_⟩
 rcases h with h|⟨g,cap,cur,h1,h2,h3⟩
 ·exact .inl h
 ·exact .inr ⟨g,cap,cur,h1,by omega,h3⟩
theorem IF {w0:World} {F:List Nat} (h:Ox w0.heap.size w e m f v l) (hc:Chg F w0 w) (hc':Chg v.ownBlock.toList w w'):Chg F w0 w' :=
 hc.trans hc' fun x hx=>.inr (h.lt x (by cases hv:v.ownBlock<;>simp_all)).1
theorem Kl {w0:World} {F:List Nat} {b0:Nat} (h:Ox b0 w e m f v l) (h0:w0.heap.size≤b0) (hc:Chg F w0 w) (hc':Chg v.ownBlock.toList w w'):Chg F w0 w' :=
 IF (h.base_le h0) hc hc'
end
theorem CK {f:α→List Value} (hok:∀x,AP (f x)=true) (l:List α):AP (l.flatMap f)=true:=by
 induction l with
 | nil=>rfl
 | cons x l ih=>rw[List.flatMap_cons];simp only[AP,List.all_append,Bool.and_eq_true];exact⟨hok x,ih⟩
theorem BL {t ty e:TypeId} {m by_ base:Nat} {f:α→List Value} {v:Value} {l l2:List α} {a:Option Addr} {k c:Nat} {e':Option TypeId} {K:Value→World→Prop} {w:World}
  (ht:BM P t=some (e,m,by_)) (hf:∀x,(f x).length=m) (hok:∀x,AP (f x)=true) (h:Ox base w e m f v l) (hs:Sx w e' f a l2) (hk:k=l2.length)
  (hb:l.length+l2.length≤1000000000) (hby:by_≤100000) (hbase:base≤w.heap.size)
  (hK:∀v' w',Ox base w' e m f v' (l++l2)→Chg v.ownBlock.toList w w'→(v'.ownBlock=v.ownBlock∨v'.ownBlock=some w.heap.size)→K v' w') :
  OpX P (.call { callee:=.builtin .append,args:=#[.const v,.const (.slice a k c)],argTypes:=#[t,t] }) ty K w:=by
 subst hk
 have hml:(1000000000:Nat)≤maxLen:=by simp [maxLen]
 by_cases hl:l2=[]
 ·subst hl
  rw[List.append_nil] at hK
  cases a with
  | some a =>
   obtain⟨hu,i,z,hi,hz,hs',hby',hzs,hsz⟩:=GD ht
   have hr:=run_append_own_at (P:=P) w base t ty e i z m by_ hu hi hz hs' hby' hzs hsz v l.length _ h a 0 c [] (by simp) (by simp) (by simp) (by omega) (by
    have:=Nat.mul_le_mul (show l.length+0≤1000000000 by simp at hb;omega) hby;omega) hbase
   obtain⟨v',w',hr,h2,h3,_,h4⟩:=hr
   rw[AW (v:=v') (w':=w') fun ρ hg=>by simp [execOp,An,resolve,invoke,builtin,hg.1,hr]]
   exact hK _ _ (by unfold Ox;rw[List.append_nil] at h2;exact h2) (Km h3) h4
  | none =>
   obtain⟨hu,i,z,hi,hz,hs',hby',hzs,hsz⟩:=GD ht
   have hr:(Builtin.append_ #[t,t] ty #[v,.slice none 0 c]).run P w=.ok v w:=by
    rcases h.2 with ⟨rfl,hn⟩|⟨g,cap,cur,rfl,hb',hg,hn,hm,hs'',htk⟩
    ·have:l=[]:=List.eq_nil_of_length_eq_zero hn
     subst this
     simp [Builtin.append_,run_underlying hu,Go.sizeOf,typeInfo,hi,Builtin.lenOf,Builtin.firstCells]
    ·have hst:∀a:Addr,(storeCells a []).run P w=.ok () w:=fun a=>by simp [storeCells]
     simp [Builtin.append_,run_underlying hu,Go.sizeOf,typeInfo,hi,Builtin.lenOf,Builtin.firstCells,hn,hst]
   rw[AW (v:=v) (w':=w) fun ρ hg=>by simp [execOp,An,resolve,invoke,builtin,hg.1,hr]]
   exact hK _ _ h (Chg.refl _ _) (.inl rfl)
 ·obtain⟨b,o,c',e2,fr,pre,post,h1,h2,h3,h4,h5⟩:=hs.at_ hl
  subst h1
  obtain⟨hu,i,z,hi,hz,hs',hby',hzs,hsz⟩:=GD ht
  have hnews:∀j u,(l2.flatMap f)[j]?=some u→w.cell? ((⟨b,o,none⟩:Addr).add j)=some u:=by
   intro j u hj
   rw[CG,cell?_at,h2,h4,CD]
   have hj':=(List.getElem?_eq_some_iff.1 hj).1
   rw[List.getElem?_toArray,List.append_assoc,List.getElem?_append_right (by omega),List.getElem?_append_left (by omega)]
   rw[←hj];congr 1;omega
  obtain⟨v',w',hr,h6,h7,_,h8⟩:=run_append_own_at (P:=P) w base t ty e i z m by_ hu hi hz hs' hby' hzs hsz v l.length _ h ⟨b,o,none⟩ l2.length c (l2.flatMap f) (AJ hf l2) hnews (fun u hu=>List.all_eq_true.1 (CK hok l2) u hu) (by omega) (Nat.le_trans (Nat.mul_le_mul hb hby) (by omega)) hbase
  rw[AW (v:=v') (w':=w') fun ρ hg=>by simp [execOp,An,resolve,invoke,builtin,hg.1,hr]]
  refine hK v' w' ?_ (Km h7) h8
  unfold Ox
  rw[List.flatMap_append,List.length_append]
  exact h6
theorem Sx.built {w:World} {e:TypeId} {f:α→List Value} {l:List α} {c:List Value} {b:Nat} (h:w.heap[b]?=some (.cells c.toArray e)) (hc:c=l.flatMap f):Sx w (some e) f (some ⟨b,0,none⟩) l :=
 ⟨fun _=>⟨b,0,_,e,(0,0),[],[],rfl,h,by simp [BR],by simp [hc],rfl⟩⟩
theorem Ox.built {w:World} {base:Nat} {e:TypeId} {m:Nat} {f:α→List Value} {l:List α} {c:List Value} {b n cap:Nat} (h:w.heap[b]?=some (.cells c.toArray e (0,0))) (hf:∀x,(f x).length=m) (hb:base≤b) (hn:n=l.length) (hcap:cap=n) (hml:n≤1000000000) (hc:c=l.flatMap f):Ox base w e m f (.slice (some ⟨b,0,none⟩) n cap) l:=by
 subst hn;subst hcap;subst hc
 have h9:(1000000000:Nat)≤maxLen:=by simp [maxLen]
 exact⟨AJ hf l,.inr ⟨b,l.length,_,rfl,hb,h,Nat.le_refl _,by omega,by simp [AJ hf],List.take_of_length_le (by rw[AJ hf];exact Nat.le_refl _)⟩⟩
theorem Du {β:Type} {l:List β} {k:Nat} (h:k<l.length):l.take (k+1)=l.take k++[l[k]]:=by rw[List.take_add_one,List.getElem?_eq_getElem h];rfl
theorem Vo (pre xs ys post:List Value) (o:Nat) (ho:pre.length=o) (hl:ys.length=xs.length):spl (pre++xs++post).toArray o ys=(pre++ys++post).toArray:=by
 subst ho
 unfold spl
 simp [hl]
theorem DC (pre xs ys post:List Value) (e:TypeId) (o:Nat) (ho:pre.length=o) (hl:ys.length=xs.length):Az (some (.cells (pre++xs++post).toArray e (0,0))) o ys=some (.cells (pre++ys++post).toArray e):=by
 rw[CW,if_pos (by simp;omega),Vo pre xs ys post o ho hl]
theorem GR {f:α→List Value} {m:Nat} (hf:∀x,(f x).length=m):∀(l:List α) (i:Nat) (x y:α),l[i]?=some x→∃pre post,l.flatMap f=pre++f x++post∧pre.length=i*m∧(l.set i y).flatMap f=pre++f y++post
 | [],i,x,y,h=>by simp at h
 | z::l,0,x,y,h=>by simp at h;subst h;exact⟨[],l.flatMap f,by simp,by simp,by simp⟩
 | z::l,i+1,x,y,h=>by
  obtain⟨pre,post,h1,h2,h3⟩:=GR hf l i x y (by simpa using h)
  exact⟨f z++pre,post,by simp [h1],by rw[List.length_append,hf,h2,Nat.add_mul];omega,by simp [h3]⟩
theorem Ox.put {base:Nat} {w:World} {e:TypeId} {m:Nat} {f:α→List Value} {v:Value} {l:List α} (h:Ox base w e m f v l) (hf:∀x,(f x).length=m) {i:Nat} (hi:i<l.length) (y:α) :
  ∃g cap x',v=.slice (some ⟨g,0,none⟩) l.length cap∧base≤g∧g<w.heap.size∧Az w.heap[g]? (i*m) (f y)=some x'∧Ox base (Ab w g x') e m f v (l.set i y):=by
 obtain⟨hl,h⟩:=h
 rcases h with ⟨rfl,h0⟩|⟨g,cap,cur,rfl,hb,hg,hn,hm,hs,ht⟩
 ·omega
 ·obtain⟨pre,post,h1,h2,h3⟩:=GR hf l i l[i] y (by simp [hi])
  have hcur:cur=(pre++f l[i]++(post++cur.toList.drop (l.length*m))).toArray:=by
   have e1:cur.toList=l.flatMap f++cur.toList.drop (l.length*m):=by rw[←ht];simp
   apply Array.ext'
   rw[h1] at e1
   simpa using e1
  have hp:=DC pre (f l[i]) (f y) (post++cur.toList.drop (l.length*m)) e (i*m) h2 (by simp [hf])
  rw[←hcur] at hp
  refine⟨g,cap,_,rfl,hb,Aa hg,(by rw[hg];exact hp),?_⟩
  refine⟨by simp [AJ hf],.inr ⟨g,cap,_,by simp,hb,Au _ _ _ _ rfl (Aa hg),by simpa using hn,hm,?_,?_⟩⟩
  ·have:=congrArg Array.size hcur
   simp [hf] at this
   simp [hf]
   omega
  ·have hlen:(pre++f y++post).length=(l.set i y).length*m:=by rw[←h3,AJ hf]
   show(pre++f y++(post++cur.toList.drop (l.length*m))).take _=_
   rw[h3,←List.append_assoc,List.take_append_of_le_length (by omega),List.take_of_length_le (by omega)]
theorem OD {f:α→List Value} {z:α} {zs:List Value} (hz:f z=zs) (n:Nat):Bg zs n=(List.replicate n z).flatMap f:=by
 induction n with
 | zero=>rfl
 | succ n ih=>rw[Fv,List.replicate_succ,List.flatMap_cons,hz,ih]
theorem Kv {t ty e:TypeId} {m by_ base:Nat} {zs:List Value} {f:α→List Value} (z:α) {n:Nat} {K:Value→World→Prop} {w:World} (ht:tmk P t=some (e,m,zs,by_)) (hf:∀x,(f x).length=m) (hz:f z=zs)
  (hn:n≤100000) (hm:m≤100) (hby:by_≤100000) (hbase:base≤w.heap.size)
  (hK:∀w',w'=w.alloc (.cells (Bg zs n).toArray e)→Ox base w' e m f (.slice (some ⟨w.heap.size,0,none⟩) n n) (List.replicate n z)→K (.slice (some ⟨w.heap.size,0,none⟩) n n) w') :
  OpX P (.makeSlice t (.const (.int .i64 n)) (.const (.int .i64 n))) ty K w:=by
 have h1:n*m≤100000*100:=Nat.mul_le_mul hn hm
 have h2:(by_:Int)*(n:Int)≤100000*100000:=by
  have:=Nat.mul_le_mul hby hn
  rw[←Int.natCast_mul];omega
 rw[Q5 ht (by omega) (Int.le_refl _) (by simpa using Nat.le_trans h1 (by omega)) (by omega) (by omega)]
 simp only[Int.toNat_natCast]
 refine hK _ rfl (Ox.built (c:=Bg zs n) (heap_alloc_new _ _ _ rfl) hf hbase (by simp) rfl (by omega) (OD hz n))
theorem Rq {t t' ty e:TypeId} {m base:Nat} {f:α→List Value} {v:Value} {l l2:List α} {a:Option Addr} {k c:Nat} {e':Option TypeId} {K:Value→World→Prop} {w:World}
  (ht:AI P t=some m) (hf:∀x,(f x).length=m) (hok:∀x,AP (f x)=true) (h:Ox base w e m f v l) (hs:Sx w e' f a l2) (hk:k=l2.length) (hlen:l2.length=l.length)
  (hK:∀w',Ox base w' e m f v l2→Chg v.ownBlock.toList w w'→K (.int .i64 l2.length) w') :
  OpX P (.call { callee:=.builtin .copy,args:=#[.const v,.const (.slice a k c)],argTypes:=#[t,t'] }) ty K w:=by
 subst hk
 obtain⟨e0,hu,hsz⟩:=CY ht
 by_cases hl:l2=[]
 ·subst hl
  have hl0:l=[]:=List.eq_nil_of_length_eq_zero hlen.symm
  subst hl0
  obtain⟨a',cap,rfl,_⟩:=h.form
  have hst:∀a:Addr,(storeCells a []).run P w=.ok () w:=fun a=>by simp [storeCells]
  have hr:((execOp (fun|.const v=>v|.global g=>.pointer (some ⟨g,0,none⟩)|.func f=>.func (.func f) #[] #[]|.tmp _=>undef) (An (.call { callee:=.builtin .copy,args:=#[.const (.slice a' 0 cap),.const (.slice a 0 c)],argTypes:=#[t,t'] }) ty)).run P w)=.ok (.value (.int .i64 0)) w:=by
   have hlc:∀a:Addr,(loadCells a 0).run P w=.ok #[] w:=fun a=>by simp [loadCells,loadCellsFrom]
   cases a<;>cases a'<;>simp [execOp,An,resolve,invoke,builtin,Builtin.copy_,run_underlying hu,Bh hsz,Builtin.lenOf,goInt,Builtin.firstCells,hst,hlc]
  rw[AW (v:=.int .i64 0) (w':=w) fun ρ hg=>by
   have hlc:∀a:Addr,(loadCells a 0).run P w=.ok #[] w:=fun a=>by simp [loadCells,loadCellsFrom]
   cases a<;>cases a'<;>simp [execOp,An,resolve,invoke,builtin,hg.1,Builtin.copy_,run_underlying hu,Bh hsz,Builtin.lenOf,goInt,Builtin.firstCells,hst,hlc]]
  exact hK w h (Chg.refl _ _)
 ·obtain⟨b,o,c',e2,fr,pre,post,h1,h2,h3,h4,h5⟩:=hs.at_ hl
  subst h1
  have h0:=h
  obtain⟨hl1,h⟩:=h
  rcases h with ⟨rfl,h9⟩|⟨g,cap,cur,rfl,hb,hg,hn,hm,hsz',htk⟩
  ·exact absurd (List.eq_nil_of_length_eq_zero (by omega)) hl
  ·have hcur:cur.toList=l.flatMap f++cur.toList.drop (l.length*m):=by rw[←htk];simp
   have hp:=DC [] (l.flatMap f) (l2.flatMap f) (cur.toList.drop (l.length*m)) e 0 rfl (by rw[AJ hf,AJ hf,hlen])
   rw[List.nil_append,←hcur] at hp
   have hmin:min l2.length l.length=l2.length:=by omega
   rw[JK (cs:=l2.flatMap f) (x':=_) ht (by rw[AJ hf,hmin]) ?_ (CK hok l2) (by rw[hg];exact hp)]
   ·rw[hmin]
    refine hK _ ⟨AJ hf l2,.inr ⟨g,cap,_,by rw[hlen],hb,Au _ _ _ _ rfl (Aa hg),by omega,hm,?_,?_⟩⟩ ((Chg.refl _ _).set _ _ (by simp [Value.ownBlock]))
    ·have:=congrArg List.length hcur
     simp [AJ hf] at this
     simp [AJ hf,hlen]
     omega
    ·simp [AJ hf]
   ·intro j u hj
    rw[h2,h4,CD]
    have hj':=(List.getElem?_eq_some_iff.1 hj).1
    rw[List.getElem?_toArray,List.append_assoc,List.getElem?_append_right (by omega),List.getElem?_append_left (by omega)]
    rw[←hj];congr 1;omega
end
end Lyc
namespace Lyc
open Go Go.ChangeShapes Go.WideShapes Go.ChangeAt Go.RowKit Go.Deep
def Cs (n:Int):List Value:=[.int .i64 n]
theorem Qz (n:Int):(Cs n).length=1:=rfl
theorem V2 (n:Int):AP (Cs n)=true:=rfl
section
variable {α:Type}
end
section
variable {H:Type} {enc:TypeId × Value→H} {P:Program} {w:World} {base:Nat} {held:Bool}
structure IRow where
 a:Option Addr
 cap:Nat
 zs:List Int
def IRow.f (r:IRow):List Value:=[.slice r.a r.zs.length r.cap]
end
section
variable {H:Type} {enc:TypeId × Value→H} {P:Program} {w:World} {base:Nat} {spare:Nat→Bool} {held:Bool}
end
end Lyc
namespace Lyc
open Go
def Aj (M:World→Prop) (w:WK M):Prop:=M w.drew
@[go_sem] theorem bw (M:World→Prop) (w:World):Aj M w=M w.drew:=rfl
theorem Q3 {P:Program} {f:FuncId} {fn:Func} {K:Value→World→Prop} {w:World} (args:List Value) (hs:Et) (hm:P.follows .mixedOrders=true) (hf:P.funcs[f]?=some fn)
  (hb:fn.body.isSome=true) (hN:(wfc fn.ntmps (fn.body.getD .skip) && Nat.ble fn.ntmps DK)=true) (ha:Nat.ble args.length fn.ntmps=true) {X:Prop} (hX:X=tr P true hs (fn.body.getD .skip) 0 (Ht P fn.results.toList K) (Gj args) w) (h:X) :
  Calls P f args.toArray w (Ac K):=by
 cases hc:fn.body with
 | none=>rw[hc] at hb;simp at hb
 | some c =>
  have e:fn.body.getD .skip=c:=by rw[hc];rfl
  rw[e] at hN hX
  simp only[Bool.and_eq_true] at hN
  exact TQ hm hf hc hN.1 (Nat.le_of_ble_eq_true hN.2) (Nat.le_of_ble_eq_true ha) (hX ▸ h)
end Lyc
namespace Go.Proofs.YtelplojmbjnplaaGreatDoor
open Lyc Go
theorem mixed:Tryz.prog.follows .mixedOrders=true:=by kernel_rfl
@[go_sem] def xL (t:TypeId) (a:Value) (k:Value→World→Prop) (w:WK k):Prop:=OpX Tryz.prog (.load t (.const a)) t k w
@[go_sem] def xS (t:TypeId) (a b:Value) (r:World→Prop) (w:WK r):Prop:=OpX Tryz.prog (.store t (.const a) (.const b)) 0 (fun _=>r) w
@[go_sem] def xF (t:TypeId) (a:Value) (i:Nat) (k:Value→World→Prop) (w:WK k):Prop:=OpX Tryz.prog (.fieldAddr t (.const a) i) 0 k w
@[go_sem] def xI (t:TypeId) (a b:Value) (k:Value→World→Prop) (w:WK k):Prop:=OpX Tryz.prog (.indexAddr t (.const a) (.const b)) 0 k w
@[go_sem] def xB (t:TypeId) (a:Value) (k:Value→World→Prop) (w:WK k):Prop:=OpX Tryz.prog (.box t (.const a)) 0 k w
@[go_sem] def xA (t:TypeId) (k:Value→World→Prop) (w:WK k):Prop:=OpX Tryz.prog (.alloc t) 0 k w
@[go_sem] def xE (a:Value) (i:Nat) (t:TypeId) (k:Value→World→Prop) (w:WK k):Prop:=OpX Tryz.prog (.extract (.const a) i) t k w
@[go_sem] def xN (t:TypeId) (a:Value) (k:Value→World→Prop) (w:WK k):Prop:=OpX Tryz.prog (.unOp .not t (.const a)) t k w
@[go_sem] def xC (f:FuncId) (l:List Operand) (ts:List TypeId) (t:TypeId) (k:Value→World→Prop) (w:WK k):Prop:=OpX Tryz.prog (.call { callee:=.value (.func f),args:=l.toArray,argTypes:=ts.toArray }) t k w
@[go_sem] def xU (a:Value) (t:TypeId) (k:Value→World→Prop) (w:WK k):Prop:=OpX Tryz.prog (.call { callee:=.builtin .len,args:=#[.const a],argTypes:=#[t] }) 3 k w
@[go_sem] def xO (op:BinOp) (t:TypeId) (a b:Value) (k:Value→World→Prop) (w:WK k):Prop:=BinX Tryz.prog op t a b k w
@[go_sem] def xK (op:BinOp) (t:TypeId) (a:Value) (k:Value→World→Prop) (w:WK k):Prop:=BinN Tryz.prog op t a k w
@[go_sem] def xW (v:Value) (A B:World→Prop) (w:WK2 A B):Prop:=BrW v (A w) (B w) ()
@[go_sem] def qP (op:BinOp) (t:TypeId) (a b:Value) (k:Value→World→Prop) (w:WK k):Prop:=PurB Tryz.prog op t a b (fun v=>k v w) ()
@[go_sem] def qR (op:BinOp) (t:TypeId) (a b:Value) (k:Value→World→Prop) (w:WK k):Prop:=RdB Tryz.prog op t a b (fun v=>k v w) w
@[go_sem] def qL (t:TypeId) (a:Value) (k:Value→World→Prop) (w:WK k):Prop:=RdX Tryz.prog (.load t (.const a)) t (fun v=>k v w) w
@[go_sem] def qZ (t:TypeId) (a v:Value) (w:World):Prop:=Yld Tryz.prog (.load t (.const a)) t v w
@[go_sem] def qF (t:TypeId) (a:Value) (i:Nat) (k:Value→World→Prop) (w:WK k):Prop:=PurX Tryz.prog (.fieldAddr t (.const a) i) 0 (fun v=>k v w) ()
@[go_sem] def xP (op:Op) (t:TypeId) (k:Value→World→Prop) (w:WK k):Prop:=PurX Tryz.prog op t (fun v=>k v w) ()
@[go_sem] def xR (op:Op) (t:TypeId) (k:Value→World→Prop) (w:WK k):Prop:=RdX Tryz.prog op t (fun v=>k v w) w
@[go_sem] def xT (A B:World→Prop) (w:WK2 A B):Prop:=A w∧B w
@[go_sem] def xD (t:TypeId) (a:Value) (k:Value→World→Prop) (w:WK k):Prop:=LdR Tryz.prog t a k w
abbrev Lk (n:FuncId) (args:Array Value) (f:(Value→World→Prop)→World→Prop):Prop :=
 ∀{R:Value→World→Prop} {w:World},(∀K:Value→World→Prop,(∀v w',R v w'→K v w')→f K w)→Calls Tryz.prog n args w (Ac R)
theorem lk {n:FuncId} {fn:Func} {f:(Value→World→Prop)→World→Prop} (args:List Value) (hs:Et) (hf:Tryz.prog.funcs[n]?=some fn)
  (hb:(fn.body.isSome && (wfc fn.ntmps (fn.body.getD .skip) && Nat.ble fn.ntmps DK) && Nat.ble args.length fn.ntmps)=true:=by kernel_rfl)
  (hX:∀(K:Value→World→Prop) (w:World),f K w=tr Tryz.prog true hs (fn.body.getD .skip) 0 (Ht Tryz.prog fn.results.toList K) (Gj args) w:=by intro _ _;kernel_rfl):Lk n args.toArray f:=by
 intro R w h
 rw[Bool.and_eq_true,Bool.and_eq_true] at hb
 exact Q3 args hs mixed hf hb.1.1 hb.1.2 hb.2 (hX R w) (h R fun _ _ h=>h)
theorem bd {n:FuncId} {fn:Func} (hf:Tryz.prog.funcs[n]?=some fn) (hb:(fn.body.isNone || fn.name == "runtime.NumGoroutine")=false:=by kernel_rfl):Ad Tryz.prog n:=by
 rw[Bool.or_eq_false_iff] at hb
 exact⟨fn,hf,hb.1,hb.2⟩
end Go.Proofs.YtelplojmbjnplaaGreatDoor
namespace Lyc
open Go
section
variable {P:Program}
def EY (P:Program):List Field→Option (List (Nat × Nat))
 | []=>some []
 | f::fs=>if f.name = "_" then none else(Ag P f.type).bind fun k=>(Al P f.type).bind fun b=>bif b then none else if k=8∨k=9∨k=3 then(EY P fs).map ((f.offset,k)::·) else none
def BU (P:Program) (t:TypeId):Option (List (Nat × Nat)) :=
 (P.underlying t).bind fun|.struct fs=>if P.stoodInHeld t || P.eqGuardType P.depth t then none else EY P fs.toList|_=>none
end
end Lyc
