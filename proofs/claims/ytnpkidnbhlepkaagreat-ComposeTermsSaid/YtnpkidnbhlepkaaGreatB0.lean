/- Helpers of this claim, part 0: engine, translated functions, contracts, plain laws. -/
import Derived.WalkKit
import Derived.WalkSpells
import Derived.WalkLawsBesides
import Derived.Conc.LoneSelect
import Derived.ProofKit
import Derived.Deep.Slices
import Derived.Deep.Fields
import Derived.ChangeSame
import Derived.Laws.OwnMore
import Derived.Laws.AppendOwn
import Derived.Great.BuildSlice
import Derived.Laws.MakeOwn
import Derived.Laws.AppendOwnNone
import Derived.Maps.AppendAt
import Derived.Deep.Matrix
import Derived.OpenShut
import Derived.Test.YtnpkidnbhlepkaaGreatProg
set_option linter.unusedSimpArgs false
set_option linter.unusedVariables false
namespace Lyc
theorem O{p:Prop}(h:p:=by omega):p:=h
theorem Z{p:Prop}(h:p:=by simp):p:=h
theorem rC{p:Prop}(h:p:=by decide):p:=h
theorem su{p:Prop}[Decidable p](h:p):Go.Value.bool true=.bool (decide p):=congrArg _ (decide_eq_true h).symm
theorem sv{p:Prop}[Decidable p](h:¬p):Go.Value.bool false=.bool (decide p):=congrArg _ (decide_eq_false h).symm
theorem sw{p q:Prop}[Decidable p][Decidable q](h:p↔q):Go.Value.bool (decide p)=.bool (decide q):=congrArg _ (decide_eq_decide.2 h)
theorem rF.{u}{c:Prop}{h:Decidable c}(n:¬c){α:Sort u}{t e:α}:(if c then t else e)=e:=if_neg n
theorem rG.{u}{c:Prop}{h:Decidable c}(n:c){α:Sort u}{t e:α}:(if c then t else e)=t:=if_pos n
theorem rH(n:Nat):n≤n:=Nat.le_refl n
theorem rI.{u}{α:Type u}{l:List α}{i:Nat}(h:i<l.length):l[i]?=some l[i]:=List.getElem?_eq_getElem h
theorem rJ.{u}{α:Type u}(a b c:List α):a++b++c=a++(b++c):=List.append_assoc a b c
theorem rK.{u}{α:Type u}{l k:List α}{i:Nat}(h:l.length≤i):(l++k)[i]?=k[i-l.length]?:=List.getElem?_append_right h
theorem rL.{u}{α:Type u}{l k:List α}{i:Nat}(h:i<l.length):(l++k)[i]?=l[i]?:=List.getElem?_append_left h
theorem rM.{u}{α:Type u}{b:α}{l:List α}{a:α}:a∈b::l↔a=b∨a∈l:=List.mem_cons
theorem rN.{u}{α:Type u}{l:List α}{i:Nat}{a:α}:l.getD i a=l[i]?.getD a:=List.getD_eq_getElem?_getD
theorem rO.{u}{α:Type u}{i:Nat}{a:α}{l:List α}:l[i]?=some a↔∃h:i<l.length,l[i]=a:=List.getElem?_eq_some_iff
theorem rP.{u,v}{α:Type u}{b:α}{β:Type v}{x:Option β}{f:β→Option α}:x.bind f=some b↔∃a,x=some a∧f a=some b:=Option.bind_eq_some_iff
theorem rQ.{u}{α:Type u}{l:List α}(h:l.length=0):l=[]:=List.eq_nil_of_length_eq_zero h
theorem rR.{u}{α:Type u}{l:List α}{n:Nat}(h:n<l.length):l[n]∈l:=List.getElem_mem h
theorem rS.{u}{α:Type u}{a b:List α}:(a++b).length=a.length+b.length:=List.length_append
open Go
abbrev rD:=Value→World→Prop
abbrev rE:=World→Prop
def At(b:Frame)(a:Act)(todo:List Item):Frame:={ b with tmps:=a.tmps,defers:=a.defers,todo:=todo,mode:=.run }
theorem Ji(b:Frame)(a:Act)(c:List Item):(At b a c).eval=a.eval:=by
 funext x;cases x<;>rfl
def Ab(w:World)(b:Nat)(o:Obj):World:={ w with heap:=w.heap.setIfInBounds b o }
def Ad(P:Program)(f:FuncId):Prop:=∃c,P.funcs[f]?=some c∧c.body.isNone=false∧(c.name == "runtime.NumGoroutine")=false
theorem Jd{P:Program}{f:FuncId}(h:Ad P f)(c:Array Value)(w:World):(callFunc f c).run P w=.ok (.enter f c) w:=by
 obtain⟨d,e,g,i⟩:=h;have j:d.body≠none:=by intro h;rw[h] at g;simp at g
 have l:d.name ≠ "runtime.NumGoroutine":=by simpa using i
 simp [callFunc,e,j,l]
section steps
variable {P:Program} {b:Frame} {a:Act} {k:List Item} {cs:List Frame} {w:World}
theorem Y0:step P (lone (At b a (.code .skip::k)) cs w)=.next (lone (At b a k) cs w):=
 step_lone_go (by simp [stepG,stepG.exec,At])
theorem aA{l:Nat}:step P (lone (At b a (.code (.label l)::k)) cs w)=.next (lone (At b a k) cs w):=
 step_lone_go (by simp [stepG,stepG.exec,At])
theorem KA{c:Code}:step P (lone (At b a (.code (.scope c)::k)) cs w)=.next (lone (At b a (.code c::.inScope c::k)) cs w):=
 step_lone_go (by simp [stepG,stepG.exec,At])
theorem YB{id:Nat}:step P (lone (At b a (.inBlock id::k)) cs w)=.next (lone (At b a k) cs w):=
 step_lone_go (by simp [stepG,stepG.exec,At])
theorem jy{c:Code}:step P (lone (At b a (.inScope c::k)) cs w)=.next (lone (At b a k) cs w):=
 step_lone_go (by simp [stepG,stepG.exec,At])
theorem JL{x y:Code}:step P (lone (At b a (.code (.seq x y)::k)) cs w)=.next (lone (At b a (.code x::.code y::k)) cs w):=
 step_lone_go (by simp [stepG,stepG.exec,At])
theorem V8{c:Operand}{x y:Code}{t:Bool}(h:a.eval c=.bool t):
  step P (lone (At b a (.code (.cond c x y)::k)) cs w)=.next (lone (At b a (.code (if t then x else y)::k)) cs w) :=
 step_lone_go (by
  have:=congrFun (Ji b a (.code (.cond c x y)::k)) c;simp only[At] at this;simp [stepG,stepG.exec,At,this,h])
theorem HU{id:Nat}{c:Code}:step P (lone (At b a (.code (.block id c)::k)) cs w)=.next (lone (At b a (.code c::.inBlock id::k)) cs w):=
 step_lone_go (by simp [stepG,stepG.exec,At])
theorem YJ{c:Code}:step P (lone (At b a (.code (.loop c)::k)) cs w)=.next (lone (At b a (.code c::.inLoop c::k)) cs w):=
 step_lone_go (by simp [stepG,stepG.exec,At])
theorem ff{c:Code}:step P (lone (At b a (.inLoop c::k)) cs w)=.next (lone (At b a (.code c::.inLoop c::k)) cs w):=
 step_lone_go (by simp [stepG,stepG.exec,At])
theorem jP{id:Nat}{k':List Item}(h:exitTo id k=some k'):
  step P (lone (At b a (.code (.exit id)::k)) cs w)=.next (lone (At b a k') cs w) :=
 step_lone_go (by simp [stepG,stepG.exec,At,h])
theorem TY{id:Nat}{ops:Array Oper}:
  step P (lone (At b a (.code (.region id ops false)::k)) cs w)=.next (lone (At b a (.inRegion ops (List.range ops.size)::k)) cs w) :=
 step_lone_go (by simp [stepG,stepG.exec,At])
theorem iR{id:Nat}{ops:Array Oper}:
  step P (lone (At b a (.code (.region id ops true)::k)) cs w) =
   .next (lone (At b a (.inRegion ops (Region.schedule (P.follows .mixedOrders) ops (w.tape w.drawn (.order b.fn id)))::k)) cs { w with drawn:=w.drawn+1 }) :=
 step_lone_go (by simp [stepG,stepG.exec,At,choose,Sem.run,Question.forced,Question.cut])
theorem RB{ops:Array Oper}:step P (lone (At b a (.inRegion ops []::k)) cs w)=.next (lone (At b a k) cs w):=
 step_lone_go (by simp [stepG,stepG.exec,At])
theorem LI(ops:Array Oper)(i:Nat)(rest:List Nat)(v:Value):
  (At b a (.inRegion ops (i::rest)::k)).finish v=At b (a.put ((ops[i]?).bind (·.dst)) v) (.inRegion ops rest::k):=by
 cases h:(ops[i]?).bind (·.dst)<;>simp [Frame.finish,At,Act.put,h]
theorem RE{ops:Array Oper}{i:Nat}{rest:List Nat}(h:((ops[i]?).map (Region.wanted · (yielded ops a.tmps))).getD false=false):
  step P (lone (At b a (.inRegion ops (i::rest)::k)) cs w)=.next (lone (At b (a.put ((ops[i]?).bind (·.dst)) undef) (.inRegion ops rest::k)) cs w):=by
 rw[←LI];exact step_lone_go (by
  have c:=h;simp only[At] at *;simp [stepG,stepG.exec,c])
end steps
section rangeSteps
variable {P:Program} {b:Frame} {a:Act} {k:List Item} {cs:List Frame} {w:World}
theorem Si(o:Obj):(newObj o).run P w=.ok w.heap.size (w.alloc o):=by simp [newObj,Sem.run]
theorem Fw{l:Nat}{L:Loop}(h:w.heap[l]?=some (.loop L)):(Instr.getLoop l).run P w=.ok L w:=by simp [Instr.getLoop,getObj,Sem.run,h]
theorem FT{l:Nat}{L:Loop}{o:Obj}(h:w.heap[l]?=some (.loop L)):(setObj l o).run P w=.ok () (Ab w l o):=by simp [setObj,Sem.run,Ab,h]
theorem TP{r:Nat}{d:Option (List Deferred)}(h:w.heap[r]?=some (.deferred d)):(getObj r).run P w=.ok (.deferred d) w:=by simp [getObj,Sem.run,h]
theorem VG{r:Nat}{d:Option (List Deferred)}{o:Obj}(h:w.heap[r]?=some (.deferred d)):(setObj r o).run P w=.ok () (Ab w r o):=by simp [setObj,Sem.run,Ab,h]
theorem cM{f:Operand}{params:Array Tmp}{assign body:Code}{g:FuncId}{us vs:Array Value}(c:b.roundOf=none)(d:a.eval f=.func (.func g) us vs)(e:Ad P g):
  step P (lone (At b a (.code (.rangeFunc f params assign body)::k)) cs w) =
   .next (lone (Frame.enter P g (us++#[.func (.yield (w.heap.size+1)) #[] #[]]++vs) .normal)
    (At b { a with defers:={ target:=.collected w.heap.size,args:=#[] }::a.defers } (.inRangeFunc (w.heap.size+1)::k)::cs)
    ((w.alloc (.deferred (some []))).alloc (.loop { state:=.ready,pending:=none,fn:=b.fn,tmps:=a.tmps,params,assign,body,defers:=w.heap.size }))):=by
 have h:=congrFun (Ji b { a with defers:={ target:=.collected w.heap.size,args:=#[] }::a.defers } (.inRangeFunc (w.heap.size+1)::k)) f;simp only[At,c] at h;have i:Act.eval { tmps:=a.tmps,defers:={ target:=.collected w.heap.size,args:=#[] }::a.defers } f=.func (.func g) us vs:=by rw[←d];cases f<;>rfl
 refine step_lone_go ?_;simp [stepG,stepG.exec,At,c,Instr.enterLoop,Si,stepG.apply,Sem.runT_eq,resolve,h,i,Deferred.ofValue,invoke,Jd e,GStep.after];simp [Frame.eval,Act.eval]
theorem TB{l:Nat}{L:Loop}(c:b.roundOf=some l)(h:w.heap[l]?=some (.loop L))(d:L.state=.ready):
  step P (lone (At b a (.beginRound::k)) cs w)=.next (lone (At b a k) cs (Ab w l (.loop { L with state:=.busy }))):=by
 refine step_lone_go ?_;simp [stepG,stepG.exec,At,c,Instr.beginRound,Fw h,FT h,d,stepG.apply,Sem.runT_eq,Frame.finish]
theorem XA{l:Nat}{L:Loop}{c:Frame}(d:b.roundOf=some l)(e:b.kind=.normal)(h:w.heap[l]?=some (.loop L)):
  step P (lone (At b a []) (c::cs) w)=.next (lone (c.finish (.bool true)) cs (Ab w l (.loop { L with state:=.ready,pending:=none }))):=by
 refine step_lone_go ?_;simp [stepG,stepG.exec,At,d,Instr.endRound,Fw h,FT h,Sem.runT_eq,doReturn,e]
theorem fT{l:Nat}{L:Loop}{c:Frame}(d:b.roundOf=some l)(e:b.kind=.normal)(h:w.heap[l]?=some (.loop L)):
  step P (lone (At b a (.code .ret::k)) (c::cs) w)=.next (lone (c.finish (.bool false)) cs (Ab w l (.loop { L with state:=.done,pending:=some .ret }))):=by
 refine step_lone_go ?_;simp [stepG,stepG.exec,At,d,Instr.endRound,Fw h,FT h,Sem.runT_eq,doReturn,e]
theorem cB{l id:Nat}{L:Loop}{c:Frame}(d:b.roundOf=some l)(e:b.kind=.normal)(f:exitTo id k=none)(h:w.heap[l]?=some (.loop L)):
  step P (lone (At b a (.code (.exit id)::k)) (c::cs) w)=.next (lone (c.finish (.bool false)) cs (Ab w l (.loop { L with state:=.done,pending:=some (.exit id) }))):=by
 refine step_lone_go ?_;simp [stepG,stepG.exec,At,f,d,Instr.endRound,Fw h,FT h,Sem.runT_eq,doReturn,e]
theorem IQ{l:Nat}{L:Loop}(h:w.heap[l]?=some (.loop L))(c:L.state≠.busy):
  step P (lone (At b a (.endRangeFunc l::k)) cs w)=.next (lone (At b a ((L.pending.map Item.code).toList++k)) cs (Ab w l (.loop { L with state:=.exhausted }))):=by
 refine step_lone_go ?_;simp [stepG,stepG.exec,At,Instr.endLoop,Fw h,FT h,c,Sem.runT_eq]
theorem We{r:Nat}{d:Deferred}{c:List Deferred}{e:Frame}(f:d.target=.collected r)(g:e.defers=d::c)(i:e.mode=.returning)(h:w.heap[r]?=some (.deferred (some []))):
  step P (lone e cs w)=.next (lone { e with defers:=c } cs (Ab w r (.deferred none))):=by
 obtain⟨j,l⟩:=d;dsimp only at f;subst f;refine step_lone_go ?_;simp [stepG,unwind,g,i,Instr.takeDeferred,TP h,VG h,Sem.runT_eq]
end rangeSteps
inductive Ex where
 | normal
 | exit (id:Nat)
 | ret
def FN(P:Program)(m:Machine)(b:Frame)(k:List Item)(cs:List Frame):Ex→Act→World→Prop
 | .normal,a,w=>Steps P m (lone (At b a k) cs w)
 | .exit id,a,w=>∃c,exitTo id c=exitTo id k∧Steps P m (lone (At b a (.code (.exit id)::c)) cs w)
 | .ret,a,w=>∃c,Steps P m (lone (At b a (.code .ret::c)) cs w)
theorem FN.of{P:Program}{m c:Machine}{b:Frame}{k:List Item}{cs:List Frame}{e:Ex}{a:Act}{w:World}(h:Steps P m c)(d:FN P c b k cs e a w):FN P m b k cs e a w:=by
 cases e with
 | normal=>exact h.trans d
 | exit id=>exact let ⟨f,e,s⟩:=d;⟨f,e,h.trans s⟩
 | ret=>exact let ⟨f,s⟩:=d;⟨f,h.trans s⟩
def WP(P:Program)(ro:Option Nat)(c:Code)(Q:Ex→Act→World→Prop)(a:Act)(w:World):Prop:=
 ∀(b:Frame) (k:List Item) (cs:List Frame),b.roundOf=ro→∃e d f,Q e d f∧FN P (lone (At b a (.code c::k)) cs w) b k cs e d f
section rules
variable {P:Program} {ro:Option Nat} {Q:Ex→Act→World→Prop} {a:Act} {w:World}
theorem WP.mono{c:Code}{d:Ex→Act→World→Prop}(h:WP P ro c Q a w)(f:∀e a w,Q e a w→d e a w):WP P ro c d a w:=
 λb k cs g=>let ⟨e,i,j,q,r⟩:=h b k cs g;⟨e,i,j,f _ _ _ q,r⟩
theorem WP.skip(h:Q .normal a w):WP P ro .skip Q a w:=λ_ _ _ _=>⟨.normal,a,w,h,.one Y0⟩
theorem WP.exit{id:Nat}(h:Q (.exit id) a w):WP P ro (.exit id) Q a w:=λ_ k _ _=>⟨.exit id,a,w,h,k,rfl,.refl _ _⟩
theorem WP.ret(h:Q .ret a w):WP P ro .ret Q a w:=λ_ k _ _=>⟨.ret,a,w,h,k,.refl _ _⟩
def Ex.thn(next:Act→World→Prop)(Q:Ex→Act→World→Prop):Ex→Act→World→Prop
 | .normal,a,w=>next a w
 | e,a,w=>Q e a w
theorem WP.seq{x y:Code}(h:WP P ro x (Ex.thn (WP P ro y Q) Q) a w):WP P ro (.seq x y) Q a w:=by
 intro b k cs c;obtain⟨e,d,f,g,i⟩:=h b (.code y::k) cs c;cases e with
 | normal =>
  obtain⟨j,l,m,n,o⟩:=g b k cs c;exact⟨j,l,m,n,.of (.head JL i) o⟩
 | exit id=>exact⟨_,d,f,g,let ⟨p,q,s⟩:=i;⟨p,q,.head JL s⟩⟩
 | ret=>exact⟨_,d,f,g,let ⟨p,s⟩:=i;⟨p,.head JL s⟩⟩
theorem WP.cond{c:Operand}{x y:Code}{t:Bool}(d:a.eval c=.bool t)(h:WP P ro (if t then x else y) Q a w):WP P ro (.cond c x y) Q a w:=
 λb k cs f=>let ⟨e,g,i,q,r⟩:=h b k cs f;⟨e,g,i,q,.of (.one (V8 d)) r⟩
def Ex.inBlk(id:Nat)(Q:Ex→Act→World→Prop):Ex→Act→World→Prop
 | .exit id',a,w=>if id'=id then Q .normal a w else Q (.exit id') a w
 | e,a,w=>Q e a w
theorem WP.block {id:Nat} {c:Code} (h:WP P ro c (Ex.inBlk id Q) a w):WP P ro (.block id c) Q a w:=by
 intro b k cs hro
 obtain⟨e,a₁,w₁,hq,hr⟩:=h b (.inBlock id::k) cs hro
 cases e with
 | normal=>exact⟨.normal,a₁,w₁,hq,.head HU (Steps.trans hr (.one YB))⟩
 | exit id' =>
  obtain⟨k',he,s⟩:=hr
  by_cases hid:id'=id
  ·simp only[Ex.inBlk,hid,if_true] at hq
   refine⟨.normal,a₁,w₁,hq,.head HU (s.trans (.one (jP ?_)))⟩
   rw[he];simp [exitTo,hid]
  ·simp only[Ex.inBlk,hid,if_false] at hq
   refine⟨.exit id',a₁,w₁,hq,k',?_,.head HU s⟩
   rw[he]
   have:(id == id')=false:=by simp;exact λh=>hid h.symm
   simp [exitTo,this]
 | ret=>exact⟨_,a₁,w₁,hq,let ⟨k',s⟩:=hr;⟨k',.head HU s⟩⟩
theorem WP.label{l:Nat}(h:Q .normal a w):WP P ro (.label l) Q a w:=λ_ _ _ _=>⟨.normal,a,w,h,.one aA⟩
theorem WP.scope{c:Code}(h:WP P ro c Q a w):WP P ro (.scope c) Q a w:=by
 intro b k cs d;obtain⟨e,f,g,i,j⟩:=h b (.inScope c::k) cs d;cases e with
 | normal=>exact⟨.normal,f,g,i,.head KA (Steps.trans j (.one jy))⟩
 | exit l =>
  obtain⟨m,n,s⟩:=j;exact⟨.exit l,f,g,i,m,by rw[n];simp [exitTo],.head KA s⟩
 | ret=>exact⟨_,f,g,i,let ⟨m,s⟩:=j;⟨m,.head KA s⟩⟩
theorem WP.loop{c:Code}(I:Act→World→Prop)(μ:Act→World→Nat)(h₀:I a w)(round:∀a w,I a w→WP P ro c (Ex.thn (λa' w'=>I a' w'∧μ a' w'<μ a w) Q) a w):WP P ro (.loop c) Q a w:=by
 intro b k cs hro;have key:∀n a w,μ a w=n→I a w→∃e a' w',Q e a' w'∧FN P (lone (At b a (.code c::.inLoop c::k)) cs w) b k cs e a' w':=by
  intro n
  induction n using Nat.strongRecOn with
  | _ n ih =>
   intro a w hn hI;obtain⟨e,a₁,w₁,hq,hr⟩:=round a w hI b (.inLoop c::k) cs hro;cases e with
   | normal =>
    obtain⟨hI₁,hlt⟩:=hq;obtain⟨e₂,a₂,w₂,hq₂,hr₂⟩:=ih (μ a₁ w₁) (hn ▸ hlt) a₁ w₁ rfl hI₁;exact⟨e₂,a₂,w₂,hq₂,.of (Steps.trans hr (.one ff)) hr₂⟩
   | exit id=>exact⟨_,a₁,w₁,hq,let ⟨k',he,s⟩:=hr;⟨k',he,s⟩⟩
   | ret=>exact⟨_,a₁,w₁,hq,hr⟩
 obtain⟨e,a',w',hq,hr⟩:=key _ a w rfl h₀;exact⟨e,a',w',hq,.of (.one YJ) hr⟩
end rules
def Ac(K:rD):Ending→World→Prop
 | .returned v,w=>K v w
 | _,_=>False
inductive RoundP (P:Program) (l f:Nat) (tmps:Array Value) (assign body:Code) (w:World) (K:rD):Prop
 | mk (h:∀(c:Frame) (cs:List Frame),∃v w',K v w'∧Steps P (lone (Frame.round l f tmps assign body .normal) (c::cs) w) (lone (c.finish v) cs w'))
inductive CommP (P:Program) (cases:Array CommCase) (blocking:Bool) (shape:CommShape) (w:World) (K:rD):Prop
 | mk (h:∀(fr:Frame) (cs:List Frame) (es:Array Event),
   stepG P true { frame:=fr,callers:=cs,status:=.running,dying:=none } w=.comm { frame:=fr,callers:=cs,status:=.running,dying:=none } cases blocking shape w es →
   ∃v w',K v w'∧step P (lone fr cs w)=.next (lone (fr.finish v) cs w'))
def BB(P:Program)(w0:World)(K:rD):Result Next→Prop
 | .ok (.value v) w=>K v w
 | .ok .skip w=>K undef w
 | .ok (.enter f args) w=>Calls P f args w (Ac K)
 | .ok (.round l f tmps assign body) w=>RoundP P l f tmps assign body w K
 | .ok (.row row args) w=>Rows P row args w K
 | .ok (.comm cases blocking shape) w=>w=w0∧CommP P cases blocking shape w K
 | _=>False
def B5(ρ:Operand→Value):Prop:=(∀v,ρ (.const v)=v)∧(∀g,ρ (.global g)=.pointer (some ⟨g,0,none⟩))∧(∀f,ρ (.func f)=.func (.func f) #[] #[])
def Ap(op:Op)(type:TypeId):Oper:={ dst:=none,op,type,pos := "",after:=#[],guard:=none }
abbrev WK{α:Sort _}(_:α):Type:=World
abbrev WK2{α β:Sort _}(_:α)(_:β):Type:=World
abbrev UK{α:Sort _}(_:α):Type:=Unit
abbrev UK2{α β:Sort _}(_:α)(_:β):Type:=Unit
inductive OpX (P:Program) (op:Op) (type:TypeId) (K:rD) (w:WK K):Prop
 | mk (h:∀ρ,B5 ρ→BB P w K ((execOp ρ (Ap op type)).run P w))
theorem OpX.out{P:Program}{c:Op}{d:TypeId}{K:Value→World→Prop}{w:World}:OpX P c d K w↔∀ρ,B5 ρ→BB P w K ((execOp ρ (Ap c d)).run P w):=
 ⟨λ⟨h⟩=>h,λh=>⟨h⟩⟩
theorem Jr(a:Act):B5 a.eval:=⟨λ_=>rfl,λ_=>rfl,λ_=>rfl⟩
section op
variable {P:Program} {b:Frame} {a:Act} {k:List Item} {cs:List Frame} {w:World} {ops:Array Oper}
theorem cJ{i:Nat}{rest:List Nat}{o:Oper}(d:ops[i]?=some o)(e:Region.wanted o (yielded ops a.tmps)=true)(f:∀c,o.op≠.defer c):
  stepG P true { frame:=At b a (.inRegion ops (i::rest)::k),callers:=cs,status:=.running,dying:=none } w =
   stepG.apply P true (At b a (.inRegion ops (i::rest)::k)) cs none (execOp a.eval o) w:=by
 have g:=Ji b a (.inRegion ops (i::rest)::k);simp only[At] at g;cases h:b.roundOf with
 | none =>
  rw[h] at g;simp [stepG,stepG.exec,stepG.oper,Frame.oper?,At,d,e,g,h]
 | some l =>
  rw[h] at g;simp only[stepG,stepG.exec,stepG.oper,Frame.oper?,At,d,e,g,h,Option.map_some,Option.getD_some,if_true];split
  ·exact absurd (by assumption) (f _)
  ·rfl
theorem SB{i:Nat}{rest:List Nat}{o:Oper}{K:Value→World→Prop}(d:ops[i]?=some o)(g:Region.wanted o (yielded ops a.tmps)=true)(j:∀c,o.op≠.defer c)(h:BB P w K ((execOp a.eval o).run P w)):
  ∃v m,K v m∧Steps P (lone (At b a (.inRegion ops (i::rest)::k)) cs w) (lone (At b (a.put o.dst v) (.inRegion ops rest::k)) cs m):=by
 have n:=cJ (P:=P) (b:=b) (k:=k) (cs:=cs) (w:=w) (rest:=rest) d g j;have p:∀v,(At b a (.inRegion ops (i::rest)::k)).finish v=At b (a.put o.dst v) (.inRegion ops rest::k):=by
  intro v;rw[LI,d];rfl
 unfold BB at h;split at h
 ·rename_i v m q;refine⟨v,m,h,.one (step_lone_go ?_)⟩;rw[n,←p];simp [stepG.apply,q]
 ·rename_i m q;refine⟨undef,m,h,.one (step_lone_go ?_)⟩;rw[n,←p];simp [stepG.apply,q]
 ·rename_i f s m q;obtain⟨e,t,u,y,z,_,A⟩:=h (At b a (.inRegion ops (i::rest)::k)::cs);have B:step P (lone (At b a (.inRegion ops (i::rest)::k)) cs w)=.next (lone (Frame.enter P f s .normal) (At b a (.inRegion ops (i::rest)::k)::cs) m) :=
   step_lone_go (by rw[n];simp [stepG.apply,q,At])
  cases e with
  | returned v =>
   refine⟨v,t,y,.head B (Steps.trans z (.one ?_))⟩;rw[←p];exact step_leave_returned A
  | panicked C=>exact y.elim
  | outgrown=>exact y.elim
 ·rename_i l f D E F m q;obtain⟨h⟩:=h;obtain⟨v,t,y,z⟩:=h (At b a (.inRegion ops (i::rest)::k)) cs;have B:step P (lone (At b a (.inRegion ops (i::rest)::k)) cs w)=.next (lone (Frame.round l f D E F .normal) (At b a (.inRegion ops (i::rest)::k)::cs) m) :=
   step_lone_go (by rw[n];simp [stepG.apply,q])
  rw[p] at z;exact⟨v,t,y,.head B z⟩
 ·rename_i G s m q;obtain⟨v,t,y,z⟩:=h (At b a (.inRegion ops (i::rest)::k)) cs;have B:step P (lone (At b a (.inRegion ops (i::rest)::k)) cs w)=.next (lone (Frame.ofRow P G s .normal) (At b a (.inRegion ops (i::rest)::k)::cs) m) :=
   step_lone_go (by rw[n];simp [stepG.apply,q,At])
  rw[p] at z;exact⟨v,t,y,.head B z⟩
 ·rename_i cases H I m q;obtain⟨rfl,⟨h⟩⟩:=h;have J:∃L,stepG P true { frame:=At b a (.inRegion ops (i::rest)::k),callers:=cs,status:=.running,dying:=none } m =
    .comm { frame:=At b a (.inRegion ops (i::rest)::k),callers:=cs,status:=.running,dying:=none } cases H I m L:=by
   rw[n];have M:((execOp a.eval o).runT P m #[]).1=.ok (.comm cases H I) m:=by rw[Sem.runT_eq];exact q
   simp only[stepG.apply,if_true];generalize (execOp a.eval o).runT P m #[]=x at M;obtain⟨r,L⟩:=x;dsimp only at M;subst M;exact⟨_,rfl⟩
  obtain⟨L,J⟩:=J;obtain⟨v,t,N,z⟩:=h _ _ _ J;rw[p] at z;exact⟨v,t,N,.one z⟩
 ·exact h.elim
end op
inductive Ent where
 | unk
 | und
 | val (v:Value)
 | lit (b:Bool)
abbrev Env:=List (Nat × Ent)
def Env.get:List (Nat × Ent)→Nat→Ent
 | [],_=>.unk
 | (d,x)::e,i=>bif Nat.beq d i then x else Env.get e i
def Ent.ok(x:Ent)(v:Value):Prop:=
 match x with
 | .unk=>True
 | .und=>v=undef
 | .val u=>v=u
 | .lit b=>v=.bool b
def DK:Nat:=1000000
def GH(d:Deferred):Option Nat:=match d.target with|.collected r=>some r|_=>none
def C3:List Deferred→Option (List Nat)
 | []=>some []
 | d::ds=>match GH d,C3 ds with|some r,some rs=>some (r::rs)|_,_=>none
def Cv(a:List Deferred):Value:=match C3 a with|some b=>.tuple (b.map λr:Nat=>Value.int .i64 (r:Int)).toArray|none=>.bool false
def Aj(a:Act)(d:Nat):Value:=if d=DK then Cv a.defers else a.tmps.getD d undef
def Cr(r:Nat):Value→Value
 | .tuple a=>.tuple (Value.int .i64 (r:Int)::a.toList).toArray
 | v=>v
def E5:List Value→(World→Prop)→World→Prop
 | [],K,w=>K w
 | .int _ r::l,K,w=>w.heap[r.toNat]?=some (.deferred (some []))∧E5 l K (Ab w r.toNat (.deferred none))
 | _::_,_,_=>False
def B0(v:Value)(K:World→Prop)(w:World):Prop:=
 match v with
 | .tuple a=>E5 a.toList K w
 | _=>False
def Ax(e:Env)(a:Act):Prop:=a.tmps.size≤DK∧∀d,(Env.get e d).ok (Aj a d)
def DN(e:Env)(t:Nat):Ent:=bif Nat.beq t DK then .unk else Env.get e t
def Bb(e:Env):Operand→Ent
 | .tmp t=>DN e t
 | .const (.bool b)=>.lit b
 | .const v=>.val v
 | .global g=>.val (.pointer (some ⟨g,0,none⟩))
 | .func f=>.val (.func (.func f) #[] #[])
def Dr(e:Env):Operand→Operand
 | .tmp t=>match DN e t with
  | .unk=>.tmp t
  | .und=>.tmp t
  | .val v=>.const v
  | .lit b=>.const (.bool b)
 | x=>x
def Ct(f:Operand→Operand):Op→Op
 | .move x=>.move (f x)
 | .assign x=>.assign (f x)
 | .pick c a b=>.pick (f c) (f a) (f b)
 | .alloc t=>.alloc t
 | .box t x=>.box t (f x)
 | .build t e=>.build t (e.map λp=>(p.1,f p.2))
 | .buildSlice t n e=>.buildSlice t n (e.map λp=>(p.1,f p.2))
 | .insert t m k v=>.insert t (f m) (f k) (f v)
 | .load t x=>.load t (f x)
 | .store t x y=>.store t (f x) (f y)
 | .ready g=>.ready g
 | .waits g=>.waits g
 | .nilCheck x=>.nilCheck (f x)
 | .binOp o t x y u=>.binOp o t (f x) (f y) u
 | .unOp o t x=>.unOp o t (f x)
 | .convert s d x=>.convert s d (f x)
 | .sliceToArrayPointer d x=>.sliceToArrayPointer d (f x)
 | .makeInterface t x=>.makeInterface t (f x)
 | .makeFunc g j q=>.makeFunc g (j.map f) (q.map f)
 | .makeMap t r=>.makeMap t (r.map f)
 | .makeChan t x=>.makeChan t (f x)
 | .makeSlice t x y=>.makeSlice t (f x) (f y)
 | .slice t x l h m=>.slice t (f x) (l.map f) (h.map f) (m.map f)
 | .fieldAddr t x i=>.fieldAddr t (f x) i
 | .field t x i=>.field t (f x) i
 | .indexAddr t x i=>.indexAddr t (f x) (f i)
 | .index t x i=>.index t (f x) (f i)
 | .lookup t x i ok=>.lookup t (f x) (f i) ok
 | .mapUpdate t m k v=>.mapUpdate t (f m) (f k) (f v)
 | .mapEntry t m k=>.mapEntry t (f m) (f k)
 | .entryStore t m s v=>.entryStore t (f m) (f s) (f v)
 | .range t x=>.range t (f x)
 | .next x s=>.next (f x) s
 | .entry x=>.entry (f x)
 | .typeAssert x t u ok=>.typeAssert (f x) t u ok
 | .extract x i=>.extract (f x) i
 | .call c=>.call { callee:=(match c.callee with|.value g=>.value (f g)|.invoke r n=>.invoke (f r) n|.builtin b=>.builtin b),args:=c.args.map f,argTypes:=c.argTypes }
 | .go c=>.go c
 | .defer c=>.defer c
 | .panic x=>.panic (f x)
 | .send c x=>.send (f c) (f x)
 | .recv t c ok=>.recv t (f c) ok
 | .select w b=>.select (w.map λc=>{ chan:=f c.chan,send:=c.send.map f,elem:=c.elem }) b
def odd:Op→Bool
 | .go _=>true
 | .defer _=>true
 | .binOp _ _ _ _ _=>true
 | .call { callee:=.builtin .print,.. }=>true
 | .call { callee:=.builtin .println,.. }=>true
 | _=>false
theorem Xd(b:Builtin)(a:b≠.print)(c:b≠.println)(d:Array TypeId)(t:TypeId)(cs e:Array Bool)(f:Array Value):
  builtin b d t cs f=builtin b d t e f:=by
 cases b<;>first|rfl|exact absurd rfl a|exact absurd rfl c
theorem JR{ρ:Operand→Value}{f:Operand→Operand}(o:Oper)(hf:∀x,ρ (f x)=ρ x)(hodd:odd o.op=false):
  execOp ρ o=execOp ρ (Ap (Ct f o.op) o.type):=by
 have hm:∀xs:Array Operand,(xs.map f).map ρ=xs.map ρ:=λxs=>by simp [Array.map_map,Function.comp_def,hf]
 have hp:∀xs:Array (Nat × Operand),(xs.map λp=>(p.1,f p.2)).map (λp=>(p.1,ρ p.2))=xs.map λp=>(p.1,ρ p.2):=λxs=>by simp [Array.map_map,Function.comp_def,hf]
 have ho:∀x:Option Operand,(x.map f).map ρ=x.map ρ:=λx=>by cases x<;>simp [hf]
 obtain⟨dst,op,type,pos,after,guard⟩:=o;cases op
 case call c =>
  obtain⟨callee,args,argTypes⟩:=c;cases callee with
  | value g=>simp [execOp,Ct,Ap,resolve,hf,hm]
  | invoke r n=>simp [execOp,Ct,Ap,resolve,hf,hm]
  | builtin b =>
   have e1:∀(o:Oper),o.op=.call { callee:=.builtin b,args,argTypes }→execOp ρ o=builtin b argTypes o.type (args.map λ|.const _=>true|_=>false) (args.map ρ):=by
    intro o ho;unfold execOp;rw[ho];rfl
   have e2:∀(o:Oper),o.op=.call { callee:=.builtin b,args:=args.map f,argTypes }→execOp ρ o=builtin b argTypes o.type ((args.map f).map λ|.const _=>true|_=>false) ((args.map f).map ρ):=by
    intro o ho;unfold execOp;rw[ho];rfl
   rw[e1 _ rfl,e2 (Ap (Ct f (.call { callee:=.builtin b,args,argTypes })) type) rfl,hm];refine Xd b ?_ ?_ _ _ _ _ _<;>(rintro rfl;simp [odd] at hodd)
 case select cs b =>
  simp [execOp,Ct,Ap,Array.mapM_map,ho,hf,Function.comp_def]
 case binOp bo t x y u=>simp [odd] at hodd
 case go c=>simp [odd] at hodd
 case defer c=>simp [odd] at hodd
 all_goals simp [execOp,Ct,Ap,hf,hm,hp,ho]
inductive BinX (P:Program) (op:BinOp) (t:TypeId) (a b:Value) (K:rD) (w:WK K):Prop
 | mk (h:∀x y:Operand,BB P w K ((do eqGuard op t x y a b;return Next.value (←binOp op t a b)).run P w))
inductive BinN (P:Program) (op:BinOp) (t:TypeId) (a:Value) (K:rD) (w:WK K):Prop
 | mk (h:∀x:Operand,BB P w K ((do eqGuard op t x (.const .nilIface) a .nilIface;return Next.value (←binOp op t a .nilIface)).run P w))
def JD:Operand→Bool
 | .const .nilIface=>true
 | _=>false
inductive BrW (v:Value) (A B:Prop) (u:UK2 A B):Prop
 | mk (b:Bool) (hv:v=.bool b) (ht:b=true→A) (hf:b=false→B)
inductive LdR (P:Program) (t:TypeId) (v:Value) (K:rD) (w:WK K):Prop
 | mk (a:Addr) (x:Value) (hv:v=.pointer (some a)) (h:(loadVar t a).run P w=.ok x w) (hk:K x w)
inductive Join0 (M:(World→Prop)→World→Prop) (K:World→Prop) (w:WK2 M K):Prop
 | mk (R:World→Prop) (h:M R w) (hk:∀w',R w'→K w')
inductive Join1 (M:(Value→World→Prop)→World→Prop) (K:rD) (w:WK2 M K):Prop
 | mk (R:Value→World→Prop) (h:M R w) (hk:∀v0 w',R v0 w'→K v0 w')
inductive Join2 (M:(Value→Value→World→Prop)→World→Prop) (K:Value→Value→World→Prop) (w:WK2 M K):Prop
 | mk (R:Value→Value→World→Prop) (h:M R w) (hk:∀v0 v1 w',R v0 v1 w'→K v0 v1 w')
inductive Join3 (M:(Value→Value→Value→World→Prop)→World→Prop) (K:Value→Value→Value→World→Prop) (w:WK2 M K):Prop
 | mk (R:Value→Value→Value→World→Prop) (h:M R w) (hk:∀v0 v1 v2 w',R v0 v1 v2 w'→K v0 v1 v2 w')
inductive Join4 (M:(Value→Value→Value→Value→World→Prop)→World→Prop) (K:Value→Value→Value→Value→World→Prop) (w:WK2 M K):Prop
 | mk (R:Value→Value→Value→Value→World→Prop) (h:M R w) (hk:∀v0 v1 v2 v3 w',R v0 v1 v2 v3 w'→K v0 v1 v2 v3 w')
inductive Join5 (M:(Value→Value→Value→Value→Value→World→Prop)→World→Prop) (K:Value→Value→Value→Value→Value→World→Prop) (w:WK2 M K):Prop
 | mk (R:Value→Value→Value→Value→Value→World→Prop) (h:M R w) (hk:∀v0 v1 v2 v3 v4 w',R v0 v1 v2 v3 v4 w'→K v0 v1 v2 v3 v4 w')
inductive Join6 (M:(Value→Value→Value→Value→Value→Value→World→Prop)→World→Prop) (K:Value→Value→Value→Value→Value→Value→World→Prop) (w:WK2 M K):Prop
 | mk (R:Value→Value→Value→Value→Value→Value→World→Prop) (h:M R w) (hk:∀v0 v1 v2 v3 v4 v5 w',R v0 v1 v2 v3 v4 v5 w'→K v0 v1 v2 v3 v4 v5 w')
inductive Join7 (M:(Value→Value→Value→Value→Value→Value→Value→World→Prop)→World→Prop) (K:Value→Value→Value→Value→Value→Value→Value→World→Prop) (w:WK2 M K):Prop
 | mk (R:Value→Value→Value→Value→Value→Value→Value→World→Prop) (h:M R w) (hk:∀v0 v1 v2 v3 v4 v5 v6 w',R v0 v1 v2 v3 v4 v5 v6 w'→K v0 v1 v2 v3 v4 v5 v6 w')
inductive Join8 (M:(Value→Value→Value→Value→Value→Value→Value→Value→World→Prop)→World→Prop) (K:Value→Value→Value→Value→Value→Value→Value→Value→World→Prop) (w:WK2 M K):Prop
 | mk (R:Value→Value→Value→Value→Value→Value→Value→Value→World→Prop) (h:M R w) (hk:∀v0 v1 v2 v3 v4 v5 v6 v7 w',R v0 v1 v2 v3 v4 v5 v6 v7 w'→K v0 v1 v2 v3 v4 v5 v6 v7 w')
inductive Loop0 (body:(World→Prop)→World→Prop) (w:WK body):Prop
 | mk (I:World→Prop) (μ:World→Nat) (h0:I w) (round:∀w,I w→body (λw'=>I w'∧μ w'<μ w) w)
inductive Loop1 (s0:Value) (body:Value→(Value→World→Prop)→World→Prop) (w:WK body):Prop
 | mk (I:Value→World→Prop) (μ:Value→World→Nat) (h0:I s0 w) (round:∀v0 w,I v0 w→body v0 (λu0 w'=>I u0 w'∧μ u0 w'<μ v0 w) w)
inductive Loop2 (s0 s1:Value) (body:Value→Value→(Value→Value→World→Prop)→World→Prop) (w:WK body):Prop
 | mk (I:Value→Value→World→Prop) (μ:Value→Value→World→Nat) (h0:I s0 s1 w) (round:∀v0 v1 w,I v0 v1 w→body v0 v1 (λu0 u1 w'=>I u0 u1 w'∧μ u0 u1 w'<μ v0 v1 w) w)
inductive Loop3 (s0 s1 s2:Value) (body:Value→Value→Value→(Value→Value→Value→World→Prop)→World→Prop) (w:WK body):Prop
 | mk (I:Value→Value→Value→World→Prop) (μ:Value→Value→Value→World→Nat) (h0:I s0 s1 s2 w) (round:∀v0 v1 v2 w,I v0 v1 v2 w→body v0 v1 v2 (λu0 u1 u2 w'=>I u0 u1 u2 w'∧μ u0 u1 u2 w'<μ v0 v1 v2 w) w)
inductive Loop4 (s0 s1 s2 s3:Value) (body:Value→Value→Value→Value→(Value→Value→Value→Value→World→Prop)→World→Prop) (w:WK body):Prop
 | mk (I:Value→Value→Value→Value→World→Prop) (μ:Value→Value→Value→Value→World→Nat) (h0:I s0 s1 s2 s3 w) (round:∀v0 v1 v2 v3 w,I v0 v1 v2 v3 w→body v0 v1 v2 v3 (λu0 u1 u2 u3 w'=>I u0 u1 u2 u3 w'∧μ u0 u1 u2 u3 w'<μ v0 v1 v2 v3 w) w)
inductive Loop5 (s0 s1 s2 s3 s4:Value) (body:Value→Value→Value→Value→Value→(Value→Value→Value→Value→Value→World→Prop)→World→Prop) (w:WK body):Prop
 | mk (I:Value→Value→Value→Value→Value→World→Prop) (μ:Value→Value→Value→Value→Value→World→Nat) (h0:I s0 s1 s2 s3 s4 w) (round:∀v0 v1 v2 v3 v4 w,I v0 v1 v2 v3 v4 w→body v0 v1 v2 v3 v4 (λu0 u1 u2 u3 u4 w'=>I u0 u1 u2 u3 u4 w'∧μ u0 u1 u2 u3 u4 w'<μ v0 v1 v2 v3 v4 w) w)
inductive Loop6 (s0 s1 s2 s3 s4 s5:Value) (body:Value→Value→Value→Value→Value→Value→(Value→Value→Value→Value→Value→Value→World→Prop)→World→Prop) (w:WK body):Prop
 | mk (I:Value→Value→Value→Value→Value→Value→World→Prop) (μ:Value→Value→Value→Value→Value→Value→World→Nat) (h0:I s0 s1 s2 s3 s4 s5 w) (round:∀v0 v1 v2 v3 v4 v5 w,I v0 v1 v2 v3 v4 v5 w→body v0 v1 v2 v3 v4 v5 (λu0 u1 u2 u3 u4 u5 w'=>I u0 u1 u2 u3 u4 u5 w'∧μ u0 u1 u2 u3 u4 u5 w'<μ v0 v1 v2 v3 v4 v5 w) w)
inductive Loop7 (s0 s1 s2 s3 s4 s5 s6:Value) (body:Value→Value→Value→Value→Value→Value→Value→(Value→Value→Value→Value→Value→Value→Value→World→Prop)→World→Prop) (w:WK body):Prop
 | mk (I:Value→Value→Value→Value→Value→Value→Value→World→Prop) (μ:Value→Value→Value→Value→Value→Value→Value→World→Nat) (h0:I s0 s1 s2 s3 s4 s5 s6 w) (round:∀v0 v1 v2 v3 v4 v5 v6 w,I v0 v1 v2 v3 v4 v5 v6 w→body v0 v1 v2 v3 v4 v5 v6 (λu0 u1 u2 u3 u4 u5 u6 w'=>I u0 u1 u2 u3 u4 u5 u6 w'∧μ u0 u1 u2 u3 u4 u5 u6 w'<μ v0 v1 v2 v3 v4 v5 v6 w) w)
inductive Loop8 (s0 s1 s2 s3 s4 s5 s6 s7:Value) (body:Value→Value→Value→Value→Value→Value→Value→Value→(Value→Value→Value→Value→Value→Value→Value→Value→World→Prop)→World→Prop) (w:WK body):Prop
 | mk (I:Value→Value→Value→Value→Value→Value→Value→Value→World→Prop) (μ:Value→Value→Value→Value→Value→Value→Value→Value→World→Nat) (h0:I s0 s1 s2 s3 s4 s5 s6 s7 w) (round:∀v0 v1 v2 v3 v4 v5 v6 v7 w,I v0 v1 v2 v3 v4 v5 v6 v7 w→body v0 v1 v2 v3 v4 v5 v6 v7 (λu0 u1 u2 u3 u4 u5 u6 u7 w'=>I u0 u1 u2 u3 u4 u5 u6 u7 w'∧μ u0 u1 u2 u3 u4 u5 u6 u7 w'<μ v0 v1 v2 v3 v4 v5 v6 v7 w) w)
inductive Loop9 (s0 s1 s2 s3 s4 s5 s6 s7 s8:Value) (body:Value→Value→Value→Value→Value→Value→Value→Value→Value→(Value→Value→Value→Value→Value→Value→Value→Value→Value→World→Prop)→World→Prop) (w:WK body):Prop
 | mk (I:Value→Value→Value→Value→Value→Value→Value→Value→Value→World→Prop) (μ:Value→Value→Value→Value→Value→Value→Value→Value→Value→World→Nat) (h0:I s0 s1 s2 s3 s4 s5 s6 s7 s8 w) (round:∀v0 v1 v2 v3 v4 v5 v6 v7 v8 w,I v0 v1 v2 v3 v4 v5 v6 v7 v8 w→body v0 v1 v2 v3 v4 v5 v6 v7 v8 (λu0 u1 u2 u3 u4 u5 u6 u7 u8 w'=>I u0 u1 u2 u3 u4 u5 u6 u7 u8 w'∧μ u0 u1 u2 u3 u4 u5 u6 u7 u8 w'<μ v0 v1 v2 v3 v4 v5 v6 v7 v8 w) w)
inductive Loop10 (s0 s1 s2 s3 s4 s5 s6 s7 s8 s9:Value) (body:Value→Value→Value→Value→Value→Value→Value→Value→Value→Value→(Value→Value→Value→Value→Value→Value→Value→Value→Value→Value→World→Prop)→World→Prop) (w:WK body):Prop
 | mk (I:Value→Value→Value→Value→Value→Value→Value→Value→Value→Value→World→Prop) (μ:Value→Value→Value→Value→Value→Value→Value→Value→Value→Value→World→Nat) (h0:I s0 s1 s2 s3 s4 s5 s6 s7 s8 s9 w) (round:∀v0 v1 v2 v3 v4 v5 v6 v7 v8 v9 w,I v0 v1 v2 v3 v4 v5 v6 v7 v8 v9 w→body v0 v1 v2 v3 v4 v5 v6 v7 v8 v9 (λu0 u1 u2 u3 u4 u5 u6 u7 u8 u9 w'=>I u0 u1 u2 u3 u4 u5 u6 u7 u8 u9 w'∧μ u0 u1 u2 u3 u4 u5 u6 u7 u8 u9 w'<μ v0 v1 v2 v3 v4 v5 v6 v7 v8 v9 w) w)
def Af(e:Env)(s:Nat)(k:Value→Prop):Prop:=
 match Env.get e s with
 | .unk=>False
 | .und=>False
 | .val v=>k v
 | .lit b=>k (.bool b)
def GP(e:Env)(s:Nat)(k:Value→Prop):Prop:=bif Nat.beq s DK then False else Af e s k
def AY(e:Env)(dst:Option Nat)(x:Ent):Env:=
 match dst with
 | some d=>(d,x)::e
 | none=>e
def C1:List Nat→Env→Env
 | [],e=>e
 | d::ds,e=>(d,.unk)::C1 ds e
def Ent.value?:Ent→Option Value
 | .unk=>none
 | .und=>none
 | .val v=>some v
 | .lit b=>some (.bool b)
def DR(P:Program)(o:Oper)(e:Env)(k:Env→World→Prop)(w:World):Prop:=
 match o.op with
 | .move x=>k (AY e o.dst (Bb e x)) w
 | .assign x=>k (AY e o.dst (Bb e x)) w
 | .pick c x y=>match Bb e c with
  | .lit b=>bif b then k (AY e o.dst (Bb e x)) w else k (AY e o.dst (Bb e y)) w
  | .val v=>BrW v (k (AY e o.dst (Bb e x)) w) (k (AY e o.dst (Bb e y)) w) ()
  | _=>False
 | .binOp d t x y _=>match (Bb e x).value?,(Bb e y).value? with
  | some a,some b=>bif JD y then BinN P d t a (λv w=>k (AY e o.dst (.val v)) w) w else BinX P d t a b (λv w=>k (AY e o.dst (.val v)) w) w
  | _,_=>False
 | .go _=>False
 | .defer _=>False
 | .call { callee:=.builtin .print,.. }=>False
 | .call { callee:=.builtin .println,.. }=>False
 | d=>OpX P (Ct (Dr e) d) o.type (λv w=>k (AY e o.dst (.val v)) w) w
def DF(ops:List Oper)(j:Nat):Option Nat:=
 match ops,j with
 | [],_=>none
 | o::_,0=>o.dst
 | _::os,j+1=>DF os j
def IY(P:Program)(ops:List Oper)(o:Oper)(e:Env)(k:Env→World→Prop)(w:World):Prop:=
 match o.guard with
 | none=>DR P o e k w
 | some (j,want)=>match DF ops j with
  | none=>False
  | some d=>match DN e d with
   | .unk=>False
   | .lit b=>bif (bif b then want else !want) then DR P o e k w else k (AY e o.dst .und) w
   | .und=>k (AY e o.dst .und) w
   | .val v=>BrW v
     (bif want then DR P o ((d,.lit true)::e) k w else k (AY ((d,.lit true)::e) o.dst .und) w)
     (bif want then k (AY ((d,.lit false)::e) o.dst .und) w else DR P o ((d,.lit false)::e) k w) ()
def FQ(P:Program)(ops:List Oper):List Oper→Env→(Env→World→Prop)→World→Prop
 | [],e,K,w=>K e w
 | o::rest,e,K,w=>IY P ops o e (λe w=>FQ P ops rest e K w) w
inductive PurX (P:Program) (op:Op) (type:TypeId) (K:Value→Prop) (u:UK K):Prop
 | mk (v:Value) (h:∀ρ,B5 ρ→∀w,(execOp ρ (Ap op type)).run P w=.ok (.value v) w) (hk:K v)
inductive Yld (P:Program) (op:Op) (type:TypeId) (v:Value) (w:World):Prop
 | mk (h:∀ρ,B5 ρ→(execOp ρ (Ap op type)).run P w=.ok (.value v) w)
inductive RdX (P:Program) (op:Op) (type:TypeId) (K:Value→Prop) (w:WK K):Prop
 | mk (v:Value) (h:Yld P op type v w) (hk:K v)
def Bi(c:BinOp)(t:TypeId)(a b:Value)(x y:Operand):Sem Next:=do eqGuard c t x y a b;return Next.value (←binOp c t a b)
inductive PurB (P:Program) (op:BinOp) (t:TypeId) (a b:Value) (K:Value→Prop) (u:UK K):Prop
 | mk (v:Value) (h:∀x y w,(Bi op t a b x y).run P w=.ok (.value v) w) (hk:K v)
inductive YldB (P:Program) (op:BinOp) (t:TypeId) (a b:Value) (v:Value) (w:World):Prop
 | mk (h:∀x y,(Bi op t a b x y).run P w=.ok (.value v) w)
inductive RdB (P:Program) (op:BinOp) (t:TypeId) (a b:Value) (K:Value→Prop) (w:WK K):Prop
 | mk (v:Value) (h:YldB P op t a b v w) (hk:K v)
def CR:Op→Nat
 | .move _=>1
 | .assign _=>1
 | .pick _ _ _=>1
 | .nilCheck _=>2
 | .unOp _ _ _=>2
 | .convert _ _ _=>2
 | .fieldAddr _ _ _=>2
 | .field _ _ _=>2
 | .indexAddr _ _ _=>2
 | .index _ _ _=>2
 | .slice _ _ _ _ _=>2
 | .extract _ _=>2
 | .load _ _=>3
 | .lookup _ _ _ _=>3
 | .binOp .eql _ _ _ _=>3
 | .binOp .neq _ _ _ _=>3
 | .binOp _ _ _ _ _=>2
 | .call { callee:=.builtin .min,.. }=>2
 | .call { callee:=.builtin .max,.. }=>2
 | .call { callee:=.builtin .len,.. }=>3
 | .call { callee:=.builtin .cap,.. }=>3
 | _=>0
def Ko(P:Program)(o:Oper)(e:Env)(k:Env→Option (World→Prop)→Prop)(w:World):Prop:=
 match o.op with
 | .move x=>k (AY e o.dst (Bb e x)) none
 | .assign x=>k (AY e o.dst (Bb e x)) none
 | .pick c x y=>match Bb e c with
  | .lit b=>bif b then k (AY e o.dst (Bb e x)) none else k (AY e o.dst (Bb e y)) none
  | .val v=>BrW v (k (AY e o.dst (Bb e x)) none) (k (AY e o.dst (Bb e y)) none) ()
  | _=>False
 | .binOp d t x y _=>match (Bb e x).value?,(Bb e y).value? with
  | some a,some b=>bif Nat.beq (CR o.op) 2 then PurB P d t a b (λv=>k (AY e o.dst (.val v)) none) ()
    else RdB P d t a b (λv=>k (AY e o.dst (.val v)) (some (YldB P d t a b v))) w
  | _,_=>False
 | d=>match CR d with
  | 2=>PurX P (Ct (Dr e) d) o.type (λv=>k (AY e o.dst (.val v)) none) ()
  | 3=>RdX P (Ct (Dr e) d) o.type (λv=>k (AY e o.dst (.val v)) (some (Yld P (Ct (Dr e) d) o.type v))) w
  | _=>False
def Hp(ops:List Oper)(o:Oper)(e:Env)(a skip:Env→Prop):Prop:=
 match o.guard with
 | none=>a e
 | some (j,want)=>match DF ops j with
  | none=>False
  | some d=>match DN e d with
   | .unk=>False
   | .lit b=>bif (bif b then want else !want) then a e else skip e
   | .und=>skip e
   | .val v=>BrW v (bif want then a ((d,.lit true)::e) else skip ((d,.lit true)::e)) (bif want then skip ((d,.lit false)::e) else a ((d,.lit false)::e)) ()
abbrev Dv:=List (Nat × (World→Prop))
def JX:List (Nat × (World→Prop))→World→Prop→Prop
 | [],_,X=>X
 | p::l,w,X=>p.2 w∧JX l w X
def EU(a:List Nat):List Edge→Nat→Nat
 | [],s=>s
 | e::es,s=>EU a es (bif Region.binds .any e then s ||| 2 ^ e.on ||| a.getD e.on 0 else s)
def Ds:List Oper→List Nat→List Nat
 | [],acc=>acc
 | o::os,acc=>Ds os (acc++[EU acc o.after.toList 0])
def twB(a:List Nat)(j i:Nat):Bool:=(a.getD j 0).testBit i
def BN(a:List Nat)(j:Nat):List (Nat × (World→Prop))→List (Nat × (World→Prop))
 | []=>[]
 | p::l=>bif twB a j p.1 then BN a j l else p::BN a j l
def okE(m:Nat):List Edge→Bool
 | []=>true
 | e::es=>(bif Region.binds .any e then m.testBit e.on else true) && okE m es
def CL:List Oper→Nat→Nat→List Nat
 | [],_,_=>[]
 | o::os,i,m=>bif (!m.testBit i && okE m o.after.toList) then i::CL os (i+1) m else CL os (i+1) m
def JY(ops:List Oper)(i:Nat):Bool:=
 match ops,i with
 | [],_=>false
 | o::_,0=>!(Nat.beq (CR o.op) 0)
 | _::os,j+1=>JY os j
def F9(ops:List Oper):List Nat→Option Nat
 | []=>none
 | i::is=>bif JY ops i then some i else F9 ops is
def Ju:List Nat→(Nat→Prop)→Prop
 | [],_=>True
 | [j],f=>f j
 | j::js,f=>f j∧Ju js f
def Fg:List Oper→Nat→Option Oper
 | [],_=>none
 | o::_,0=>some o
 | _::os,j+1=>Fg os j
def trD(P:Program)(ops:List Oper)(a:List Nat):Nat→Nat→List (Nat × (World→Prop))→Env→(Env→World→Prop)→World→Prop
 | 0,m,_,e,K,w=>match CL ops 0 m with
  | []=>K e w
  | _=>False
 | n+1,m,held,e,K,w=>match CL ops 0 m with
  | []=>K e w
  | rs=>match F9 ops rs with
   | some i=>match Fg ops i with
    | none=>False
    | some o=>Hp ops o e
      (λe=>Ko P o e (λe S=>trD P ops a n (m ||| 2 ^ i) (match S with|some S=>(i,S)::held|none=>held) e K w) w)
      (λe=>trD P ops a n (m ||| 2 ^ i) held (AY e o.dst .und) K w)
   | none=>Ju rs λj=>match Fg ops j with
    | none=>False
    | some o=>Hp ops o e
      (λe=>DR P o e (λe w=>JX (BN a j held) w (trD P ops a n (m ||| 2 ^ j) (BN a j held) e K w)) w)
      (λe=>trD P ops a n (m ||| 2 ^ j) (BN a j held) (AY e o.dst .und) K w)
def EB(o:Oper)(i:Nat):Bool:=o.after.toList.any λe=>Region.binds .any e && Nat.beq e.on i
def FC(ops:Array Oper)(a:List Nat):Bool:=
 Region.noSelect ops && ops.toList.zipIdx.all λ(b,i)=>ops.toList.zipIdx.all λ(c,j)=>Nat.beq i j || EB c i || twB a i j || b.apart ops c
def EG(J:List Nat)(base:Env)(M:(Env→World→Prop)→World→Prop)(K:Env→World→Prop)(w:World):Prop:=
 match J with
 | []=>Join0 (λk w=>M (λe' w=>k w) w) (λw=>K base w) w
 | [s0]=>Join1 (λk w=>M (λe' w=>Af e' s0 λv0=>k v0 w) w) (λv0 w=>K ((s0,.val v0)::base) w) w
 | [s0,s1]=>Join2 (λk w=>M (λe' w=>Af e' s0 λv0=>Af e' s1 λv1=>k v0 v1 w) w) (λv0 v1 w=>K ((s0,.val v0)::(s1,.val v1)::base) w) w
 | [s0,s1,s2]=>Join3 (λk w=>M (λe' w=>Af e' s0 λv0=>Af e' s1 λv1=>Af e' s2 λv2=>k v0 v1 v2 w) w) (λv0 v1 v2 w=>K ((s0,.val v0)::(s1,.val v1)::(s2,.val v2)::base) w) w
 | [s0,s1,s2,s3]=>Join4 (λk w=>M (λe' w=>Af e' s0 λv0=>Af e' s1 λv1=>Af e' s2 λv2=>Af e' s3 λv3=>k v0 v1 v2 v3 w) w) (λv0 v1 v2 v3 w=>K ((s0,.val v0)::(s1,.val v1)::(s2,.val v2)::(s3,.val v3)::base) w) w
 | [s0,s1,s2,s3,s4]=>Join5 (λk w=>M (λe' w=>Af e' s0 λv0=>Af e' s1 λv1=>Af e' s2 λv2=>Af e' s3 λv3=>Af e' s4 λv4=>k v0 v1 v2 v3 v4 w) w) (λv0 v1 v2 v3 v4 w=>K ((s0,.val v0)::(s1,.val v1)::(s2,.val v2)::(s3,.val v3)::(s4,.val v4)::base) w) w
 | [s0,s1,s2,s3,s4,s5]=>Join6 (λk w=>M (λe' w=>Af e' s0 λv0=>Af e' s1 λv1=>Af e' s2 λv2=>Af e' s3 λv3=>Af e' s4 λv4=>Af e' s5 λv5=>k v0 v1 v2 v3 v4 v5 w) w) (λv0 v1 v2 v3 v4 v5 w=>K ((s0,.val v0)::(s1,.val v1)::(s2,.val v2)::(s3,.val v3)::(s4,.val v4)::(s5,.val v5)::base) w) w
 | [s0,s1,s2,s3,s4,s5,s6]=>Join7 (λk w=>M (λe' w=>Af e' s0 λv0=>Af e' s1 λv1=>Af e' s2 λv2=>Af e' s3 λv3=>Af e' s4 λv4=>Af e' s5 λv5=>Af e' s6 λv6=>k v0 v1 v2 v3 v4 v5 v6 w) w) (λv0 v1 v2 v3 v4 v5 v6 w=>K ((s0,.val v0)::(s1,.val v1)::(s2,.val v2)::(s3,.val v3)::(s4,.val v4)::(s5,.val v5)::(s6,.val v6)::base) w) w
 | [s0,s1,s2,s3,s4,s5,s6,s7]=>Join8 (λk w=>M (λe' w=>Af e' s0 λv0=>Af e' s1 λv1=>Af e' s2 λv2=>Af e' s3 λv3=>Af e' s4 λv4=>Af e' s5 λv5=>Af e' s6 λv6=>Af e' s7 λv7=>k v0 v1 v2 v3 v4 v5 v6 v7 w) w) (λv0 v1 v2 v3 v4 v5 v6 v7 w=>K ((s0,.val v0)::(s1,.val v1)::(s2,.val v2)::(s3,.val v3)::(s4,.val v4)::(s5,.val v5)::(s6,.val v6)::(s7,.val v7)::base) w) w
 | _=>False
def Ks(L:List Nat)(e:Env)(base:Env)(body:Env→(Env→World→Prop)→World→Prop)(w:World):Prop:=
 match L with
 | []=>Loop0 (λnext w=>body (base) (λe' w=>next w) w) w
 | [s0]=>Af e s0 λu0=>Loop1 u0 (λv0 next w=>body ((s0,.val v0)::base) (λe' w=>Af e' s0 λv0=>next v0 w) w) w
 | [s0,s1]=>Af e s0 λu0=>Af e s1 λu1=>Loop2 u0 u1 (λv0 v1 next w=>body ((s0,.val v0)::(s1,.val v1)::base) (λe' w=>Af e' s0 λv0=>Af e' s1 λv1=>next v0 v1 w) w) w
 | [s0,s1,s2]=>Af e s0 λu0=>Af e s1 λu1=>Af e s2 λu2=>Loop3 u0 u1 u2 (λv0 v1 v2 next w=>body ((s0,.val v0)::(s1,.val v1)::(s2,.val v2)::base) (λe' w=>Af e' s0 λv0=>Af e' s1 λv1=>Af e' s2 λv2=>next v0 v1 v2 w) w) w
 | [s0,s1,s2,s3]=>Af e s0 λu0=>Af e s1 λu1=>Af e s2 λu2=>Af e s3 λu3=>Loop4 u0 u1 u2 u3 (λv0 v1 v2 v3 next w=>body ((s0,.val v0)::(s1,.val v1)::(s2,.val v2)::(s3,.val v3)::base) (λe' w=>Af e' s0 λv0=>Af e' s1 λv1=>Af e' s2 λv2=>Af e' s3 λv3=>next v0 v1 v2 v3 w) w) w
 | [s0,s1,s2,s3,s4]=>Af e s0 λu0=>Af e s1 λu1=>Af e s2 λu2=>Af e s3 λu3=>Af e s4 λu4=>Loop5 u0 u1 u2 u3 u4 (λv0 v1 v2 v3 v4 next w=>body ((s0,.val v0)::(s1,.val v1)::(s2,.val v2)::(s3,.val v3)::(s4,.val v4)::base) (λe' w=>Af e' s0 λv0=>Af e' s1 λv1=>Af e' s2 λv2=>Af e' s3 λv3=>Af e' s4 λv4=>next v0 v1 v2 v3 v4 w) w) w
 | [s0,s1,s2,s3,s4,s5]=>Af e s0 λu0=>Af e s1 λu1=>Af e s2 λu2=>Af e s3 λu3=>Af e s4 λu4=>Af e s5 λu5=>Loop6 u0 u1 u2 u3 u4 u5 (λv0 v1 v2 v3 v4 v5 next w=>body ((s0,.val v0)::(s1,.val v1)::(s2,.val v2)::(s3,.val v3)::(s4,.val v4)::(s5,.val v5)::base) (λe' w=>Af e' s0 λv0=>Af e' s1 λv1=>Af e' s2 λv2=>Af e' s3 λv3=>Af e' s4 λv4=>Af e' s5 λv5=>next v0 v1 v2 v3 v4 v5 w) w) w
 | [s0,s1,s2,s3,s4,s5,s6]=>Af e s0 λu0=>Af e s1 λu1=>Af e s2 λu2=>Af e s3 λu3=>Af e s4 λu4=>Af e s5 λu5=>Af e s6 λu6=>Loop7 u0 u1 u2 u3 u4 u5 u6 (λv0 v1 v2 v3 v4 v5 v6 next w=>body ((s0,.val v0)::(s1,.val v1)::(s2,.val v2)::(s3,.val v3)::(s4,.val v4)::(s5,.val v5)::(s6,.val v6)::base) (λe' w=>Af e' s0 λv0=>Af e' s1 λv1=>Af e' s2 λv2=>Af e' s3 λv3=>Af e' s4 λv4=>Af e' s5 λv5=>Af e' s6 λv6=>next v0 v1 v2 v3 v4 v5 v6 w) w) w
 | [s0,s1,s2,s3,s4,s5,s6,s7]=>Af e s0 λu0=>Af e s1 λu1=>Af e s2 λu2=>Af e s3 λu3=>Af e s4 λu4=>Af e s5 λu5=>Af e s6 λu6=>Af e s7 λu7=>Loop8 u0 u1 u2 u3 u4 u5 u6 u7 (λv0 v1 v2 v3 v4 v5 v6 v7 next w=>body ((s0,.val v0)::(s1,.val v1)::(s2,.val v2)::(s3,.val v3)::(s4,.val v4)::(s5,.val v5)::(s6,.val v6)::(s7,.val v7)::base) (λe' w=>Af e' s0 λv0=>Af e' s1 λv1=>Af e' s2 λv2=>Af e' s3 λv3=>Af e' s4 λv4=>Af e' s5 λv5=>Af e' s6 λv6=>Af e' s7 λv7=>next v0 v1 v2 v3 v4 v5 v6 v7 w) w) w
 | [s0,s1,s2,s3,s4,s5,s6,s7,s8]=>Af e s0 λu0=>Af e s1 λu1=>Af e s2 λu2=>Af e s3 λu3=>Af e s4 λu4=>Af e s5 λu5=>Af e s6 λu6=>Af e s7 λu7=>Af e s8 λu8=>Loop9 u0 u1 u2 u3 u4 u5 u6 u7 u8 (λv0 v1 v2 v3 v4 v5 v6 v7 v8 next w=>body ((s0,.val v0)::(s1,.val v1)::(s2,.val v2)::(s3,.val v3)::(s4,.val v4)::(s5,.val v5)::(s6,.val v6)::(s7,.val v7)::(s8,.val v8)::base) (λe' w=>Af e' s0 λv0=>Af e' s1 λv1=>Af e' s2 λv2=>Af e' s3 λv3=>Af e' s4 λv4=>Af e' s5 λv5=>Af e' s6 λv6=>Af e' s7 λv7=>Af e' s8 λv8=>next v0 v1 v2 v3 v4 v5 v6 v7 v8 w) w) w
 | [s0,s1,s2,s3,s4,s5,s6,s7,s8,s9]=>Af e s0 λu0=>Af e s1 λu1=>Af e s2 λu2=>Af e s3 λu3=>Af e s4 λu4=>Af e s5 λu5=>Af e s6 λu6=>Af e s7 λu7=>Af e s8 λu8=>Af e s9 λu9=>Loop10 u0 u1 u2 u3 u4 u5 u6 u7 u8 u9 (λv0 v1 v2 v3 v4 v5 v6 v7 v8 v9 next w=>body ((s0,.val v0)::(s1,.val v1)::(s2,.val v2)::(s3,.val v3)::(s4,.val v4)::(s5,.val v5)::(s6,.val v6)::(s7,.val v7)::(s8,.val v8)::(s9,.val v9)::base) (λe' w=>Af e' s0 λv0=>Af e' s1 λv1=>Af e' s2 λv2=>Af e' s3 λv3=>Af e' s4 λv4=>Af e' s5 λv5=>Af e' s6 λv6=>Af e' s7 λv7=>Af e' s8 λv8=>Af e' s9 λv9=>next v0 v1 v2 v3 v4 v5 v6 v7 v8 v9 w) w) w
 | _=>False
inductive LSt where
 | ready
 | busy
 | gone (ex:Ex)
 | over (ex:Ex)
def BA:List Value→Nat→Value
 | [],_=>undef
 | v::_,0=>v
 | _::l,n+1=>BA l n
def Bm(P:Program)(yv:Value)(vs:List Value)(K:rD)(w:World):Prop:=
 ∀(a:Array TypeId) (b:TypeId),OpX P (.call { callee:=.value (.const yv),args:=(vs.map Operand.const).toArray,argTypes:=a }) b K w
inductive CallV (P:Program) (fv:Value) (vs:List Value) (w:World) (R:World→Prop):Prop
 | mk (f:FuncId) (us cs:List Value) (hf:fv=.func (.func f) us.toArray cs.toArray) (hb:Ad P f) (h:Calls P f (us++vs++cs).toArray w (Ac λ_ w'=>R w'))
inductive RngX (P:Program) (fv:Value) (np:Nat) (M:List Value→((World→Prop)→World→Prop)→(World→Prop)→(World→Prop)→(Nat→World→Prop)→World→Prop)
  (QN QR:Nat→World→Prop) (QE:List (Nat × (Nat→World→Prop))) (w:World):Prop
 | mk (h:∀(Lp:LSt→Obj) (yv:Value),
   (∀vs w2 K,vs.length=np→w2.heap[w.heap.size+1]?=some (Lp .ready) →
    M vs (λK w1=>w1.heap[w.heap.size+1]?=some (Lp .ready)∧K (Ab w1 (w.heap.size+1) (Lp .busy)))
     (λw3=>w3.heap[w.heap.size+1]?=some (Lp .busy)∧K (.bool true) (Ab w3 (w.heap.size+1) (Lp .ready)))
     (λw3=>w3.heap[w.heap.size+1]?=some (Lp .busy)∧K (.bool false) (Ab w3 (w.heap.size+1) (Lp (.gone .ret))))
     (λid w3=>w3.heap[w.heap.size+1]?=some (Lp .busy)∧K (.bool false) (Ab w3 (w.heap.size+1) (Lp (.gone (.exit id)))))
     w2→Bm P yv vs K w2) →
   CallV P fv [yv] ((w.alloc (.deferred (some []))).alloc (Lp .ready)) λw3 =>
    (w3.heap[w.heap.size+1]?=some (Lp .ready)∧QN w.heap.size (Ab w3 (w.heap.size+1) (Lp (.over .normal)))) ∨
    (w3.heap[w.heap.size+1]?=some (Lp (.gone .ret))∧QR w.heap.size (Ab w3 (w.heap.size+1) (Lp (.over .ret)))) ∨
    (∃id q,(id,q)∈QE∧w3.heap[w.heap.size+1]?=some (Lp (.gone (.exit id)))∧q w.heap.size (Ab w3 (w.heap.size+1) (Lp (.over (.exit id))))))
abbrev Fy:=List (Nat × List Nat)
def EV:Fy→Nat→Option (List Nat)
 | [],_=>none
 | (m,l)::hs,n=>bif Nat.beq m n then some l else EV hs n
def B1:List Oper→List Nat
 | []=>[]
 | o::os=>match o.dst with
  | some d=>d::B1 os
  | none=>B1 os
def Cm:Code→List Nat
 | .region _ a _=>B1 a.toList
 | .seq x y=>Cm x++Cm y
 | .cond _ x y=>Cm x++Cm y
 | .block _ c=>Cm c
 | .loop c=>Cm c
 | .scope c=>Cm c
 | .rangeFunc _ _ _ _=>[DK]
 | _=>[]
def Cf:Code→Nat
 | .seq x y=>Cf x+Cf y+1
 | .cond _ x y=>Cf x+Cf y+1
 | .block _ c=>Cf c+1
 | .loop c=>Cf c+1
 | .scope c=>Cf c+1
 | .rangeFunc _ _ x y=>Cf x+Cf y+1
 | _=>1
def He(next:Env→World→Prop)(Q:Ex→Env→World→Prop):Ex→Env→World→Prop
 | .normal,e,w=>next e w
 | .exit id,e,w=>Q (.exit id) e w
 | .ret,e,w=>Q .ret e w
def E4(id:Nat)(next:Env→World→Prop)(Q:Ex→Env→World→Prop):Ex→Env→World→Prop
 | .normal,e,w=>next e w
 | .exit id',e,w=>bif Nat.beq id' id then next e w else Q (.exit id') e w
 | .ret,e,w=>Q .ret e w
def Iz:List Nat→Nat→Bool
 | [],_=>false
 | d::ds,n=>Nat.beq d n || Iz ds n
def DG:Code→List Nat→List Nat→List Nat
 | .exit id,bound,acc=>bif Iz bound id || Iz acc id then acc else acc++[id]
 | .seq x y,bound,acc=>DG y bound (DG x bound acc)
 | .cond _ x y,bound,acc=>DG y bound (DG x bound acc)
 | .block id c,bound,acc=>DG c (id::bound) acc
 | .loop c,bound,acc=>DG c bound acc
 | .scope c,bound,acc=>DG c bound acc
 | _,_,acc=>acc
def Dj:Code→Bool
 | .ret=>true
 | .seq x y=>Dj x || Dj y
 | .cond _ x y=>Dj x || Dj y
 | .block _ c=>Dj c
 | .loop c=>Dj c
 | .scope c=>Dj c
 | _=>false
def Ez:List Tmp→Nat→List Value→Env→Env
 | [],_,_,e=>e
 | p::ps,i,vs,e=>Ez ps (i+1) vs ((p,.val (BA vs i))::e)
def X0(a b:World→Prop)(c:Nat→World→Prop):Ex→Env→World→Prop
 | .normal,_,w=>a w
 | .ret,_,w=>b w
 | .exit id,_,w=>c id w
def ZU(b:Bool)(q:Nat→World→Prop):Nat→World→Prop:=bif b then q else λ_ _=>False
def J1(e:Env)(c:Operand)(b:Bool):Env:=
 match c with
 | .tmp t=>(t,.lit b)::e
 | _=>e
def tr(P:Program)(top:Bool)(hs:Fy):Code→Nat→(Ex→Env→World→Prop)→Env→World→Prop
 | .skip,_,Q,e,w=>Q .normal e w
 | .region _ ops false,n,Q,e,w=>match EV hs n with
  | none=>FQ P ops.toList ops.toList e (λe w=>Q .normal e w) w
  | some J=>EG J (C1 (B1 ops.toList) e) (λk w=>FQ P ops.toList ops.toList e k w) (λe w=>Q .normal e w) w
 | .region _ ops true,n,Q,e,w=>match FC ops (Ds ops.toList []) with
  | false=>False
  | true=>match EV hs n with
   | none=>trD P ops.toList (Ds ops.toList []) ops.size 0 [] e (λe w=>Q .normal e w) w.drew
   | some J=>EG J (C1 (B1 ops.toList) e) (λk w=>trD P ops.toList (Ds ops.toList []) ops.size 0 [] e k w) (λe w=>Q .normal e w) w.drew
 | .seq x y,n,Q,e,w=>match EV hs n with
  | none=>tr P top hs x (n+1) (He (λe w=>tr P top hs y (n+1+Cf x) Q e w) Q) e w
  | some J=>EG J (C1 (Cm x) e) (λk w=>tr P top hs x (n+1) (He k Q) e w) (λe w=>tr P top hs y (n+1+Cf x) Q e w) w
 | .cond c x y,n,Q,e,w=>match Bb e c with
  | .unk=>False
  | .und=>False
  | .lit b=>bif b then tr P top hs x (n+1) Q e w else tr P top hs y (n+1+Cf x) Q e w
  | .val v=>BrW v (tr P top hs x (n+1) Q (J1 e c true) w) (tr P top hs y (n+1+Cf x) Q (J1 e c false) w) ()
 | .block id c,n,Q,e,w=>match EV hs n with
  | none=>tr P top hs c (n+1) (E4 id (λe w=>Q .normal e w) Q) e w
  | some J=>EG J (C1 (Cm c) e) (λk w=>tr P top hs c (n+1) (E4 id k Q) e w) (λe w=>Q .normal e w) w
 | .loop c,n,Q,e,w=>match EV hs n with
  | none=>False
  | some L=>Ks L e (C1 (Cm c) e) (λe next w=>tr P top hs c (n+1) (He next Q) e w) w
 | .rangeFunc f params x y,n,Q,e,w=>match top,Bb e f,Env.get e DK with
  | true,.val fv,.val dv=>RngX P fv params.size
    (λvs bg kn kr kx w=>tr P false hs x (n+1) (He (λe w=>bg (λw=>tr P false hs y (n+1+Cf x) (X0 kn kr kx) e w) w) (λ_ _ _=>False)) (Ez params.toList 0 vs ((DK,.unk)::e)) w)
    (λr w=>Q .normal ((DK,.val (Cr r dv))::e) w)
    (ZU (Dj y) λr w=>Q .ret ((DK,.val (Cr r dv))::e) w)
    ((DG y [] []).map λid=>(id,λr w=>Q (.exit id) ((DK,.val (Cr r dv))::e) w)) w
  | _,_,_=>False
 | .scope c,n,Q,e,w=>tr P top hs c (n+1) Q e w
 | .label _,_,Q,e,w=>Q .normal e w
 | .exit id,_,Q,e,w=>Q (.exit id) e w
 | .ret,_,Q,e,w=>Q .ret e w
 | _,_,_,_,_=>False
def KJ:List Value→Value
 | [v]=>v
 | vs=>.tuple vs.toArray
def D9(P:Program):List ResultVar→List Value→(Value→World→Prop)→Env→World→Prop
 | [],acc,K,_,w=>K (KJ acc.reverse) w
 | .tmp t::rs,acc,K,e,w=>GP e t λv=>D9 P rs (v::acc) K e w
 | .cell a t::rs,acc,K,e,w=>GP e a λv=>LdR P t v (λx w=>D9 P rs (x::acc) K e w) w
def Kp(P:Program)(a:List ResultVar)(K:rD):Ex→Env→World→Prop
 | .normal,e,w=>Af e DK λv=>B0 v (λw=>D9 P a [] K e w) w
 | .ret,e,w=>Af e DK λv=>B0 v (λw=>D9 P a [] K e w) w
 | .exit _,_,_=>False
def E2:Nat→List Value→Env
 | _,[]=>[]
 | i,v::vs=>(i,.val v)::E2 (i+1) vs
def HL(vs:List Value):Env:=(DK,.val (.tuple #[]))::E2 0 vs
def C9(N:Nat):List Oper→Bool
 | []=>true
 | o::os=>(match o.dst with|some d=>Nat.blt d N|none=>true) && C9 N os
def wfc(N:Nat):Code→Bool
 | .region _ a _=>C9 N a.toList
 | .seq x y=>wfc N x && wfc N y
 | .cond _ x y=>wfc N x && wfc N y
 | .block _ c=>wfc N c
 | .loop c=>wfc N c
 | .scope c=>wfc N c
 | .rangeFunc _ b x y=>b.toList.all (λp=>Nat.blt p N) && wfc N x && wfc N y
 | _=>true
def Frz(b:List Nat)(a c:Act):Prop:=c.tmps.size=a.tmps.size∧∀s,s∉b→Aj c s=Aj a s
theorem Frz.refl(b:List Nat)(a:Act):Frz b a a:=⟨rfl,λ_ _=>rfl⟩
theorem Frz.trans{d e:List Nat}{a b c:Act}(h:Frz d a b)(f:Frz e b c):Frz (d++e) a c:=
 ⟨f.1.trans h.1,λs g=>by
  simp only[List.mem_append,not_or] at g;rw[f.2 s g.2,h.2 s g.1]⟩
theorem Frz.mono{ds ds':List Nat}{a b:Act}(h:Frz ds a b)(hs:∀s∈ds,s∈ds'):Frz ds' a b:=
 ⟨h.1,λs hn=>h.2 s λhm=>hn (hs s hm)⟩
theorem Env.get_cons(d:Nat)(x:Ent)(e:Env)(i:Nat):Env.get ((d,x)::e) i=if d=i then x else Env.get e i:=by
 show(bif Nat.beq d i then x else Env.get e i)=_;by_cases h:d=i
 ·subst h;simp [Nat.beq_refl]
 ·have a:Nat.beq d i=false:=by
   cases a:Nat.beq d i with
   | true=>exact absurd (Nat.eq_of_beq_eq_true a) h
   | false=>rfl
  simp [h,a]
theorem Db(a:Act){d:Nat}(h:d≠DK):Aj a d=a.tmps.getD d undef:=by unfold Aj;rw[rF h]
theorem RG(t:Nat):Nat.beq t DK=decide (t=DK):=by
 cases h:Nat.beq t DK with
 | true=>simp [Nat.eq_of_beq_eq_true h]
 | false =>
  have:t≠DK:=by rintro rfl;rw[Nat.beq_refl] at h;cases h
  simp [this]
theorem An{e:Env}{a:Act}{d:Nat}{x:Ent}(h:Ax e a)(b:x.ok (Aj a d)):Ax ((d,x)::e) a:=by
 refine⟨h.1,λi=>?_⟩;rw[Env.get_cons];split
 ·rename_i c;subst c;exact b
 ·exact h.2 i
theorem Hj{e:Env}{a:Act}(h:Ax e a)(d:Nat):(DN e d).ok (a.tmps.getD d undef):=by
 unfold DN;rw[RG];by_cases b:d=DK
 ·simp [b,Ent.ok]
 ·simp only[b,decide_false,cond_false];have:=h.2 d;rw[Db a b] at this;exact this
theorem Di{e:Env}{a:Act}{d:Nat}{x:Ent}(h:Ax e a)(b:DN e d≠.unk)(c:x.ok (a.tmps.getD d undef)):Ax ((d,x)::e) a:=by
 refine An h ?_;rw[Db]
 ·exact c
 ·rintro rfl;apply b;unfold DN;rw[Nat.beq_refl];rfl
theorem QI(a:Act)(d:Nat)(v:Value)(b:d<a.tmps.size)(c:a.tmps.size≤DK)(i:Nat):Aj (a.put (some d) v) i=if d=i then v else Aj a i:=by
 have e:d≠DK:=O;by_cases f:i=DK
 ·subst f;rw[rF e];rfl
 ·rw[Db _ f,Db _ f];simp only[Act.put,Array.getD_eq_getD_getElem?];by_cases h:d=i
  ·subst h;simp [b]
  ·simp [h,Array.getElem?_setIfInBounds_ne h]
theorem BM{e:Env}{a:Act}{dst:Option Nat}{x:Ent}{v:Value}(h:Ax e a)(b:x.ok v)(c:∀d,dst=some d→d<a.tmps.size):Ax (AY e dst x) (a.put dst v):=by
 cases dst with
 | none=>exact h
 | some d =>
  refine⟨by simpa [Act.put] using h.1,λi=>?_⟩;show(Env.get ((d,x)::e) i).ok _;rw[Env.get_cons,QI a d v (c d rfl) h.1];split
  ·exact b
  ·exact h.2 i
theorem PW(a:Act)(dst:Option Nat)(v:Value)(b:∀d,dst=some d→d<a.tmps.size)(c:a.tmps.size≤DK):Frz dst.toList a (a.put dst v):=by
 cases dst with
 | none=>exact Frz.refl _ _
 | some d =>
  refine⟨by simp [Act.put],λs f=>?_⟩;rw[QI a d v (b d rfl) c];have:d≠s:=λe=>f (by simp [e]);simp [this]
theorem aX(a:List Nat)(e:Env)(i:Nat):Env.get (C1 a e) i=if i∈a then .unk else Env.get e i:=by
 induction a with
 | nil=>simp [C1]
 | cons d a b =>
  show Env.get ((d,.unk)::C1 a e) i=_;rw[Env.get_cons,b];by_cases h:d=i
  ·simp [h]
  ·have:¬i=d:=λe=>h e.symm;simp [h,this]
theorem Fk{e:Env}{a b:Act}{c:List Nat}(h:Ax e a)(d:Frz c a b):Ax (C1 c e) b:=by
 refine⟨by rw[d.1];exact h.1,λi=>?_⟩;rw[aX];split
 ·trivial
 ·rename_i f;rw[d.2 i f];exact h.2 i
theorem B2{e:Env}{a:Act}(h:Ax e a)(x:Operand):(Bb e x).ok (a.eval x):=by
 cases x with
 | tmp t=>exact Hj h t
 | const v=>cases v<;>simp [Bb,Ent.ok,Act.eval]
 | global g=>simp [Bb,Ent.ok,Act.eval]
 | func f=>simp [Bb,Ent.ok,Act.eval]
theorem KH{e:Env}{a:Act}(h:Ax e a)(x:Operand):a.eval (Dr e x)=a.eval x:=by
 cases x with
 | tmp t =>
  have:=Hj h t;simp only[Dr];split<;>rename_i b<;>simp only[b,Ent.ok] at this
  ·rfl
  ·rfl
  ·simp [Act.eval,this]
  ·simp [Act.eval,this]
 | _=>rfl
theorem Ah{e:Env}{a:Act}{s:Nat}{k:Value→Prop}(h:Ax e a)(b:Af e s k):k (Aj a s):=by
 have:=h.2 s;unfold Af at b;split at b<;>rename_i c<;>simp only[c,Ent.ok] at this
 ·exact b.elim
 ·exact b.elim
 ·rw[this];exact b
 ·rw[this];exact b
theorem NC{e:Env}{a:Act}{s:Nat}{k:Value→Prop}(h:Ax e a)(b:GP e s k):k (a.tmps.getD s undef):=by
 unfold GP at b;rw[RG] at b;by_cases c:s=DK
 ·simp [c] at b
 ·simp only[c,decide_false,cond_false] at b;have:=Ah h b
  rwa [Db a c] at this
theorem value?_ok {x:Ent} {u v:Value} (h:x.ok u) (a:x.value?=some v):u=v:=by
 cases x<;>simp [Ent.value?] at a<;>subst a<;>exact h
theorem SU{α β γ:Type}(g:Sem α)(f:α→Sem β)(h:β→Sem γ):(g.bind f).bind h=g.bind λx=>(f x).bind h:=by
 induction g<;>simp only[Sem.bind]
 all_goals (first|(congr 1;funext x;rename_i a;exact a x)|(congr 1))
section
variable {P:Program}
theorem K1{o:Oper}{e:Env}{k:Env→World→Prop}{a:Act}{w:World}(h:Ax e a)(hd:∀d,o.dst=some d→d<a.tmps.size)(ht:DR P o e k w):
  (∀c,o.op≠.defer c)∧BB P w (λv w'=>∃e',Ax e' (a.put o.dst v)∧k e' w') ((execOp a.eval o).run P w):=by
 have gen:odd o.op=false→OpX P (Ct (Dr e) o.op) o.type (λv w=>k (AY e o.dst (.val v)) w) w →
   (∀c,o.op≠.defer c)∧BB P w (λv w'=>∃e',Ax e' (a.put o.dst v)∧k e' w') ((execOp a.eval o).run P w):=by
  intro hodd hx;refine⟨λc hc=>by rw[hc] at hodd;simp [odd] at hodd,?_⟩;rw[JR o (KH h) hodd];have:=OpX.out.1 hx a.eval (Jr a)
  revert this
  generalize (execOp a.eval (Ap (Ct (Dr e) o.op) o.type)).run P w=r;have up:∀(K K':Value→World→Prop),(∀v w,K v w→K' v w)→∀r,BB P w K r→BB P w K' r:=by
   intro K K' hk r;unfold BB;split
   ·exact hk _ _
   ·exact hk _ _
   ·exact λhc=>hc.mono λe w h=>by cases e<;>first|exact hk _ _ h|exact h
   ·rintro⟨h⟩;exact⟨λc cs=>let ⟨v,w',hK,hs⟩:=h c cs;⟨v,w',hk _ _ hK,hs⟩⟩
   ·exact λhc=>hc.mono λv w h=>hk _ _ h
   ·rintro⟨e,⟨h⟩⟩;exact⟨e,⟨λfr cs es he=>let ⟨v,w',hK,hs⟩:=h fr cs es he;⟨v,w',hk _ _ hK,hs⟩⟩⟩
   ·exact id
  exact up _ _ (λv w hk=>⟨_,BM h (by simp [Ent.ok]) hd,hk⟩) r
 have bin:∀(op:BinOp) (t:TypeId) (x y:Operand) (u:TypeId),o.op=.binOp op t x y u →
   BB P w (λv w=>k (AY e o.dst (.val v)) w) ((do eqGuard op t x y (a.eval x) (a.eval y);return Next.value (←binOp op t (a.eval x) (a.eval y))).run P w) →
   (∀c,o.op≠.defer c)∧BB P w (λv w'=>∃e',Ax e' (a.put o.dst v)∧k e' w') ((execOp a.eval o).run P w):=by
  intro op t x y u ho hx;refine⟨λc hc=>by rw[ho] at hc;simp at hc,?_⟩;have he:execOp a.eval o=(do eqGuard op t x y (a.eval x) (a.eval y);return Next.value (←binOp op t (a.eval x) (a.eval y))):=by
   unfold execOp;rw[ho];simp only[bind,pure,SU]
  rw[he];have:=hx
  revert this
  generalize Sem.run P _ w=r;unfold BB;have ag:∀v,Ax (AY e o.dst (.val v)) (a.put o.dst v):=λv=>BM h (by simp [Ent.ok]) hd;split
  ·exact λhk=>⟨_,ag _,hk⟩
  ·exact λhk=>⟨_,ag _,hk⟩
  ·exact λhc=>hc.mono λe w h=>by cases e<;>first|exact⟨_,ag _,h⟩|exact h
  ·rintro⟨h⟩;exact⟨λc cs=>let ⟨v,w',hK,hs⟩:=h c cs;⟨v,w',⟨_,ag _,hK⟩,hs⟩⟩
  ·exact λhc=>hc.mono λv w h=>⟨_,ag _,h⟩
  ·rintro⟨e,⟨h⟩⟩;exact⟨e,⟨λfr cs es he=>let ⟨v,w',hK,hs⟩:=h fr cs es he;⟨v,w',⟨_,ag _,hK⟩,hs⟩⟩⟩
  ·exact id
 unfold DR at ht;split at ht
 ·rename_i x ho;refine⟨λc hc=>by rw[ho] at hc;simp at hc,?_⟩;unfold execOp;rw[ho];exact⟨_,BM h (B2 h x) hd,ht⟩
 ·rename_i x ho;refine⟨λc hc=>by rw[ho] at hc;simp at hc,?_⟩;unfold execOp;rw[ho];exact⟨_,BM h (B2 h x) hd,ht⟩
 ·rename_i c x y ho;refine⟨λc hc=>by rw[ho] at hc;simp at hc,?_⟩;have hc:=B2 h c;have key:∀b,a.eval c=.bool b→(b=true→k (AY e o.dst (Bb e x)) w)→(b=false→k (AY e o.dst (Bb e y)) w) →
    BB P w (λv w'=>∃e',Ax e' (a.put o.dst v)∧k e' w') ((execOp a.eval o).run P w):=by
   intro b hb h1 h2;unfold execOp;rw[ho];simp only[hb];cases b
   ·exact⟨_,BM h (B2 h y) hd,h2 rfl⟩
   ·exact⟨_,BM h (B2 h x) hd,h1 rfl⟩
  split at ht<;>rename_i hce<;>simp only[hce,Ent.ok] at hc
  ·rename_i b;refine key b hc ?_ ?_<;>(rintro rfl;exact ht)
  ·obtain⟨b,hb,h1,h2⟩:=ht;exact key b (hc.trans hb) h1 h2
  ·exact ht.elim
 ·rename_i op t x y u ho;refine bin op t x y u ho ?_;split at ht
  ·rename_i va vb ha hb;rw[value?_ok (B2 h x) ha,value?_ok (B2 h y) hb];cases hn:JD y
   ·rw[hn] at ht;obtain⟨hx⟩:=ht;exact hx x y
   ·rw[hn] at ht;have ey:y=.const .nilIface:=by
     unfold JD at hn;split at hn
     ·rfl
     ·cases hn
    subst ey;have eb:vb=.nilIface:=(value?_ok (B2 h (.const .nilIface)) hb).symm;subst eb;obtain⟨hx⟩:=ht;exact hx x
  ·exact ht.elim
 ·exact ht.elim
 ·exact ht.elim
 ·exact ht.elim
 ·exact ht.elim
 ·rename_i n1 n2 n3 n4 n5 n6 n7 n8;refine gen ?_ ht;unfold odd;split
  ·rename_i c hc;exact absurd hc (n5 c)
  ·rename_i c hc;exact absurd hc (n6 c)
  ·rename_i _ _ _ _ _ hc;exact absurd hc (n4 _ _ _ _ _)
  ·rename_i _ _ hc;exact absurd hc (n7 _ _)
  ·rename_i _ _ hc;exact absurd hc (n8 _ _)
  ·rfl
theorem P8(l:List Oper)(j:Nat):DF l j=(l[j]?).bind (·.dst):=by
 induction l generalizing j with
 | nil=>simp [DF]
 | cons o a b=>cases j<;>simp [DF,b]
theorem KS{N:Nat}:∀{l:List Oper},C9 N l=true→∀o∈l,∀d,o.dst=some d→d<N
 | [],_,o,a,_,_=>by simp at a
 | p::l,h,o,a,d,hd=>by
  simp only[C9,Bool.and_eq_true] at h;rcases rM.1 a with rfl|a
  ·have:=h.1;rw[hd] at this;simpa [Nat.blt_eq] using this
  ·exact KS h.2 o a d hd
theorem HA{ops:Array Oper}{o:Oper}{a:Act}{j:Nat}{c b:Bool}{d:Nat}(e:o.guard=some (j,c))(f:DF ops.toList j=some d)(g:a.tmps.getD d undef=.bool b):Region.wanted o (yielded ops a.tmps)=(b == c):=by
 have i:(ops[j]?).bind (·.dst)=some d:=by rw[P8] at f;simpa using f
 have k:a.tmps[d]?=some (.bool b):=by
  rw[Array.getD_eq_getD_getElem?] at g;cases h:a.tmps[d]? with
  | none=>rw[h] at g;simp [undef] at g
  | some x=>rw[h] at g;simpa using g
 simp only[Region.wanted,e,yielded,i,Option.bind_some,k];cases b<;>cases c<;>rfl
theorem NR{ops:Array Oper}{o:Oper}{a:Act}{j:Nat}{b:Bool}{d:Nat}(c:o.guard=some (j,b))(e:DF ops.toList j=some d)(f:a.tmps.getD d undef=undef):Region.wanted o (yielded ops a.tmps)=false:=by
 have g:(ops[j]?).bind (·.dst)=some d:=by rw[P8] at e;simpa using e
 simp only[Region.wanted,c,yielded,g,Option.bind_some];rw[Array.getD_eq_getD_getElem?] at f;cases h:a.tmps[d]? with
 | none=>rfl
 | some x=>rw[h] at f;simp only[Option.getD_some] at f;subst f;rfl
theorem cw{ops:Array Oper}{o:Oper}{e:Env}{k:Env→World→Prop}{a:Act}{w:World}{i:Nat}(c:ops[i]?=some o)(h:Ax e a)(f:∀d,o.dst=some d→d<a.tmps.size)(g:IY P ops.toList o e k w)(b:Frame)(rest:List Nat)(l:List Item)(cs:List Frame):
  ∃v m,(∃n,Ax n (a.put o.dst v)∧k n m)∧Steps P (lone (At b a (.inRegion ops (i::rest)::l)) cs w) (lone (At b (a.put o.dst v) (.inRegion ops rest::l)) cs m):=by
 have p:∀e,Ax e a→Region.wanted o (yielded ops a.tmps)=true→DR P o e k w →
   ∃v m,(∃n,Ax n (a.put o.dst v)∧k n m)∧Steps P (lone (At b a (.inRegion ops (i::rest)::l)) cs w) (lone (At b (a.put o.dst v) (.inRegion ops rest::l)) cs m):=by
  intro e q r s;obtain⟨t,u⟩:=K1 q f s;exact SB c r t u
 have y:∀e,Ax e a→Region.wanted o (yielded ops a.tmps)=false→k (AY e o.dst .und) w →
   ∃v m,(∃n,Ax n (a.put o.dst v)∧k n m)∧Steps P (lone (At b a (.inRegion ops (i::rest)::l)) cs w) (lone (At b (a.put o.dst v) (.inRegion ops rest::l)) cs m):=by
  intro e q r z;refine⟨undef,w,⟨_,BM q (x:=.und) rfl f,z⟩,.one ?_⟩;have:=RE (P:=P) (b:=b) (a:=a) (k:=l) (cs:=cs) (w:=w) (ops:=ops) (i:=i) (rest:=rest) (by simp [c,r]);simpa only[c,Option.bind_some] using this
 unfold IY at g;split at g
 ·rename_i A;exact p e h (by simp [Region.wanted,A]) g
 ·rename_i j B A;split at g
  ·exact g.elim
  ·rename_i d C;have D:=Hj h d;split at g<;>rename_i E<;>simp only[E,Ent.ok] at D
   ·exact g.elim
   ·rename_i b;have r:=HA A C D;cases b<;>cases B<;>simp at g r
    ·exact p e h r g
    ·exact y e h r g
    ·exact y e h r g
    ·exact p e h r g
   ·exact y e h (NR A C D) g
   ·obtain⟨b,F,G,H⟩:=g;have I:=D.trans F;have r:=HA A C I;cases b<;>cases B<;>simp at G H r
    ·exact p _ (Di h (by rw[E];simp) (x:=.lit false) I) r H
    ·exact y _ (Di h (by rw[E];simp) (x:=.lit false) I) r H
    ·exact y _ (Di h (by rw[E];simp) (x:=.lit true) I) r G
    ·exact p _ (Di h (by rw[E];simp) (x:=.lit true) I) r G
theorem OC{ops:Array Oper}{K:Env→World→Prop}:∀(l:List Oper) (i:Nat) (e:Env) (a:Act) (w:World),ops.toList.drop i=l→C9 a.tmps.size l=true→Ax e a →
  FQ P ops.toList l e K w→∀(b:Frame) (k:List Item) (c:List Frame),∃f g,(Frz (B1 l) a f∧∃j,Ax j f∧K j g) ∧
   Steps P (lone (At b a (.inRegion ops (List.range' i l.length)::k)) c w) (lone (At b f (.inRegion ops []::k)) c g)
 | [],_,e,a,w,_,_,he,h,_,_,_=>⟨a,w,⟨Frz.refl _ _,e,he,h⟩,.refl _ _⟩
 | o::l,i,e,a,w,hl,hN,he,h,b,k,c=>by
  have m:ops[i]?=some o:=by
   have:(ops.toList.drop i)[0]?=some o:=by rw[hl];rfl
   simpa using this
  have n:ops.toList.drop (i+1)=l:=by
   have:(ops.toList.drop i).drop 1=l:=by rw[hl];rfl
   simpa [List.drop_drop] using this
  have p:∀d,o.dst=some d→d<a.tmps.size:=KS hN o Z;have q:C9 a.tmps.size l=true:=by simp only[C9,Bool.and_eq_true] at hN;exact hN.2
  obtain⟨v,r,⟨t,u,x⟩,y⟩:=cw m he p h b (List.range' (i+1) l.length) k c;have z:=PW a o.dst v p he.1;obtain⟨f,g,⟨A,j,B,C⟩,D⟩:=OC l (i+1) t (a.put o.dst v) r n (by rw[z.1];exact q) u x b k c;refine⟨f,g,⟨(z.trans A).mono ?_,j,B,C⟩,?_⟩
  ·intro s y;unfold B1;cases p:o.dst<;>simp [p] at y ⊢<;>exact y
  ·simp only[List.length_cons,List.range'_succ];exact y.trans D
theorem Mo{ro:Option Nat}{ops:Array Oper}{id:Nat}{K:Env→World→Prop}{e:Env}{a:Act}{w:World}(hN:C9 a.tmps.size ops.toList=true)(he:Ax e a)(h:FQ P ops.toList ops.toList e K w):WP P ro (.region id ops false) (λex a' w'=>ex=.normal∧Frz (B1 ops.toList) a a'∧∃e',Ax e' a'∧K e' w') a w:=by
 intro b k cs _;obtain⟨a',w',hp,hs⟩:=OC ops.toList 0 e a w rfl hN he h b k cs;refine⟨.normal,a',w',⟨rfl,hp⟩,.head TY ?_⟩;have:List.range ops.size=List.range' 0 ops.toList.length:=by simp [List.range_eq_range']
 rw[this];exact hs.trans (.one RB)
end
theorem Lj(l:List Oper)(i:Nat):Fg l i=l[i]?:=by
 induction l generalizing i with
 | nil=>simp [Fg]
 | cons o a b=>cases i<;>simp [Fg,b]
inductive TW (ops:Array Oper):Nat→Nat→Prop
 | one {j i:Nat} {o:Oper} {e:Edge} (ho:ops[j]?=some o) (he:e∈o.after) (hb:Region.binds .any e=true) (hi:e.on=i):TW ops j i
 | more {j i:Nat} {o:Oper} {e:Edge} (ho:ops[j]?=some o) (he:e∈o.after) (hb:Region.binds .any e=true) (h:TW ops e.on i):TW ops j i
def EL(ops:Array Oper)(m:Nat):Prop:=∀(j:Nat) (o:Oper),m.testBit j=true→ops[j]?=some o→∀e∈o.after,Region.binds .any e=true→m.testBit e.on=true
def Rdy(ops:Array Oper)(m j:Nat):Prop:=m.testBit j=false∧∃o,ops[j]?=some o∧∀e∈o.after,Region.binds .any e=true→m.testBit e.on=true
theorem FU(m i j:Nat):(m ||| 2 ^ i).testBit j=(m.testBit j || decide (i=j)):=by
 rw[Nat.testBit_or,Nat.testBit_two_pow]
theorem QK{ops:Array Oper}{m j i:Nat}(hc:EL ops m)(h:TW ops j i)(hj:∀o,ops[j]?=some o→∀e∈o.after,Region.binds .any e=true→m.testBit e.on=true):m.testBit i=true:=by
 induction h with
 | one ho he hb hi=>subst hi;exact hj _ ho _ he hb
 | more ho he hb _ ih=>exact ih λo' ho' e' he' hb'=>hc _ o' (hj _ ho _ he hb) ho' e' he' hb'
theorem Fh{ops:Array Oper}{m j:Nat}(a:EL ops m)(b:Rdy ops m j):EL ops (m ||| 2 ^ j):=by
 intro k o c d e f g;rw[FU] at *;obtain⟨_,h,i,l⟩:=b;by_cases n:j=k
 ·subst n;rw[d] at i;cases i;simp [l e f g]
 ·simp [n] at c;simp [a k o c d e f g]
theorem JT{ops:Array Oper}{m i j:Nat}(a:Rdy ops m j)(b:j≠i):Rdy ops (m ||| 2 ^ i) j:=by
 obtain⟨c,o,d,f⟩:=a;refine⟨by rw[FU,c];simp;exact λh=>b h.symm,o,d,λe g k=>by rw[FU,f e g k];rfl⟩
theorem TL(m i j:Nat):m ||| 2 ^ i ||| 2 ^ j=m ||| 2 ^ j ||| 2 ^ i:=by
 apply Nat.eq_of_testBit_eq;intro k;simp only[Nat.testBit_or];cases m.testBit k<;>cases (2 ^ i).testBit k<;>cases (2 ^ j).testBit k<;>rfl
section
variable {P:Program}
theorem Jw{w0:World}{K K':Value→World→Prop}(hk:∀v w,K v w→K' v w)(r:Result Next)(h:BB P w0 K r):BB P w0 K' r:=by
 revert h
 unfold BB;split
 ·exact hk _ _
 ·exact hk _ _
 ·exact λhc=>hc.mono λe w h=>by cases e<;>first|exact hk _ _ h|exact h
 ·rintro⟨h⟩;exact⟨λc cs=>let ⟨v,w',hK,hs⟩:=h c cs;⟨v,w',hk _ _ hK,hs⟩⟩
 ·exact λhc=>hc.mono λv w h=>hk _ _ h
 ·rintro⟨e,⟨h⟩⟩;exact⟨e,⟨λfr cs es he=>let ⟨v,w',hK,hs⟩:=h fr cs es he;⟨v,w',hk _ _ hK,hs⟩⟩⟩
 ·exact id
def opK(P:Program)(ops:Array Oper)(j:Nat)(K:Act→World→Prop)(a:Act)(w:World):Prop:=
 ∃o,ops[j]?=some o∧((Region.wanted o (yielded ops a.tmps)=true∧(∀c,o.op≠.defer c)∧BB P w (λv b=>K (a.put o.dst v) b) ((execOp a.eval o).run P w)) ∨
  (Region.wanted o (yielded ops a.tmps)=false∧K (a.put o.dst undef) w))
theorem IV{ops:Array Oper}{j:Nat}{K b:Act→World→Prop}{a:Act}{w:World}(c:∀a w,K a w→b a w)(h:opK P ops j K a w):opK P ops j b a w:=by
 obtain⟨o,d,h⟩:=h;refine⟨o,d,?_⟩;rcases h with ⟨e,f,h⟩|⟨e,h⟩
 ·exact .inl ⟨e,f,Jw (λv w h=>c _ _ h) _ h⟩
 ·exact .inr ⟨e,c _ _ h⟩
def Dk(P:Program)(ops:Array Oper)(ms:List Nat)(K:Act→World→Prop):Nat→Nat→Dv→Act→World→Prop
 | 0,m,_,a,w=>(∀j,¬Rdy ops m j)∧K a w
 | n+1,m,held,a,w=>((∀j,¬Rdy ops m j)→K a w) ∧
   ∀j,Rdy ops m j→opK P ops j (λa' w'=>(∀p∈BN ms j held,p.2 w')∧Dk P ops ms K n (m ||| 2 ^ j) (BN ms j held) a' w') a w
theorem Ed{a:List Nat}{j:Nat}{b:Dv}{p:Nat × (World→Prop)}:p∈BN a j b↔p∈b∧twB a j p.1=false:=by
 induction b with
 | nil=>simp [BN]
 | cons q l c =>
  unfold BN;cases h:twB a j q.1
  ·simp only[cond_false,rM,c];constructor
   ·rintro(rfl|⟨d,e⟩)
    ·exact⟨.inl rfl,h⟩
    ·exact⟨.inr d,e⟩
   ·rintro⟨rfl|d,e⟩
    ·exact .inl rfl
    ·exact .inr ⟨d,e⟩
  ·simp only[cond_true,c,rM];constructor
   ·rintro⟨d,e⟩;exact⟨.inr d,e⟩
   ·rintro⟨rfl|d,e⟩
    ·rw[h] at e;cases e
    ·exact⟨d,e⟩
theorem NH{ops:Array Oper}{ms:List Nat}{K:Act→World→Prop}:∀(n m:Nat) (held held':Dv) (a:Act) (w:World),(∀p∈held',p∈held) →
  Dk P ops ms K n m held a w→Dk P ops ms K n m held' a w
 | 0,_,_,_,_,_,_,h=>h
 | n+1,m,held,held',a,w,hs,h=>⟨h.1,λj hj=>IV (λa' w' ⟨h1,h2⟩ =>
   have hs':∀p∈BN ms j held',p∈BN ms j held:=λp hp=>by rw[Ed] at *;exact⟨hs p hp.1,hp.2⟩
   ⟨λp hp=>h1 p (hs' p hp),NH n _ _ _ a' w' hs' h2⟩) (h.2 j hj)⟩
theorem JV{ops:Array Oper}{ms:List Nat}{K:Act→World→Prop}{i:Nat}:∀(n m:Nat) (held:Dv) (a:Act) (w:World),
  Dk P ops ms K n m held a w→Dk P ops ms K n m ((i,λ_=>True)::held) a w
 | 0,_,_,_,_,h=>h
 | n+1,m,held,a,w,h=>⟨h.1,λj hj=>IV (λa' w' ⟨h1,h2⟩=>by
   refine⟨λp hp=>?_,?_⟩
   ·rw[Ed,rM] at hp;rcases hp with ⟨rfl|hp,ht⟩
    ·trivial
    ·exact h1 p (Ed.2 ⟨hp,ht⟩)
   ·unfold BN;cases twB ms j i
    ·exact JV n _ _ a' w' h2
    ·exact h2) (h.2 j hj)⟩
def YS(P:Program)(ops:Array Oper)(S:World→Prop)(o:Oper)(v:Value)(a:Act):Prop:=
 (Region.wanted o (yielded ops a.tmps)=true∧(∀c,o.op≠.defer c)∧∀w,S w→(execOp a.eval o).run P w=.ok (.value v) w) ∨
 (Region.wanted o (yielded ops a.tmps)=false∧v=undef)
theorem YS.op{ops:Array Oper}{S:World→Prop}{o:Oper}{v:Value}{a:Act}{w:World}{i:Nat}{K:Act→World→Prop}(b:ops[i]?=some o)(h:YS P ops S o v a)(c:S w)(d:K (a.put o.dst v) w):opK P ops i K a w:=by
 refine⟨o,b,?_⟩;rcases h with ⟨e,f,h⟩|⟨e,rfl⟩
 ·exact .inl ⟨e,f,by rw[h w c];exact d⟩
 ·exact .inr ⟨e,d⟩
theorem YS.put{ops:Array Oper}{S:World→Prop}{o:Oper}{v u:Value}{a:Act}{dst:Option Nat}(h:YS P ops S o v a)(c:∀cs b,o.op≠.select cs b)(e:∀d,dst=some d→d∉o.looksAt ops):
  YS P ops S o v (a.put dst u):=by
 unfold YS at *;rw[execOp_put o c a dst u e,wanted_put o a dst u e];exact h
theorem Xz{ops:Array Oper}{S:World→Prop}{i j:Nat}{oi oj:Oper}{v:Value}{K:Act→World→Prop}{a:Act}{w:World}(hj:ops[j]?=some oj)(hap:oi.apart ops oj=true)(hsi:∀cs b,oi.op≠.select cs b)(hsj:∀cs b,oj.op≠.select cs b)(hy:YS P ops S oi v a)(h:opK P ops j K (a.put oi.dst v) w):
  opK P ops j (λa' w'=>YS P ops S oi v a'∧K (a'.put oi.dst v) w') a w:=by
 obtain⟨h1,h2,h3⟩:=Oper.apart_spec hap;obtain⟨o,ho,h⟩:=h;rw[hj] at ho;cases ho;rw[wanted_put oj a oi.dst v h1,execOp_put oj hsj a oi.dst v h1] at h;refine⟨oj,hj,?_⟩;rcases h with ⟨hw,hd,h⟩|⟨hw,h⟩
 ·exact .inl ⟨hw,hd,Jw (λu w' hk=>⟨hy.put hsi h3,by rw[←Act.put_comm a v u h2];exact hk⟩) _ h⟩
 ·exact .inr ⟨hw,hy.put hsi h3,by rw[←Act.put_comm a v undef h2];exact h⟩
theorem dX{ops:Array Oper}{ms:List Nat}{K:Act→World→Prop}{S:World→Prop}{i:Nat}{oi:Oper}{v:Value}(hi:ops[i]?=some oi)(hms:∀j i,twB ms j i=true→TW ops j i)(hap:∀j oj,ops[j]?=some oj→j≠i→EB oj i=false→twB ms i j=false→oi.apart ops oj=true)(hsel:∀(j:Nat) (o:Oper) cs b,ops[j]?=some o→o.op≠.select cs b):
  ∀(n m:Nat) (held:Dv) (a:Act) (w:World),EL ops m→Rdy ops m i→YS P ops S oi v a→S w→(∀p∈held,p.2 w) →
   Dk P ops ms K n (m ||| 2 ^ i) ((i,S)::held) (a.put oi.dst v) w→Dk P ops ms K (n+1) m held a w:=by
 intro n
 induction n with
 | zero =>
  intro m held a w hc hr hy hS hh H;refine⟨λh=>absurd hr (h i),λj hj=>?_⟩;by_cases hji:j=i
  ·subst hji;exact hy.op hi hS ⟨λp hp=>hh p (Ed.1 hp).1,H⟩
  ·exact absurd (JT hj hji) (H.1 j)
 | succ n ih =>
  intro m held a w hc hr hy hS hh H;refine⟨λh=>absurd hr (h i),λj hj=>?_⟩;by_cases hji:j=i
  ·subst hji;exact hy.op hi hS ⟨λp hp=>hh p (Ed.1 hp).1,NH _ _ _ _ _ _ (λp hp=>List.mem_cons_of_mem _ (Ed.1 hp).1) H⟩
  ·have h1:=H.2 j (JT hj hji);obtain⟨hjun,oj,hoj,hall⟩:=hj;have hnw:EB oj i=false:=by
    cases hwt:EB oj i with
    | false=>rfl
    | true =>
     unfold EB at hwt;obtain⟨e,he,hb⟩:=List.any_eq_true.1 hwt;simp only[Bool.and_eq_true] at hb;have:=hall e (by simpa using he) hb.1;rw[Nat.eq_of_beq_eq_true hb.2,hr.1] at this;cases this
   have hnt:twB ms j i=false:=by
    cases ht:twB ms j i with
    | false=>rfl
    | true =>
     have:=QK hc (hms j i ht) (λo ho=>by rw[hoj] at ho;cases ho;exact hall);rw[hr.1] at this;cases this
   have hnt':twB ms i j=false:=by
    cases ht:twB ms i j with
    | false=>rfl
    | true =>
     obtain⟨_,o,ho,hal⟩:=hr;have:=QK hc (hms i j ht) (λo' ho'=>by rw[ho] at ho';cases ho';exact hal);rw[hjun] at this;cases this
   have hk:BN ms j ((i,S)::held)=(i,S)::BN ms j held:=by
    conv=>lhs;unfold BN
    simp [hnt]
   rw[hk] at h1;refine IV ?_ (Xz (i:=i) hoj (hap j oj hoj hji hnw hnt') (λcs b=>hsel i oi cs b hi) (λcs b=>hsel j oj cs b hoj) hy h1);rintro a' w' ⟨hy',hhs,hX⟩;refine⟨λp hp=>hhs p (List.mem_cons_of_mem _ hp),?_⟩;refine ih (m ||| 2 ^ j) (BN ms j held) a' w' (Fh hc ⟨hjun,oj,hoj,hall⟩) (JT hr (Ne.symm hji)) hy' (hhs (i,S) (List.mem_cons_self ..)) (λp hp=>hhs p (List.mem_cons_of_mem _ hp)) ?_;rw[TL];exact hX
def Ha(ops:Array Oper)(a:Array Bool)(m:Nat):Prop:=a.size=ops.size∧(∀i,i<ops.size→a.getD i false=m.testBit i)∧∀i,ops.size≤i→m.testBit i=false
theorem Rp{ops:Array Oper}{a:Array Bool}{m:Nat}(h:Ha ops a m)(j:Nat):j∈Region.ready .any ops a↔Rdy ops m j:=by
 have b:∀i,a.getD i false=m.testBit i:=λi=>by
  rcases Nat.lt_or_ge i ops.size with c|c
  ·exact h.2.1 i c
  ·rw[h.2.2 i c,Array.getD_eq_getD_getElem?,Array.getElem?_eq_none (by rw[h.1];exact c)];rfl
 rw[mem_ready];constructor
 ·rintro⟨d,o,f,g⟩;have k:j<ops.size:=(Array.getElem?_eq_some_iff.1 f).1;refine⟨?_,o,f,λe l n=>by rw[←b];exact g e l n⟩;rw[←b];have p:j<a.size:=by rw[h.1];exact k
  simpa [Array.getD_eq_getD_getElem?,p] using d
 ·rintro⟨d,o,f,g⟩;have k:j<ops.size:=(Array.getElem?_eq_some_iff.1 f).1;refine⟨?_,o,f,λe l n=>by rw[b];exact g e l n⟩;rw[←b] at d;have p:j<a.size:=by rw[h.1];exact k
  simpa [Array.getD_eq_getD_getElem?,p] using d
theorem di{ops:Array Oper}{a:Array Bool}{m j:Nat}(h:Ha ops a m)(b:j<ops.size):Ha ops (a.setIfInBounds j true) (m ||| 2 ^ j):=by
 refine⟨by simpa using h.1,λi c=>?_,λi c=>?_⟩
 ·rw[FU,←h.2.1 i c];by_cases d:j=i
  ·subst d;simp [Array.getD_eq_getD_getElem?,h.1,b]
  ·simp [Array.getD_eq_getD_getElem?,Array.getElem?_setIfInBounds_ne d,d]
 ·rw[FU,h.2.2 i c];have:j≠i:=O;simp [this]
theorem UA{ops:Array Oper}{j:Nat}{K:Act→World→Prop}{a:Act}{w:World}(h:opK P ops j K a w)(b:Frame)(rest:List Nat)(k:List Item)(cs:List Frame):
  ∃c d,K c d∧Steps P (lone (At b a (.inRegion ops (j::rest)::k)) cs w) (lone (At b c (.inRegion ops rest::k)) cs d):=by
 obtain⟨o,e,h⟩:=h;rcases h with ⟨f,g,h⟩|⟨f,h⟩
 ·obtain⟨v,d,l,m⟩:=SB (b:=b) (k:=k) (cs:=cs) (rest:=rest) e f g h;exact⟨_,_,l,m⟩
 ·refine⟨_,_,h,.one ?_⟩;have:=RE (P:=P) (b:=b) (a:=a) (k:=k) (cs:=cs) (w:=w) (ops:=ops) (i:=j) (rest:=rest) (by simp [e,f]);simpa only[e,Option.bind_some] using this
theorem YO{ops:Array Oper}{c:List Nat}{K:Act→World→Prop}:∀(n t:Nat) (d:Array Bool) (m:Nat) (e:Dv) (a:Act) (w:World),Ha ops d m→Dk P ops c K n m e a w →
  ∀(b:Frame) (k:List Item) (f:List Frame),∃g l,K g l ∧
   Steps P (lone (At b a (.inRegion ops (Region.linearise.go .any ops n t d [])::k)) f w) (lone (At b g (.inRegion ops []::k)) f l):=by
 intro n
 induction n with
 | zero =>
  intro t d m e a w _ h b k f;exact⟨a,w,h.2,by simp only[Region.linearise.go,List.reverse_nil];exact .refl _ _⟩
 | succ n p =>
  intro t d m e a w q h b k f;simp only[Region.linearise.go];change ∃g l,K g l∧Steps P (lone (At b a (.inRegion ops (match (Region.ready .any ops d)[t % (Region.ready .any ops d).length]? with
   | some i=>Region.linearise.go .any ops n (t / (Region.ready .any ops d).length) (d.setIfInBounds i true) [i]
   | none=>[].reverse)::k)) f w) _
  cases r:(Region.ready .any ops d)[t % (Region.ready .any ops d).length]? with
  | none =>
   have s:Region.ready .any ops d=[]:=by
    cases u:Region.ready .any ops d with
    | nil=>rfl
    | cons x v =>
     rw[u] at r;have y:t % (x::v).length<(x::v).length:=Nat.mod_lt _ Z;simp at r;simp at y;omega
   refine⟨a,w,h.1 λj z=>?_,by simp only[List.reverse_nil];exact .refl _ _⟩;have:=(Rp q j).2 z;rw[s] at this;cases this
  | some i =>
   have A:=(Rp q i).1 (List.mem_of_getElem? r);simp only[];rw[linearise_go_acc,List.reverse_singleton,List.singleton_append];obtain⟨B,C,⟨_,D⟩,E⟩:=UA (h.2 i A) b (Region.linearise.go .any ops n (t / (Region.ready .any ops d).length) (d.setIfInBounds i true) []) k f;obtain⟨_,o,F,_⟩:=A;obtain⟨g,l,G,H⟩:=p (t / (Region.ready .any ops d).length) (d.setIfInBounds i true) (m ||| 2 ^ i) _ B C (di q (Array.getElem?_eq_some_iff.1 F).1) D b k f;exact⟨g,l,G,E.trans H⟩
theorem Mv{ops:Array Oper}:∀(l:List Oper) (a:List Nat),ops.toList=(ops.toList.take a.length)++l→a.length≤ops.toList.length →
  (∀j i,twB a j i=true→TW ops j i)→∀j i,twB (Ds l a) j i=true→TW ops j i
 | [],a,_,_,h=>h
 | o::l,a,hl,hlen,h=>by
  have b:ops[a.length]?=some o:=by
   have c:ops.toList[a.length]?=some o:=by
    rw[hl,rK (by simp;omega)];have:(List.take a.length ops.toList).length=a.length:=by simp at hlen ⊢;omega
    rw[this];simp
   simpa using c
  have d:a.length<ops.toList.length:=by have:=(Array.getElem?_eq_some_iff.1 b).1;simpa using this
  unfold Ds;refine Mv l _ ?_ (by simp at d ⊢;omega) ?_
  ·rw[rS,List.length_singleton,List.take_add_one];have c:ops.toList[a.length]?=some o:=by simpa using b
   rw[c];simp only[Option.toList_some,rJ,List.singleton_append];exact hl
  ·intro j i f;unfold twB at f;rcases Nat.lt_trichotomy j a.length with g|g|g
   ·refine h j i ?_;unfold twB;rw[rN,rL g,←rN] at f;exact f
   ·subst g;have k:(a++[EU a o.after.toList 0]).getD a.length 0=EU a o.after.toList 0:=by simp [rN]
    rw[k] at f;have m:∀(n:List Edge) (s:Nat),(∀e∈n,e∈o.after)→(s.testBit i=true→TW ops a.length i)→(EU a n s).testBit i=true→TW ops a.length i:=by
     intro n
     induction n with
     | nil=>intro s _ p f;exact p f
     | cons e n q =>
      intro s r p f;unfold EU at f;refine q _ (λe t=>r e (List.mem_cons_of_mem _ t)) ?_ f;intro u;cases v:Region.binds .any e with
      | false=>rw[v] at u;exact p u
      | true =>
       rw[v,cond_true,Nat.testBit_or,Nat.testBit_or,Nat.testBit_two_pow] at u;simp only[Bool.or_eq_true,decide_eq_true_eq] at u;rcases u with (u|u)|u
       ·exact p u
       ·exact .one b (r e Z) v u
       ·exact .more b (r e Z) v (h e.on i u)
    exact m _ 0 (λe t=>by simpa using t) Z f
   ·rw[rN,List.getElem?_eq_none (by simp;omega)] at f;simp at f
end
section
variable {P:Program}
def unS(S:Option (World→Prop)):World→Prop:=S.getD λ_=>True
theorem iC{o:Oper}{e:Env}{k:Env→Option (World→Prop)→Prop}{a:Act}{w:World}(h:Ax e a)(hd:∀d,o.dst=some d→d<a.tmps.size)(ht:Ko P o e k w):
  ∃(v:Value) (e':Env) (S:Option (World→Prop)),Ax e' (a.put o.dst v)∧k e' S∧(∀c,o.op≠.defer c)∧unS S w∧∀w',unS S w'→(execOp a.eval o).run P w'=.ok (.value v) w':=by
 have bin:∀(op:BinOp) (t:TypeId) (x y:Operand) (u:TypeId),o.op=.binOp op t x y u→execOp a.eval o=Bi op t (a.eval x) (a.eval y) x y:=by
  intro op t x y u ho;unfold execOp Bi;rw[ho];simp only[bind,pure,SU]
 unfold Ko at ht;split at ht
 ·rename_i x ho;refine⟨a.eval x,_,none,BM h (B2 h x) hd,ht,λc hc=>by rw[ho] at hc;simp at hc,trivial,λw' _=>?_⟩;unfold execOp;rw[ho];rfl
 ·rename_i x ho;refine⟨a.eval x,_,none,BM h (B2 h x) hd,ht,λc hc=>by rw[ho] at hc;simp at hc,trivial,λw' _=>?_⟩;unfold execOp;rw[ho];rfl
 ·rename_i c x y ho;have hc:=B2 h c;have key:∀b,a.eval c=.bool b→(b=true→k (AY e o.dst (Bb e x)) none)→(b=false→k (AY e o.dst (Bb e y)) none) →
    ∃(v:Value) (e':Env) (S:Option (World→Prop)),Ax e' (a.put o.dst v)∧k e' S∧(∀c,o.op≠.defer c)∧unS S w∧∀w',unS S w'→(execOp a.eval o).run P w'=.ok (.value v) w':=by
   intro b hb h1 h2;cases b
   ·refine⟨a.eval y,_,none,BM h (B2 h y) hd,h2 rfl,λc hc=>by rw[ho] at hc;simp at hc,trivial,λw' _=>?_⟩;unfold execOp;rw[ho];simp only[hb];rfl
   ·refine⟨a.eval x,_,none,BM h (B2 h x) hd,h1 rfl,λc hc=>by rw[ho] at hc;simp at hc,trivial,λw' _=>?_⟩;unfold execOp;rw[ho];simp only[hb];rfl
  split at ht<;>rename_i hce<;>simp only[hce,Ent.ok] at hc
  ·refine key _ hc ?_ ?_<;>(rintro rfl;exact ht)
  ·obtain⟨b,hb,h1,h2⟩:=ht;exact key b (hc.trans hb) h1 h2
  ·exact ht.elim
 ·rename_i op t x y u ho;have hnd:∀c,o.op≠.defer c:=λc hc=>by rw[ho] at hc;simp at hc
  split at ht
  ·rename_i va vb ha hb;have hx:=value?_ok (B2 h x) ha;have hy:=value?_ok (B2 h y) hb;cases hq:Nat.beq (CR o.op) 2<;>rw[hq] at ht
   ·obtain⟨v,⟨hv⟩,hk⟩:=ht;refine⟨v,_,some (YldB P op t va vb v),BM h (by simp [Ent.ok]) hd,hk,hnd,⟨hv⟩,λw' ⟨hw⟩=>?_⟩;rw[bin op t x y u ho,hx,hy];exact hw x y
   ·obtain⟨v,hv,hk⟩:=ht;refine⟨v,_,none,BM h (by simp [Ent.ok]) hd,hk,hnd,trivial,λw' _=>?_⟩;rw[bin op t x y u ho,hx,hy];exact hv x y w'
  ·exact ht.elim
 ·rename_i n1 n2 n3 n4;have gen:CR o.op=2∨CR o.op=3→odd o.op=false∧∀c,o.op≠.defer c:=by
   intro hq;refine⟨?_,λc hc=>by rw[hc] at hq;simp [CR] at hq⟩;unfold odd;split
   ·rename_i c hc;rw[hc] at hq;simp [CR] at hq
   ·rename_i c hc;rw[hc] at hq;simp [CR] at hq
   ·rename_i _ _ _ _ _ hc;exact absurd hc (n4 _ _ _ _ _)
   ·rename_i _ _ hc;rw[hc] at hq;simp [CR] at hq
   ·rename_i _ _ hc;rw[hc] at hq;simp [CR] at hq
   ·rfl
  split at ht
  ·rename_i hq;obtain⟨ho,hnd⟩:=gen (.inl hq);obtain⟨v,hv,hk⟩:=ht;refine⟨v,_,none,BM h (by simp [Ent.ok]) hd,hk,hnd,trivial,λw' _=>?_⟩;rw[JR o (KH h) ho];exact hv _ (Jr a) w'
  ·rename_i hq;obtain⟨ho,hnd⟩:=gen (.inr hq);obtain⟨v,⟨hv⟩,hk⟩:=ht;refine⟨v,_,some (Yld P (Ct (Dr e) o.op) o.type v),BM h (by simp [Ent.ok]) hd,hk,hnd,⟨hv⟩,λw' ⟨hw⟩=>?_⟩;rw[JR o (KH h) ho];exact hw _ (Jr a)
  ·exact ht.elim
theorem PU{ops:Array Oper}{o:Oper}{e:Env}{c skip:Env→Prop}{a:Act}(h:Ax e a)(f:Hp ops.toList o e c skip):
  (∃g,Ax g a∧Region.wanted o (yielded ops a.tmps)=true∧c g)∨(∃g,Ax g a∧Region.wanted o (yielded ops a.tmps)=false∧skip g):=by
 unfold Hp at f;split at f
 ·rename_i i;exact .inl ⟨e,h,by simp [Region.wanted,i],f⟩
 ·rename_i j k i;split at f
  ·exact f.elim
  ·rename_i d l;have m:=Hj h d;split at f<;>rename_i n<;>simp only[n,Ent.ok] at m
   ·exact f.elim
   ·rename_i b;have p:=HA i l m;cases b<;>cases k<;>simp at f p
    ·exact .inl ⟨e,h,p,f⟩
    ·exact .inr ⟨e,h,p,f⟩
    ·exact .inr ⟨e,h,p,f⟩
    ·exact .inl ⟨e,h,p,f⟩
   ·exact .inr ⟨e,h,NR i l m,f⟩
   ·obtain⟨b,q,r,s⟩:=f;have t:=m.trans q;have p:=HA i l t;cases b<;>cases k<;>simp at r s p
    ·exact .inl ⟨_,Di h (by rw[n];simp) (x:=.lit false) t,p,s⟩
    ·exact .inr ⟨_,Di h (by rw[n];simp) (x:=.lit false) t,p,s⟩
    ·exact .inr ⟨_,Di h (by rw[n];simp) (x:=.lit true) t,p,r⟩
    ·exact .inl ⟨_,Di h (by rw[n];simp) (x:=.lit true) t,p,r⟩
theorem Nr{m:Nat}{a:List Edge}:okE m a=true↔∀e∈a,Region.binds .any e=true→m.testBit e.on=true:=by
 induction a with
 | nil=>simp [okE]
 | cons e a b =>
  simp only[okE,Bool.and_eq_true,b,rM,forall_eq_or_imp];cases Region.binds .any e<;>simp
theorem N2{m:Nat}:∀(l:List Oper) (i j:Nat),j∈CL l i m↔∃o,i≤j∧l[j-i]?=some o∧m.testBit j=false∧okE m o.after.toList=true
 | [],i,j=>by simp [CL]
 | o::l,i,j=>by
  have a:=N2 (m:=m) l (i+1) j;have split:(∃b,i≤j∧(o::l)[j-i]?=some b∧m.testBit j=false∧okE m b.after.toList=true) ↔
    (j=i∧m.testBit i=false∧okE m o.after.toList=true)∨j∈CL l (i+1) m:=by
   rw[a];constructor
   ·rintro⟨b,c,f,g,h⟩;rcases Nat.eq_or_lt_of_le c with rfl|k
    ·simp at f;subst f;exact .inl ⟨rfl,g,h⟩
    ·obtain⟨d,rfl⟩:∃d,j=i+1+d:=⟨j-(i+1),O⟩;have n:i+1+d-i=d+1:=O;have p:i+1+d-(i+1)=d:=O;rw[n] at f;exact .inr ⟨b,O,by rw[p];simpa using f,g,h⟩
   ·rintro(⟨rfl,g,h⟩|⟨b,c,f,g,h⟩)
    ·exact⟨o,rH _,Z,g,h⟩
    ·obtain⟨d,rfl⟩:∃d,j=i+1+d:=⟨j-(i+1),O⟩;have n:i+1+d-i=d+1:=O;have p:i+1+d-(i+1)=d:=O;rw[p] at f;exact⟨b,O,by rw[n];simpa using f,g,h⟩
  rw[split];have e:CL (o::l) i m=bif (!m.testBit i && okE m o.after.toList) then i::CL l (i+1) m else CL l (i+1) m:=rfl
  rw[e];cases g:m.testBit i<;>cases h:okE m o.after.toList<;>simp
theorem F6{ops:Array Oper}{m j:Nat}:j∈CL ops.toList 0 m↔Rdy ops m j:=by
 rw[N2];unfold Rdy;constructor
 ·rintro⟨o,_,a,b,c⟩;exact⟨b,o,by simpa using a,λe d=>Nr.1 c e (by simpa using d)⟩
 ·rintro⟨b,o,a,f⟩;exact⟨o,Nat.zero_le _,by simpa using a,b,Nr.2 λe d=>f e (by simpa using d)⟩
theorem fj{ops:Array Oper}{a:List Nat}(h:FC ops a=true):
  (∀(i:Nat) (c:Oper),ops[i]?=some c→∀j d,ops[j]?=some d→j≠i→EB d i=false→twB a i j=false→c.apart ops d=true) ∧
  (∀(j:Nat) (o:Oper) e b,ops[j]?=some o→o.op≠.select e b):=by
 unfold FC at h;rw[Bool.and_eq_true] at h;refine⟨λi c f j d g k l m=>?_,λj o e b n=>Region.noSelect_spec h.1 j o e b n⟩;have p:∀(i:Nat) (o:Oper),ops[i]?=some o→(o,i)∈ops.toList.zipIdx:=λi o n=>by
  rw[List.mem_zipIdx_iff_getElem?];simpa using n
 have q:=List.all_eq_true.1 h.2 (c,i) (p i c f);have r:=List.all_eq_true.1 q (d,j) (p j d g);simp only[l,m,Bool.or_false,Bool.or_eq_true] at r;rcases r with r|r
 ·exact absurd (Nat.eq_of_beq_eq_true r).symm k
 ·exact r
theorem UZ{l:Dv}{w:World}{X:Prop}(h:JX l w X):(∀p∈l,p.2 w)∧X:=by
 induction l with
 | nil=>exact⟨Z,h⟩
 | cons p l a=>exact⟨λq b=>by rcases rM.1 b with rfl|b;exact h.1;exact(a h.2).1 q b,(a h.2).2⟩
theorem Ug{l:List Nat}{f:Nat→Prop}(h:Ju l f):∀j∈l,f j:=by
 induction l with
 | nil=>simp
 | cons j l a =>
  cases l with
  | nil=>intro i b;simp at b;subst b;exact h
  | cons k l=>intro i b;rcases rM.1 b with rfl|b;exact h.1;exact a h.2 i b
theorem gd{ops:List Oper}{l:List Nat}{i:Nat}(h:F9 ops l=some i):i∈l:=by
 induction l with
 | nil=>simp [F9] at h
 | cons j l a =>
  unfold F9 at h;cases b:JY ops j<;>rw[b] at h
  ·exact List.mem_cons_of_mem _ (a h)
  ·simp at h;subst h;simp
theorem jr{l:List Oper}{o:Oper}(a:o∈l):∀d∈o.dst.toList,d∈B1 l:=by
 induction l with
 | nil=>simp at a
 | cons p l b =>
  intro d c;unfold B1;rcases rM.1 a with rfl|a
  ·cases e:o.dst with
   | none=>rw[e] at c;simp at c
   | some x=>rw[e] at c;simp at c ⊢;exact .inl c
  ·cases e:p.dst with
   | none=>exact b a d c
   | some x=>exact List.mem_cons_of_mem _ (b a d c)
theorem ep{ops:Array Oper}{ms:List Nat}{K:Env→World→Prop}{a0:Act}(hms:ms=Ds ops.toList [])(hap:FC ops ms=true)(hN:C9 a0.tmps.size ops.toList=true)(hD:a0.tmps.size≤DK):
  ∀(n m:Nat) (held:Dv) (e:Env) (a:Act) (w:World),EL ops m→Frz (B1 ops.toList) a0 a→Ax e a→(∀p∈held,p.2 w)→trD P ops.toList ms n m held e K w →
   Dk P ops ms (λa' w'=>Frz (B1 ops.toList) a0 a'∧∃e',Ax e' a'∧K e' w') n m held a w:=by
 have htw:∀j i,twB ms j i=true→TW ops j i:=by
  subst hms;exact Mv ops.toList [] Z Z (by intro j i h;simp [twB] at h)
 obtain⟨hapart,hsel⟩:=fj hap;intro n;have bound:∀{a:Act},Frz (B1 ops.toList) a0 a→∀{i:Nat} {o:Oper},ops[i]?=some o→∀d,o.dst=some d→d<a.tmps.size:=by
  intro a hf i o ho d hd;rw[hf.1];exact KS hN o (by simpa using List.mem_of_getElem? (l:=ops.toList) (by simpa using ho)) d hd
 have frz:∀{a:Act} (hf:Frz (B1 ops.toList) a0 a) {i:Nat} {o:Oper} (ho:ops[i]?=some o) (v:Value),Frz (B1 ops.toList) a0 (a.put o.dst v):=by
  intro a hf i o ho v;refine(hf.trans (PW a o.dst v (bound hf ho) (by rw[hf.1];exact hD))).mono λs hs=>?_;rcases List.mem_append.1 hs with h|h
  ·exact h
  ·exact jr (List.mem_of_getElem? (l:=ops.toList) (by simpa using ho)) s h
 induction n with
 | zero =>
  intro m held e a w hc hf he hh ht;unfold trD at ht;split at ht
  ·rename_i hr;exact⟨λj hj=>by rw[←F6,hr] at hj;simp at hj,hf,e,he,ht⟩
  ·exact ht.elim
 | succ n ih =>
  intro m held e a w hc hf he hh ht;unfold trD at ht;split at ht
  ·rename_i hr;exact⟨λ_=>⟨hf,e,he,ht⟩,λj hj=>by rw[←F6,hr] at hj;simp at hj⟩
  ·split at ht
   ·rename_i i hq;have hri:Rdy ops m i:=F6.1 (gd hq);split at ht
    ·exact ht.elim
    ·rename_i o hno;have ho:ops[i]?=some o:=by rw[Lj] at hno;simpa using hno
     have first:=λ(S:World→Prop) (v:Value)=>dX (P:=P) (K:=λa' w'=>Frz (B1 ops.toList) a0 a'∧∃e',Ax e' a'∧K e' w') (S:=S) (v:=v) ho htw (hapart i o ho) hsel n m held a w hc hri
     rcases PU he ht with ⟨e',he',hw,ht⟩|⟨e',he',hw,ht⟩
     ·obtain⟨v,e'',S,hag,hk,hnd,hS,hrun⟩:=iC he' (bound hf ho) ht;cases S with
      | none =>
       refine first (λ_=>True) v (.inl ⟨hw,hnd,λw' _=>hrun w' trivial⟩) trivial hh (JV _ _ _ _ _ ?_)
       exact ih _ _ _ _ _ (Fh hc hri) (frz hf ho v) hag hh hk
      | some S =>
       refine first S v (.inl ⟨hw,hnd,hrun⟩) hS hh ?_
       refine ih _ _ _ _ _ (Fh hc hri) (frz hf ho v) hag ?_ hk;intro p hp;rcases rM.1 hp with rfl|hp
       ·exact hS
       ·exact hh p hp
     ·refine first (λ_=>True) undef (.inr ⟨hw,rfl⟩) trivial hh (JV _ _ _ _ _ ?_)
      exact ih _ _ _ _ _ (Fh hc hri) (frz hf ho undef) (BM he' (x:=.und) rfl (bound hf ho)) hh ht
   ·have hall:=Ug ht;refine⟨λhn=>?_,λj hj=>?_⟩
    ·rename_i hne _ _;cases hr:CL ops.toList 0 m with
     | nil=>exact absurd hr hne
     | cons j l=>exact absurd (F6.1 (by rw[hr];simp)) (hn j)
    ·have hj':=hall j (F6.2 hj);split at hj'
     ·exact hj'.elim
     ·rename_i o hno;have ho:ops[j]?=some o:=by rw[Lj] at hno;simpa using hno
      refine⟨o,ho,?_⟩;rcases PU he hj' with ⟨e',he',hw,ht⟩|⟨e',he',hw,ht⟩
      ·obtain⟨hnd,hu⟩:=K1 he' (bound hf ho) ht;refine .inl ⟨hw,hnd,Jw (λv w' ⟨e'',hag,hk⟩=>?_) _ hu⟩;obtain⟨h1,h2⟩:=UZ hk;exact⟨h1,ih _ _ _ _ _ (Fh hc hj) (frz hf ho v) hag h1 h2⟩
      ·have h1:∀p∈BN ms j held,p.2 w:=λp hp=>hh p (Ed.1 hp).1;exact .inr ⟨hw,h1,ih _ _ _ _ _ (Fh hc hj) (frz hf ho undef) (BM he' (x:=.und) rfl (bound hf ho)) h1 ht⟩
theorem Pu{ro:Option Nat}(hm:P.follows .mixedOrders=true){ops:Array Oper}{id:Nat}{K:Env→World→Prop}{e:Env}{a:Act}{w:World}(hN:C9 a.tmps.size ops.toList=true)(he:Ax e a)(hap:FC ops (Ds ops.toList [])=true)(h:trD P ops.toList (Ds ops.toList []) ops.size 0 [] e K w.drew):
  WP P ro (.region id ops true) (λex a' w'=>ex=.normal∧Frz (B1 ops.toList) a a'∧∃e',Ax e' a'∧K e' w') a w:=by
 intro b k cs _;have hX:=ep (P:=P) (a0:=a) rfl hap hN he.1 ops.size 0 [] e a w.drew (by intro j o hj;simp at hj) (Frz.refl _ _) he Z h;obtain⟨a',w',hp,hs⟩:=YO ops.size (w.tape w.drawn (.order b.fn id)) (Array.replicate ops.size false) 0 [] a w.drew ⟨Z,λi hi=>by simp [hi,Array.getD_eq_getD_getElem?],Z⟩ hX b k cs;refine⟨.normal,a',w',⟨rfl,hp⟩,.head iR ?_⟩;have e1:Region.schedule (P.follows .mixedOrders) ops (w.tape w.drawn (.order b.fn id))=Region.linearise.go .any ops ops.size (w.tape w.drawn (.order b.fn id)) (Array.replicate ops.size false) []:=by
  simp only[Region.schedule,hm,Bool.true_or,if_true];rfl
 rw[e1];exact hs.trans (.one RB)
end
section
variable {P:Program}
theorem Ht{J:List Nat}{base:Env}{M:(Env→World→Prop)→World→Prop}{K:Env→World→Prop}{w:World}(h:EG J base M K w):
  ∃R:Env→World→Prop,M R w∧∀(a:Env) (b:Act) (c:World),Ax a b→R a c→Ax base b→∃d,Ax d b∧K d c:=by
 unfold EG at h;split at h
 ·obtain⟨R,e,f⟩:=h;exact⟨λ_ w=>R w,e,λe' b c _ g i=>⟨_,i,f c g⟩⟩
 ·rename_i j;obtain⟨R,e,f⟩:=h;refine⟨_,e,λe' b c k g i=>?_⟩;have l:=Ah k g;refine⟨_,?_,f _ c l⟩;exact(An i (x:=.val _) rfl)
 ·rename_i j m;obtain⟨R,e,f⟩:=h;refine⟨_,e,λe' b c k g i=>?_⟩;have l:=Ah k g;have n:=Ah k l;refine⟨_,?_,f _ _ c n⟩;exact(An (An i (x:=.val _) rfl) (x:=.val _) rfl)
 ·rename_i j m o;obtain⟨R,e,f⟩:=h;refine⟨_,e,λe' b c k g i=>?_⟩;have l:=Ah k g;have n:=Ah k l;have p:=Ah k n;refine⟨_,?_,f _ _ _ c p⟩;exact(An (An (An i (x:=.val _) rfl) (x:=.val _) rfl) (x:=.val _) rfl)
 ·rename_i j m o q;obtain⟨R,e,f⟩:=h;refine⟨_,e,λe' b c k g i=>?_⟩;have l:=Ah k g;have n:=Ah k l;have p:=Ah k n;have r:=Ah k p;refine⟨_,?_,f _ _ _ _ c r⟩;exact(An (An (An (An i (x:=.val _) rfl) (x:=.val _) rfl) (x:=.val _) rfl) (x:=.val _) rfl)
 ·rename_i j m o q s;obtain⟨R,e,f⟩:=h;refine⟨_,e,λe' b c k g i=>?_⟩;have l:=Ah k g;have n:=Ah k l;have p:=Ah k n;have r:=Ah k p;have t:=Ah k r;refine⟨_,?_,f _ _ _ _ _ c t⟩;exact(An (An (An (An (An i (x:=.val _) rfl) (x:=.val _) rfl) (x:=.val _) rfl) (x:=.val _) rfl) (x:=.val _) rfl)
 ·rename_i j m o q s u;obtain⟨R,e,f⟩:=h;refine⟨_,e,λe' b c k g i=>?_⟩;have l:=Ah k g;have n:=Ah k l;have p:=Ah k n;have r:=Ah k p;have t:=Ah k r;have v:=Ah k t;refine⟨_,?_,f _ _ _ _ _ _ c v⟩;exact(An (An (An (An (An (An i (x:=.val _) rfl) (x:=.val _) rfl) (x:=.val _) rfl) (x:=.val _) rfl) (x:=.val _) rfl) (x:=.val _) rfl)
 ·rename_i j m o q s u y;obtain⟨R,e,f⟩:=h;refine⟨_,e,λe' b c k g i=>?_⟩;have l:=Ah k g;have n:=Ah k l;have p:=Ah k n;have r:=Ah k p;have t:=Ah k r;have v:=Ah k t;have z:=Ah k v;refine⟨_,?_,f _ _ _ _ _ _ _ c z⟩;exact(An (An (An (An (An (An (An i (x:=.val _) rfl) (x:=.val _) rfl) (x:=.val _) rfl) (x:=.val _) rfl) (x:=.val _) rfl) (x:=.val _) rfl) (x:=.val _) rfl)
 ·rename_i j m o q s u y A;obtain⟨R,e,f⟩:=h;refine⟨_,e,λe' b c k g i=>?_⟩;have l:=Ah k g;have n:=Ah k l;have p:=Ah k n;have r:=Ah k p;have t:=Ah k r;have v:=Ah k t;have z:=Ah k v;have B:=Ah k z;refine⟨_,?_,f _ _ _ _ _ _ _ _ c B⟩;exact(An (An (An (An (An (An (An (An i (x:=.val _) rfl) (x:=.val _) rfl) (x:=.val _) rfl) (x:=.val _) rfl) (x:=.val _) rfl) (x:=.val _) rfl) (x:=.val _) rfl) (x:=.val _) rfl)
 ·exact h.elim
theorem Zg{L:List Nat}{e base:Env}{body:Env→(Env→World→Prop)→World→Prop}{a:Act}{w:World}(b:Ax e a)(h:Ks L e base body w):
  ∃(I:Act→World→Prop) (μ:Act→World→Nat),I a w∧∀(c:Act) (d:World),I c d→Ax base c →
   ∃(f:Env) (g:Env→World→Prop),Ax f c∧body f g d∧∀i j w2,Ax i j→g i w2→I j w2∧μ j w2<μ c d:=by
 unfold Ks at h;split at h
 ·obtain⟨I,μ,k,l⟩:=h;exact⟨λ_ w=>I w,λ_ w=>μ w,k,λa1 d m n=>⟨_,_,n,l d m,λ_ _ _ _ h=>h⟩⟩
 ·rename_i o;have p:=Ah b h;obtain⟨I,μ,k,l⟩:=p;refine⟨λa w=>I (Aj a o) w,λa w=>μ (Aj a o) w,k,λa1 d m n=>⟨_,_,?_,l _ d m,λe2 j w2 q r=>?_⟩⟩
  ·exact(An n (x:=.val _) rfl)
  ·have s:=Ah q r;exact s
 ·rename_i o t;have p:=Ah b h;have u:=Ah b p;obtain⟨I,μ,k,l⟩:=u;refine⟨λa w=>I (Aj a o) (Aj a t) w,λa w=>μ (Aj a o) (Aj a t) w,k,λa1 d m n=>⟨_,_,?_,l _ _ d m,λe2 j w2 q r=>?_⟩⟩
  ·exact(An (An n (x:=.val _) rfl) (x:=.val _) rfl)
  ·have s:=Ah q r;have v:=Ah q s;exact v
 ·rename_i o t y;have p:=Ah b h;have u:=Ah b p;have z:=Ah b u;obtain⟨I,μ,k,l⟩:=z;refine⟨λa w=>I (Aj a o) (Aj a t) (Aj a y) w,λa w=>μ (Aj a o) (Aj a t) (Aj a y) w,k,λa1 d m n=>⟨_,_,?_,l _ _ _ d m,λe2 j w2 q r=>?_⟩⟩
  ·exact(An (An (An n (x:=.val _) rfl) (x:=.val _) rfl) (x:=.val _) rfl)
  ·have s:=Ah q r;have v:=Ah q s;have A:=Ah q v;exact A
 ·rename_i o t y B;have p:=Ah b h;have u:=Ah b p;have z:=Ah b u;have C:=Ah b z;obtain⟨I,μ,k,l⟩:=C;refine⟨λa w=>I (Aj a o) (Aj a t) (Aj a y) (Aj a B) w,λa w=>μ (Aj a o) (Aj a t) (Aj a y) (Aj a B) w,k,λa1 d m n=>⟨_,_,?_,l _ _ _ _ d m,λe2 j w2 q r=>?_⟩⟩
  ·exact(An (An (An (An n (x:=.val _) rfl) (x:=.val _) rfl) (x:=.val _) rfl) (x:=.val _) rfl)
  ·have s:=Ah q r;have v:=Ah q s;have A:=Ah q v;have D:=Ah q A;exact D
 ·rename_i o t y B E;have p:=Ah b h;have u:=Ah b p;have z:=Ah b u;have C:=Ah b z;have F:=Ah b C;obtain⟨I,μ,k,l⟩:=F;refine⟨λa w=>I (Aj a o) (Aj a t) (Aj a y) (Aj a B) (Aj a E) w,λa w=>μ (Aj a o) (Aj a t) (Aj a y) (Aj a B) (Aj a E) w,k,λa1 d m n=>⟨_,_,?_,l _ _ _ _ _ d m,λe2 j w2 q r=>?_⟩⟩
  ·exact(An (An (An (An (An n (x:=.val _) rfl) (x:=.val _) rfl) (x:=.val _) rfl) (x:=.val _) rfl) (x:=.val _) rfl)
  ·have s:=Ah q r;have v:=Ah q s;have A:=Ah q v;have D:=Ah q A;have G:=Ah q D;exact G
 ·rename_i o t y B E H;have p:=Ah b h;have u:=Ah b p;have z:=Ah b u;have C:=Ah b z;have F:=Ah b C;have J:=Ah b F;obtain⟨I,μ,k,l⟩:=J;refine⟨λa w=>I (Aj a o) (Aj a t) (Aj a y) (Aj a B) (Aj a E) (Aj a H) w,λa w=>μ (Aj a o) (Aj a t) (Aj a y) (Aj a B) (Aj a E) (Aj a H) w,k,λa1 d m n=>⟨_,_,?_,l _ _ _ _ _ _ d m,λe2 j w2 q r=>?_⟩⟩
  ·exact(An (An (An (An (An (An n (x:=.val _) rfl) (x:=.val _) rfl) (x:=.val _) rfl) (x:=.val _) rfl) (x:=.val _) rfl) (x:=.val _) rfl)
  ·have s:=Ah q r;have v:=Ah q s;have A:=Ah q v;have D:=Ah q A;have G:=Ah q D;have K:=Ah q G;exact K
 ·rename_i o t y B E H M;have p:=Ah b h;have u:=Ah b p;have z:=Ah b u;have C:=Ah b z;have F:=Ah b C;have J:=Ah b F;have N:=Ah b J;obtain⟨I,μ,k,l⟩:=N;refine⟨λa w=>I (Aj a o) (Aj a t) (Aj a y) (Aj a B) (Aj a E) (Aj a H) (Aj a M) w,λa w=>μ (Aj a o) (Aj a t) (Aj a y) (Aj a B) (Aj a E) (Aj a H) (Aj a M) w,k,λa1 d m n=>⟨_,_,?_,l _ _ _ _ _ _ _ d m,λe2 j w2 q r=>?_⟩⟩
  ·exact(An (An (An (An (An (An (An n (x:=.val _) rfl) (x:=.val _) rfl) (x:=.val _) rfl) (x:=.val _) rfl) (x:=.val _) rfl) (x:=.val _) rfl) (x:=.val _) rfl)
  ·have s:=Ah q r;have v:=Ah q s;have A:=Ah q v;have D:=Ah q A;have G:=Ah q D;have K:=Ah q G;have Q:=Ah q K;exact Q
 ·rename_i o t y B E H M R;have p:=Ah b h;have u:=Ah b p;have z:=Ah b u;have C:=Ah b z;have F:=Ah b C;have J:=Ah b F;have N:=Ah b J;have S:=Ah b N;obtain⟨I,μ,k,l⟩:=S;refine⟨λa w=>I (Aj a o) (Aj a t) (Aj a y) (Aj a B) (Aj a E) (Aj a H) (Aj a M) (Aj a R) w,λa w=>μ (Aj a o) (Aj a t) (Aj a y) (Aj a B) (Aj a E) (Aj a H) (Aj a M) (Aj a R) w,k,λa1 d m n=>⟨_,_,?_,l _ _ _ _ _ _ _ _ d m,λe2 j w2 q r=>?_⟩⟩
  ·exact(An (An (An (An (An (An (An (An n (x:=.val _) rfl) (x:=.val _) rfl) (x:=.val _) rfl) (x:=.val _) rfl) (x:=.val _) rfl) (x:=.val _) rfl) (x:=.val _) rfl) (x:=.val _) rfl)
  ·have s:=Ah q r;have v:=Ah q s;have A:=Ah q v;have D:=Ah q A;have G:=Ah q D;have K:=Ah q G;have Q:=Ah q K;have T:=Ah q Q;exact T
 ·rename_i o t y B E H M R U;have p:=Ah b h;have u:=Ah b p;have z:=Ah b u;have C:=Ah b z;have F:=Ah b C;have J:=Ah b F;have N:=Ah b J;have S:=Ah b N;have V:=Ah b S;obtain⟨I,μ,k,l⟩:=V;refine⟨λa w=>I (Aj a o) (Aj a t) (Aj a y) (Aj a B) (Aj a E) (Aj a H) (Aj a M) (Aj a R) (Aj a U) w,λa w=>μ (Aj a o) (Aj a t) (Aj a y) (Aj a B) (Aj a E) (Aj a H) (Aj a M) (Aj a R) (Aj a U) w,k,λa1 d m n=>⟨_,_,?_,l _ _ _ _ _ _ _ _ _ d m,λe2 j w2 q r=>?_⟩⟩
  ·exact(An (An (An (An (An (An (An (An (An n (x:=.val _) rfl) (x:=.val _) rfl) (x:=.val _) rfl) (x:=.val _) rfl) (x:=.val _) rfl) (x:=.val _) rfl) (x:=.val _) rfl) (x:=.val _) rfl) (x:=.val _) rfl)
  ·have s:=Ah q r;have v:=Ah q s;have A:=Ah q v;have D:=Ah q A;have G:=Ah q D;have K:=Ah q G;have Q:=Ah q K;have T:=Ah q Q;have W:=Ah q T;exact W
 ·rename_i o t y B E H M R U X;have p:=Ah b h;have u:=Ah b p;have z:=Ah b u;have C:=Ah b z;have F:=Ah b C;have J:=Ah b F;have N:=Ah b J;have S:=Ah b N;have V:=Ah b S;have Y:=Ah b V;obtain⟨I,μ,k,l⟩:=Y;refine⟨λa w=>I (Aj a o) (Aj a t) (Aj a y) (Aj a B) (Aj a E) (Aj a H) (Aj a M) (Aj a R) (Aj a U) (Aj a X) w,λa w=>μ (Aj a o) (Aj a t) (Aj a y) (Aj a B) (Aj a E) (Aj a H) (Aj a M) (Aj a R) (Aj a U) (Aj a X) w,k,λa1 d m n=>⟨_,_,?_,l _ _ _ _ _ _ _ _ _ _ d m,λe2 j w2 q r=>?_⟩⟩
  ·exact(An (An (An (An (An (An (An (An (An (An n (x:=.val _) rfl) (x:=.val _) rfl) (x:=.val _) rfl) (x:=.val _) rfl) (x:=.val _) rfl) (x:=.val _) rfl) (x:=.val _) rfl) (x:=.val _) rfl) (x:=.val _) rfl) (x:=.val _) rfl)
  ·have s:=Ah q r;have v:=Ah q s;have A:=Ah q v;have D:=Ah q A;have G:=Ah q D;have K:=Ah q G;have Q:=Ah q K;have T:=Ah q Q;have W:=Ah q T;have c:=Ah q W;exact c
 ·exact h.elim
theorem Ia{N:Nat}{b:List Nat}{a c:Act}(h:a.tmps.size=N)(d:Frz b a c):c.tmps.size=N:=by rw[d.1,h]
theorem bT(r:Nat)(a:List Deferred):Cv ({ target:=.collected r,args:=#[] }::a)=Cr r (Cv a):=by
 unfold Cv;simp only[C3,GH];cases C3 a with
 | none=>rfl
 | some b=>simp [Cr]
def TD(L:Loop):LSt→Obj
 | .ready=>.loop L
 | .busy=>.loop { L with state:=.busy }
 | .gone .ret=>.loop { L with state:=.done,pending:=some .ret }
 | .gone (.exit id)=>.loop { L with state:=.done,pending:=some (.exit id) }
 | .gone .normal=>.loop { L with state:=.done }
 | .over .ret=>.loop { L with state:=.exhausted,pending:=some .ret }
 | .over (.exit id)=>.loop { L with state:=.exhausted,pending:=some (.exit id) }
 | .over .normal=>.loop { L with state:=.exhausted }
theorem Vt(l:List (Nat × Value))(tmps:Array Value):(l.foldl (λtmps p=>tmps.setIfInBounds p.1 p.2) tmps).size=tmps.size:=by
 induction l generalizing tmps with
 | nil=>rfl
 | cons p l ih=>rw[List.foldl_cons,ih];simp
theorem Qs:∀(b:List Nat) (i:Nat) (c d:List Value) (e:Env) (a:Act),Ax e a→(∀p∈b,p<a.tmps.size)→b.length=d.length→d=c.drop i →
  Ax (Ez b i c e) { tmps:=(b.zip d).foldl (λtmps p=>tmps.setIfInBounds p.1 p.2) a.tmps,defers:=a.defers }
 | [],i,c,d,e,a,h,_,_,_=>by simpa [Ez] using h
 | p::b,i,c,[],e,a,h,_,hl,_=>by simp at hl
 | p::b,i,c,u::d,e,a,h,hp,hl,hu=>by
  have f:BA c i=u:=by
   clear h hp hl
   induction c generalizing i with
   | nil=>simp at hu
   | cons v c g =>
    cases i with
    | zero=>simp at hu;exact hu.1.symm
    | succ i=>exact g i (by simpa using hu)
  have j:d=c.drop (i+1):=by
   have:=congrArg (List.drop 1) hu;simpa [List.drop_drop] using this
  have k:=BM (dst:=some p) (x:=.val u) (v:=u) h rfl (λd l=>by cases l;exact hp p Z);have:=Qs b (i+1) c d ((p,.val u)::e) (a.put (some p) u) k (λq m=>by simpa [Act.put] using hp q (by simp [m])) (by simpa using hl) j;show Ax (Ez b (i+1) c ((p,.val (BA c i))::e)) _;rw[f];exact this
def Oi(b:List Nat)(Q:Ex→Env→World→Prop)(a:Act)(c:Ex)(d:Act)(w':World):Prop:=Frz b a d∧∃e,Ax e d∧Q c e w'
theorem cR(hm:P.follows .mixedOrders=true){hs:Fy}{N:Nat}:∀(c:Code) (top:Bool) (ro:Option Nat),(top=true→ro=none)→∀(n:Nat) (Q:Ex→Env→World→Prop) (e:Env) (a:Act) (w:World),wfc N c=true→a.tmps.size=N→Ax e a →
  tr P top hs c n Q e w→WP P ro c (Oi (Cm c) Q a) a w:=by
 intro c
 induction c with
 | skip=>exact λtop ro hro n Q e a w _ _ he h=>.skip ⟨Frz.refl _ _,e,he,h⟩
 | label l=>exact λtop ro hro n Q e a w _ _ he h=>.label ⟨Frz.refl _ _,e,he,h⟩
 | scope c ih =>
  intro top ro hro n Q e a w hw hN he h;unfold tr at h;exact .scope (ih top ro hro _ _ e a w hw hN he h)
 | exit id=>exact λtop ro hro n Q e a w _ _ he h=>.exit ⟨Frz.refl _ _,e,he,h⟩
 | ret=>exact λtop ro hro n Q e a w _ _ he h=>.ret ⟨Frz.refl _ _,e,he,h⟩
 | region id ops draw =>
  intro top ro hro n Q e a w hw hN he h;subst hN;cases draw with
  | true =>
   unfold tr at h;split at h
   ·exact h.elim
   ·rename_i hap;split at h
    ·exact(Pu hm hw he hap h).mono λex a' w' ⟨hx,hf,e',he',hk⟩=>by subst hx;exact⟨hf,e',he',hk⟩
    ·obtain⟨R,hM,hK⟩:=Ht h;refine(Pu hm hw he hap hM).mono λex a' w' ⟨hx,hf,e',he',hk⟩=>?_;subst hx;exact⟨hf,hK e' a' w' he' hk (Fk he hf)⟩
  | false =>
   unfold tr at h;split at h
   ·exact(Mo hw he h).mono λex a' w' ⟨hx,hf,e',he',hk⟩=>by subst hx;exact⟨hf,e',he',hk⟩
   ·obtain⟨R,hM,hK⟩:=Ht h;refine(Mo hw he hM).mono λex a' w' ⟨hx,hf,e',he',hk⟩=>?_;subst hx;exact⟨hf,hK e' a' w' he' hk (Fk he hf)⟩
 | seq x y ihx ihy =>
  intro top ro hro n Q e a w hw hN he h;simp only[wfc,Bool.and_eq_true] at hw;unfold tr at h;split at h
  ·refine .seq ((ihx top ro hro _ _ e a w hw.1 hN he h).mono ?_);rintro ex a' w' ⟨hf,e',he',hq⟩;cases ex with
   | normal =>
    refine(ihy top ro hro _ _ e' a' w' hw.2 (Ia hN hf) he' hq).mono ?_;rintro ex a₂ w₂ ⟨hf₂,e₂,he₂,hq₂⟩;exact⟨hf.trans hf₂,e₂,he₂,hq₂⟩
   | exit id=>exact⟨hf.mono λs hs=>List.mem_append.2 (.inl hs),e',he',hq⟩
   | ret=>exact⟨hf.mono λs hs=>List.mem_append.2 (.inl hs),e',he',hq⟩
  ·obtain⟨R,hM,hK⟩:=Ht h;refine .seq ((ihx top ro hro _ _ e a w hw.1 hN he hM).mono ?_);rintro ex a' w' ⟨hf,e',he',hq⟩;cases ex with
   | normal =>
    obtain⟨e'',he'',hk⟩:=hK e' a' w' he' hq (Fk he hf);refine(ihy top ro hro _ _ e'' a' w' hw.2 (Ia hN hf) he'' hk).mono ?_;rintro ex a₂ w₂ ⟨hf₂,e₂,he₂,hq₂⟩;exact⟨hf.trans hf₂,e₂,he₂,hq₂⟩
   | exit id=>exact⟨hf.mono λs hs=>List.mem_append.2 (.inl hs),e',he',hq⟩
   | ret=>exact⟨hf.mono λs hs=>List.mem_append.2 (.inl hs),e',he',hq⟩
 | cond c x y ihx ihy =>
  intro top ro hro n Q e a w hw hN he h;simp only[wfc,Bool.and_eq_true] at hw;have hc:=B2 he c;have go:∀(b:Bool),a.eval c=.bool b→∀e,Ax e a→(b=true→tr P top hs x (n+1) Q e w)→(b=false→tr P top hs y (n+1+Cf x) Q e w)→WP P ro (.cond c x y) (Oi (Cm (.cond c x y)) Q a) a w:=by
   intro b hb e he h1 h2;refine .cond hb ?_;cases b
   ·exact(ihy top ro hro _ _ e a w hw.2 hN he (h2 rfl)).mono λex a' w' ⟨hf,r⟩=>⟨hf.mono λs hs=>List.mem_append.2 (.inr hs),r⟩
   ·exact(ihx top ro hro _ _ e a w hw.1 hN he (h1 rfl)).mono λex a' w' ⟨hf,r⟩=>⟨hf.mono λs hs=>List.mem_append.2 (.inl hs),r⟩
  have ref:∀b,Bb e c≠.unk→a.eval c=.bool b→Ax (J1 e c b) a:=by
   intro b hne hb;cases c with
   | tmp t=>exact Di he hne (x:=.lit b) hb
   | _=>exact he
  unfold tr at h;split at h<;>rename_i hx<;>simp only[hx,Ent.ok] at hc
  ·exact h.elim
  ·exact h.elim
  ·rename_i b;refine go b hc e he ?_ ?_<;>(rintro rfl;exact h)
  ·obtain⟨b,hb,h1,h2⟩:=h;have hv:=hc.trans hb;cases b
   ·exact go _ hv _ (ref _ (by rw[hx];simp) hv) (λh=>by cases h) h2
   ·exact go _ hv _ (ref _ (by rw[hx];simp) hv) h1 (λh=>by cases h)
 | block id c ih =>
  intro top ro hro n Q e a w hw hN he h;unfold tr at h;refine .block ?_;split at h
  ·refine(ih top ro hro _ _ e a w hw hN he h).mono ?_;rintro ex a' w' ⟨hf,e',he',hq⟩;cases ex with
   | normal=>exact⟨hf,e',he',hq⟩
   | ret=>exact⟨hf,e',he',hq⟩
   | exit id' =>
    by_cases hid:id'=id
    ·subst hid;simp only[E4,Nat.beq_refl,cond_true] at hq;simp only[Ex.inBlk,if_true];exact⟨hf,e',he',hq⟩
    ·have hb:Nat.beq id' id=false:=by
      cases hb:Nat.beq id' id with
      | true=>exact absurd (Nat.eq_of_beq_eq_true hb) hid
      | false=>rfl
     simp only[E4,hb,cond_false] at hq;simp only[Ex.inBlk,hid,if_false];exact⟨hf,e',he',hq⟩
  ·obtain⟨R,hM,hK⟩:=Ht h;refine(ih top ro hro _ _ e a w hw hN he hM).mono ?_;rintro ex a' w' ⟨hf,e',he',hq⟩;cases ex with
   | normal=>exact⟨hf,hK e' a' w' he' hq (Fk he hf)⟩
   | ret=>exact⟨hf,e',he',hq⟩
   | exit id' =>
    by_cases hid:id'=id
    ·subst hid;simp only[E4,Nat.beq_refl,cond_true] at hq;simp only[Ex.inBlk,if_true];exact⟨hf,hK e' a' w' he' hq (Fk he hf)⟩
    ·have hb:Nat.beq id' id=false:=by
      cases hb:Nat.beq id' id with
      | true=>exact absurd (Nat.eq_of_beq_eq_true hb) hid
      | false=>rfl
     simp only[E4,hb,cond_false] at hq;simp only[Ex.inBlk,hid,if_false];exact⟨hf,e',he',hq⟩
 | loop c ih =>
  intro top ro hro n Q e a w hw hN he h;unfold tr at h;split at h
  ·exact h.elim
  ·obtain⟨I,μ,h0,hr⟩:=Zg he h;refine .loop (λa1 w1=>I a1 w1∧Frz (Cm c) a a1) μ ⟨h0,Frz.refl _ _⟩ ?_;rintro a1 w1 ⟨hI,hf1⟩;obtain⟨e1,nx,he1,hb,hnx⟩:=hr a1 w1 hI (Fk he hf1);refine(ih top ro hro _ _ e1 a1 w1 hw (Ia hN hf1) he1 hb).mono ?_;rintro ex a2 w2 ⟨hf2,e2,he2,hq⟩;have hf:Frz (Cm c) a a2:=(hf1.trans hf2).mono λs hs=>by simpa using hs
   cases ex with
   | normal =>
    obtain⟨hI2,hlt⟩:=hnx e2 a2 w2 he2 hq;exact⟨⟨hI2,hf⟩,hlt⟩
   | exit id=>exact⟨hf,e2,he2,hq⟩
   | ret=>exact⟨hf,e2,he2,hq⟩
 | rangeFunc f params x y ihx ihy =>
  intro top ro hro n Q e a w hw hN he h;simp only[wfc,Bool.and_eq_true] at hw;obtain⟨⟨hwp,hwx⟩,hwy⟩:=hw;unfold tr at h;split at h
  ·rename_i fv dv hfv hdv;have hro':ro=none:=hro rfl;have hev:=B2 he f;rw[hfv] at hev;have hev:a.eval f=fv:=hev;obtain⟨h⟩:=h;intro b k cs hb;have h:=h (TD { state:=.ready,pending:=none,fn:=b.fn,tmps:=a.tmps,params,assign:=x,body:=y,defers:=w.heap.size }) (.func (.yield (w.heap.size+1)) #[] #[]) ?_
   ·obtain⟨g,us,cs',hgf,hgb,hcalls⟩:=h;have hst:=cM (P:=P) (b:=b) (a:=a) (k:=k) (cs:=cs) (w:=w) (f:=f) (params:=params) (assign:=x) (body:=y) (hb.trans hro') (hev.trans hgf) hgb;have hargs:us.toArray++#[Value.func (.yield (w.heap.size+1)) #[] #[]]++cs'.toArray=(us++[Value.func (.yield (w.heap.size+1)) #[] #[]]++cs').toArray:=Z;rw[hargs] at hst;obtain⟨en,w3,fr,hR,hs,_,hl⟩:=hcalls (At b { a with defers:={ target:=.collected w.heap.size,args:=#[] }::a.defers } (.inRangeFunc (w.heap.size+1)::k)::cs);cases en with
    | returned v =>
     have hfin:(At b { a with defers:={ target:=.collected w.heap.size,args:=#[] }::a.defers } (.inRangeFunc (w.heap.size+1)::k)).finish v=At b { a with defers:={ target:=.collected w.heap.size,args:=#[] }::a.defers } (.endRangeFunc (w.heap.size+1)::k):=by simp [Frame.finish,At]
     have hgo:=Steps.trans (.head hst hs) (.one (hfin ▸ step_leave_returned hl));have hfz:Frz [DK] a { a with defers:={ target:=.collected w.heap.size,args:=#[] }::a.defers }:=⟨rfl,λs hs=>by
      have:s≠DK:=by simpa using hs
      rw[Db _ this,Db _ this]⟩
     have hag:Ax ((DK,.val (Cr w.heap.size dv))::e) { a with defers:={ target:=.collected w.heap.size,args:=#[] }::a.defers }:=by
      refine⟨he.1,λi=>?_⟩;rw[Env.get_cons];split
      ·rename_i hi;subst hi;have h1:=he.2 DK;rw[hdv] at h1;have h1:Aj a DK=dv:=h1;have h2:Cv a.defers=dv:=by rw[←h1];simp [Aj]
       show Aj _ DK=_;unfold Aj;rw[rG rfl,←h2];exact bT _ _
      ·rename_i hi;have hi:i≠DK:=λe=>hi e.symm;have:=he.2 i;rw[Db _ hi] at this ⊢;exact this
     rcases hR with ⟨hh,hq⟩|⟨hh,hq⟩|⟨id,q,hmem,hh,hq⟩
     ·exact⟨.normal,_,_,⟨hfz,_,hag,hq⟩,hgo.trans (.one (IQ hh Z))⟩
     ·cases hr:Dj y with
      | false=>rw[hr] at hq;exact hq.elim
      | true =>
       rw[hr] at hq;exact⟨.ret,_,_,⟨hfz,_,hag,hq⟩,k,hgo.trans (.one (IQ hh Z))⟩
     ·obtain⟨id',-,hid⟩:=List.mem_map.1 hmem;cases hid;exact⟨.exit id,_,_,⟨hfz,_,hag,hq⟩,k,rfl,hgo.trans (.one (IQ hh Z))⟩
    | panicked chain=>exact hR.elim
    | outgrown=>exact hR.elim
   ·intro vs w2 K hlen hh2 hM ats ty;refine⟨λρ hg=>?_⟩;have hrun:(execOp ρ (Ap (.call { callee:=.value (.const (.func (.yield (w.heap.size+1)) #[] #[])),args:=(vs.map Operand.const).toArray,argTypes:=ats }) ty)).run P w2 =
      .ok (.round (w.heap.size+1) b.fn ((params.toList.zip vs).foldl (λtmps p=>tmps.setIfInBounds p.1 p.2) a.tmps) x y) w2:=by
     have hsz:¬(vs.length≠params.size):=by simp [hlen]
     have hmap:(vs.map Operand.const).toArray.map ρ=vs.toArray:=by
      simp only[List.map_toArray,List.map_map];congr 1;rw[show ρ ∘ Operand.const=id from funext λv=>hg.1 v];simp
     have hz:(params.zip vs.toArray).foldl (λtmps (p:Nat × Value)=>tmps.setIfInBounds p.1 p.2) a.tmps=(params.toList.zip vs).foldl (λtmps p=>tmps.setIfInBounds p.1 p.2) a.tmps:=by
      rw[←Array.foldl_toList];simp
     simp only[execOp,Ap,resolve,hmap,hg.1,Deferred.ofValue];simp [invoke,Instr.yield,Fw hh2,hlen,←hz]
    rw[hrun];refine⟨λc cs'=>?_⟩
    let b':Frame:={ (default:Frame) with fn:=b.fn,kind:=.normal,roundOf:=some (w.heap.size+1) }
    let a':Act:={ tmps:=(params.toList.zip vs).foldl (λtmps p=>tmps.setIfInBounds p.1 p.2) a.tmps,defers:=[] }
    have hfr:Frame.round (w.heap.size+1) b.fn ((params.toList.zip vs).foldl (λtmps p=>tmps.setIfInBounds p.1 p.2) a.tmps) x y .normal=At b' a' [.code x,.beginRound,.code y]:=by simp [Frame.round,At,b',a']
    rw[hfr];have hag0:Ax ((DK,.unk)::e) { tmps:=a.tmps,defers:=[] }:=by
     refine⟨he.1,λi=>?_⟩;rw[Env.get_cons];split
     ·trivial
     ·rename_i hi;have hi:i≠DK:=λe=>hi e.symm;have:=he.2 i;rw[Db _ hi] at this ⊢;exact this
    have hps:∀p∈params.toList,p<a.tmps.size:=by
     intro p hp;have:=List.all_eq_true.1 hwp p hp;rw[hN];simpa [Nat.blt_eq] using this
    have hag:Ax (Ez params.toList 0 vs ((DK,.unk)::e)) a':=Qs params.toList 0 vs vs _ { tmps:=a.tmps,defers:=[] } hag0 hps (by simp [hlen]) rfl;have hsz:a'.tmps.size=N:=by
     show((params.toList.zip vs).foldl (λtmps p=>tmps.setIfInBounds p.1 p.2) a.tmps).size=N;rw[Vt,hN]
    obtain⟨ex1,a1,w1,⟨hf1,e1,he1,hq1⟩,hr1⟩:=ihx false (some (w.heap.size+1)) Z _ _ _ a' w2 hwx hsz hag hM b' [.beginRound,.code y] (c::cs') rfl;cases ex1 with
    | exit id=>exact hq1.elim
    | ret=>exact hq1.elim
    | normal =>
     obtain⟨hb1,hq1⟩:=hq1;have hgo1:=Steps.trans hr1 (.one (TB (P:=P) (b:=b') (a:=a1) (k:=[.code y]) (cs:=c::cs') rfl hb1 rfl));obtain⟨ex2,a2,w4,⟨hf2,e2,he2,hq2⟩,hr2⟩:=ihy false (some (w.heap.size+1)) Z _ _ e1 a1 _ hwy (Ia hsz hf1) he1 hq1 b' [] (c::cs') rfl;cases ex2 with
     | normal =>
      obtain⟨hb2,hK⟩:=hq2;exact⟨_,_,hK,(hgo1.trans hr2).trans (.one (XA (P:=P) (b:=b') (a:=a2) rfl rfl hb2))⟩
     | ret =>
      obtain⟨hb2,hK⟩:=hq2;obtain⟨k',hr2⟩:=hr2;exact⟨_,_,hK,(hgo1.trans hr2).trans (.one (fT (P:=P) (b:=b') (a:=a2) (L:={ state:=.busy,pending:=none,fn:=b.fn,tmps:=a.tmps,params,assign:=x,body:=y,defers:=w.heap.size }) rfl rfl hb2))⟩
     | exit id =>
      obtain⟨hb2,hK⟩:=hq2;obtain⟨k',hek,hr2⟩:=hr2;exact⟨_,_,hK,(hgo1.trans hr2).trans (.one (cB (P:=P) (b:=b') (a:=a2) (L:={ state:=.busy,pending:=none,fn:=b.fn,tmps:=a.tmps,params,assign:=x,body:=y,defers:=w.heap.size }) rfl rfl hek hb2))⟩
  ·exact h.elim
 | _=>exact λtop ro hro n Q e a w _ _ _ h=>by simp [tr] at h
theorem ZD(vs:List Value)(i j:Nat):Env.get (E2 i vs) j=if i≤j then(match vs[j-i]? with|some v=>.val v|none=>.unk) else .unk:=by
 induction vs generalizing i with
 | nil=>simp [E2,Env.get]
 | cons v vs a =>
  show Env.get ((i,.val v)::E2 (i+1) vs) j=_;rw[Env.get_cons,a];by_cases h:i=j
  ·subst h;simp
  ·by_cases b:i≤j
   ·obtain⟨d,rfl⟩:∃d,j=i+1+d:=⟨j-(i+1),O⟩;have c:i+1+d-i=d+1:=O;have e:i+1+d-(i+1)=d:=O;simp [c,e,show ¬i=i+1+d by omega,show i≤i+1+d by omega]
   ·simp [h,b,show ¬i+1≤j by omega]
theorem cH(vs:List Value)(n:Nat)(a:vs.length+n≤DK):Ax (HL vs) { tmps:=vs.toArray++Array.replicate n undef,defers:=[] }:=by
 refine⟨by simpa using a,λj=>?_⟩;show(Env.get ((DK,.val (.tuple #[]))::E2 0 vs) j).ok _;rw[Env.get_cons];split
 ·rename_i b;subst b;simp [Aj,Cv,C3,Ent.ok]
 ·rename_i b;rw[Db _ λe=>b e.symm,ZD];simp only[Nat.zero_le,if_true,Nat.sub_zero];cases h:vs[j]? with
  | none=>trivial
  | some v =>
   have b:j<vs.length:=(rO.1 h).1;simp only[Ent.ok,Array.getD_eq_getD_getElem?];rw[Array.getElem?_append_left (by simpa using b)];simp [h]
def FO(a:Array Value)(r:ResultVar):Sem Value:=
 match r with
 | .tmp t=>pure (a.getD t undef)
 | .cell x t=>do loadVar t (←asAddr (a.getD x undef))
theorem cg{b:List ResultVar}{K:Value→World→Prop}{e:Env}{a:Act}{w:World}(c:Ax e a):∀(d:List Value),D9 P b d K e w →
  ∃f:List Value,(b.mapM (FO a.tmps)).run P w=Result.ok f w∧K (KJ (d.reverse++f)) w:=by
 induction b with
 | nil=>exact λacc h=>⟨[],rfl,by simpa [D9] using h⟩
 | cons r b g =>
  intro d h;cases r with
  | tmp t =>
   have i:=NC c h;obtain⟨f,j,k⟩:=g _ i;refine⟨a.tmps.getD t undef::f,?_,by simpa using k⟩;rw[List.mapM_cons];simp only[FO,Sem.run_bind,pure_bind];rw[j];rfl
  | cell x t =>
   have i:=NC c h;obtain⟨l,v,m,n,o⟩:=i;obtain⟨f,j,k⟩:=g _ o;refine⟨v::f,?_,by simpa using k⟩;rw[List.mapM_cons];simp only[FO,m,Sem.run_bind,asAddr,pure_bind,n,Result.andThen_ok];rw[j];rfl
theorem fD{a:Func}{b:Array Value}{w:World}{vs:List Value}(h:(a.results.toList.mapM (FO b)).run P w=Result.ok vs w):
  (results a b).run P w=.ok (KJ vs) w:=by
 have e:results a b=(do let vs ←a.results.mapM (FO b);pure (if h:vs.size=1 then vs[0] else .tuple vs)):=rfl;rw[e,Array.mapM_eq_mapM_toList];simp only[Sem.run_bind,map_eq_pure_bind,bind_assoc,pure_bind,h]
 match vs with
 | []=>rfl
 | [v]=>rfl
 | u::v::l=>rfl
theorem SN{M:World→Prop}{cs:List Frame}:∀(a:List Deferred) (b:Frame) (w:World),b.defers=a→b.mode=.returning→B0 (Cv a) M w →
  ∃w2,M w2∧Steps P (lone b cs w) (lone { b with defers:=[] } cs w2)
 | [],b,w,hd,hm,h=>by
  refine⟨w,by simpa [B0,Cv,C3,E5] using h,?_⟩;have:{ b with defers:=[] }=b:=by rw[←hd]
  rw[this];exact .refl _ _
 | d::a,b,w,hd,hm,h=>by
  cases c:GH d with
  | none=>simp [B0,Cv,C3,c] at h
  | some r =>
   have e:d.target=.collected r:=by
    unfold GH at c;split at c
    ·rename_i f g;cases c;exact g
    ·cases c
   cases i:C3 a with
   | none=>simp [B0,Cv,C3,c,i] at h
   | some j =>
    simp only[B0,Cv,C3,c,i,List.map_cons,E5,Int.toNat_natCast] at h;obtain⟨k,l⟩:=h;obtain⟨w2,m,n⟩:=SN a { b with defers:=a } (Ab w r (.deferred none)) rfl hm (by simpa [B0,Cv,i] using l);exact⟨w2,m,.head (We e hd hm k) n⟩
theorem eA(a:P.follows .mixedOrders=true){f:FuncId}{fn:Func}{c:Code}{d:List Value}{w:World}{K:Value→World→Prop}{g:Fy}(i:P.funcs[f]?=some fn)(j:fn.body=some c)(k:wfc fn.ntmps c=true)(l:fn.ntmps≤DK)(m:d.length≤fn.ntmps)(h:tr P true g c 0 (Kp P fn.results.toList K) (HL d) w):Calls P f d.toArray w (Ac K):=by
 intro cs
 let b:Frame:={ (default:Frame) with fn:=f,kind:=.normal,roundOf:=none }
 have n:Frame.enter P f d.toArray .normal=At b { tmps:=d.toArray++Array.replicate (fn.ntmps-d.length) undef,defers:=[] } [.code c]:=by
  simp [Frame.enter,At,i,j,b]
 obtain⟨e,o,p,⟨q,r,s,t⟩,u⟩:=cR a c true none (λ_=>rfl) 0 _ _ { tmps:=d.toArray++Array.replicate (fn.ntmps-d.length) undef,defers:=[] } w k (by simp;omega) (cH _ _ O) h b [] cs rfl;rw[←n] at u;have x:∀(y:Frame),y.defers=o.defers→y.mode=.returning→(Af r DK λv=>B0 v (λw=>D9 P fn.results.toList [] K r w) p)→∃v w2,K v w2∧(results fn o.tmps).run P w2=.ok v w2∧Steps P (lone y cs p) (lone { y with defers:=[] } cs w2):=by
  intro y z A B;have B:=Ah s B;have C:Aj o DK=Cv o.defers:=by simp [Aj]
  rw[C] at B;obtain⟨w2,D,E⟩:=SN (P:=P) (cs:=cs) o.defers y p z A B;obtain⟨F,a,G⟩:=cg s [] D;exact⟨_,w2,G,fD a,E⟩
 cases e with
 | normal =>
  obtain⟨v,w2,G,H,E⟩:=x { At b o [] with mode:=.returning } rfl rfl t;refine⟨.returned v,w2,_,G,(Steps.trans u (.one ?_)).trans E,rfl,rfl,rfl,rfl,fn,i,H⟩;exact step_lone_go (by simp [stepG,stepG.exec,At,b])
 | ret =>
  obtain⟨I,u⟩:=u;obtain⟨v,w2,G,H,E⟩:=x { At b o (.code .ret::I) with mode:=.returning } rfl rfl t;refine⟨.returned v,w2,_,G,(Steps.trans u (.one ?_)).trans E,rfl,rfl,rfl,rfl,fn,i,H⟩;exact step_lone_go (by simp [stepG,stepG.exec,At,b])
 | exit id=>exact t.elim
end
def As(x:Option Obj)(o:Nat):Option Value:=match x with|some (.cells c _ _)=>c[o]?|_=>none
def AT(x:Option Obj)(o n:Nat):Option (Array Value):=match x with|some (.cells c _ _)=>if o+n≤c.size then some (c.extract o (o+n)) else none|_=>none
def spl(c:Array Value)(o:Nat)(vs:List Value):Array Value:=(c.toList.take o++vs++c.toList.drop (o+vs.length)).toArray
def Ao(x:Option Obj)(o:Nat)(vs:List Value):Option Obj:=
 match x with
 | some (.cells c e (0,0))=>if o+vs.length≤c.size then some (.cells (spl c o vs) e) else none
 | _=>none
@[go_sem] theorem Cp(c:Array Value)(e:TypeId)(a:Nat × Nat)(o:Nat):As (some (.cells c e a)) o=c[o]?:=rfl
@[go_sem] theorem Fe(c:Array Value)(e:TypeId)(a:Nat × Nat)(o n:Nat):AT (some (.cells c e a)) o n=if o+n≤c.size then some (c.extract o (o+n)) else none:=rfl
@[go_sem] theorem EX(c:Array Value)(e:TypeId)(o:Nat)(vs:List Value):Ao (some (.cells c e (0,0))) o vs=if o+vs.length≤c.size then some (.cells (spl c o vs) e) else none:=rfl
@[go_sem] theorem J6(l:List Value)(o:Nat)(vs:List Value):spl l.toArray o vs=(l.take o++vs++l.drop (o+vs.length)).toArray:=rfl
@[go_sem] theorem heap_alloc_new(w:World)(o:Obj)(b:Nat)(h:b=w.heap.size):(w.alloc o).heap[b]?=some o:=by subst h;unfold World.alloc;simp
@[go_sem] theorem ew(w:World)(o:Obj)(b:Nat)(h:b<w.heap.size):(w.alloc o).heap[b]?=w.heap[b]?:=by
 simp only[World.alloc,Array.getElem?_push];rw[rF O]
attribute [go_sem] World.size_alloc World.size_drew
@[go_sem] theorem Hr(w:World)(b:Nat):w.drew.heap[b]?=w.heap[b]?:=rfl
@[go_sem] theorem Aw(w:World)(b:Nat)(o:Obj)(c:Nat)(h:c=b)(a:b<w.heap.size):(Ab w b o).heap[c]?=some o:=by subst h;simp [Ab,a]
@[go_sem] theorem A5(w:World)(b:Nat)(o:Obj)(c:Nat)(h:c≠b):(Ab w b o).heap[c]?=w.heap[c]?:=by
 simp only[Ab];rw[Array.getElem?_setIfInBounds_ne (Ne.symm h)]
@[go_sem] theorem EP(w:World)(b:Nat)(o:Obj):(Ab w b o).heap.size=w.heap.size:=by simp [Ab]
@[go_sem] theorem qz(w:World)(b:Nat)(o:Obj):Ab w.drew b o=(Ab w b o).drew:=rfl
@[go_sem] theorem ZM(w:World)(b:Nat)(o a:Obj):Ab (Ab w b o) b a=Ab w b a:=by simp [Ab]
@[go_sem] theorem Kd(w:World)(o a:Obj)(b:Nat)(h:b=w.heap.size):Ab (w.alloc o) b a=w.alloc a:=by
 subst h;simp only[Ab,World.alloc];congr 1;apply Array.ext_getElem?;intro i;simp only[Array.getElem?_setIfInBounds,Array.getElem?_push,Array.size_push];by_cases c:w.heap.size=i
 ·subst c;simp
 ·have:¬i=w.heap.size:=λe=>c e.symm;simp [c,this]
@[go_sem] theorem qU(w:World)(o a:Obj)(b:Nat)(h:b<w.heap.size):Ab (w.alloc o) b a=(Ab w b a).alloc o:=by
 simp only[Ab,World.alloc];congr 1;apply Array.ext_getElem?;intro i;simp only[Array.getElem?_setIfInBounds,Array.getElem?_push,Array.size_push,Array.size_setIfInBounds];by_cases c:b=i
 ·subst c;simp [h,Nat.ne_of_lt h,Nat.lt_succ_of_lt h]
 ·simp [c]
theorem Aa{w:World}{b:Nat}{o:Obj}(h:w.heap[b]?=some o):b<w.heap.size:=(Array.getElem?_eq_some_iff.1 h).1
@[go_sem] theorem cell?_at (w:World) (b o:Nat):w.cell? ⟨b,o,none⟩=As w.heap[b]? o:=by
 unfold World.cell? As;cases w.heap[b]? with
 | none=>rfl
 | some x=>cases x<;>rfl
def Ak(P:Program)(t:TypeId):Option Nat:=(P.info? t).map (·.size)
def Am(P:Program)(t:TypeId):Option Nat:=(P.info? t).map (·.bytes)
def AF(P:Program)(t:TypeId):Option Value:=(P.info? t).bind (·.zero)
def Al(P:Program)(t:TypeId):Option Bool:=(P.underlying t).map λ|.struct _=>true|.array _ _=>true|_=>false
def Ae(P:Program)(t:TypeId):Option Nat:=(P.underlying t).map λ|.slice _=>1|.array _ _=>2|.string=>3|.pointer _=>4|.map _ _=>5|.chan _ _=>6|.struct _=>7|.int _=>8|.bool=>9|.interface _=>10|.func _ _ _=>11|_=>0
def AA(P:Program)(t:TypeId):Option Nat:=(P.underlying t).bind λ|.slice e=>some e|.array _ e=>some e|.pointer e=>some e|.chan _ e=>some e|.map _ e=>some e|_=>none
def Cq(P:Program)(t:TypeId):Option Nat:=(P.underlying t).bind λ|.array n _=>some n|_=>none
def CP(P:Program)(t:TypeId):Option IntKind:=(P.underlying t).bind λ|.int k=>some k|_=>none
def Ai(P:Program)(t:TypeId)(i:Nat):Option (Nat × Nat):=(P.underlying t).bind λ|.struct a=>(a[i]?).bind λf=>(P.info? f.type).map λj=>(f.offset,j.size)|_=>none
def AO(P:Program)(t:TypeId):Option (List (Nat × Nat)):=(P.underlying t).bind λ|.struct a=>a.toList.mapM λf=>(P.info? f.type).map λj=>(f.offset,j.size)|_=>none
def HJ(P:Program)(t:TypeId)(i:Nat):Option TypeId:=(P.underlying t).bind λ|.struct a=>(a[i]?).map (·.type)|_=>none
def tfo(P:Program)(t:TypeId)(i:Nat):Option Nat:=(Ai P t i).bind λp=>if p.2=0 then none else some p.1
def AM(P:Program)(t:TypeId):Option Nat:=(P.underlying t).bind λ|.slice e=>Ak P e|_=>none
def Bk(P:Program)(t:TypeId):Option (Nat × Nat):=(P.underlying t).bind λ|.array n e=>(Ak P e).map λm=>(n,m)|_=>none
def AG(P:Program)(t:TypeId):Option Nat:=(Al P t).bind λb=>bif b then Ak P t else none
def nU(P:Program)(t:TypeId):Option Unit:=(P.underlying t).bind λ|.chan _ e=>(Am P e).bind λn=>if n≤1000000 then some () else none|_=>none
def Ja(P:Program)(s t:TypeId):Option IntKind:=(Ae P s).bind λ_=>CP P t
def OrK{α:Type}(x:Option α)(f:α→Prop)(d:Prop)(_:UK2 f d):Prop:=match x with|some a=>f a|none=>d
@[go_sem] theorem Dz{α:Type}(a:α)(f:α→Prop)(d:Prop):OrK (some a) f d ()=f a:=rfl
theorem AK{α:Type}{x:Option α}{f:α→Prop}{d:Prop}{X:Prop}(h:∀a,x=some a→X=f a)(b:d=X):X=OrK x f d ():=by
 cases x with
 | none=>exact b.symm
 | some a=>exact h a rfl
section
variable {P:Program}
theorem GR{t:TypeId}{b:Bool}(h:Al P t=some b)(w:World):(isAgg t).run P w=.ok b w:=by
 unfold Al at h;cases a:P.underlying t with
 | none=>rw[a] at h;simp at h
 | some d =>
  rw[a] at h;simp only[Option.map_some,Option.some.injEq] at h;unfold isAgg;simp only[Sem.run_bind,run_underlying a,Result.andThen_ok];cases d<;>simp at h ⊢<;>exact h
theorem Bw{t:TypeId}{n:Nat}(h:Ak P t=some n)(w:World):(Go.sizeOf t).run P w=.ok n w:=by
 unfold Ak at h;cases a:P.info? t with
 | none=>rw[a] at h;simp at h
 | some i=>rw[a] at h;simp at h;rw[run_sizeOf w a];simp [Program.cellsOf,a,h]
theorem Eo{t:TypeId}{z:Value}(h:AF P t=some z)(w:World):(zeroValue t).run P w=.ok z w:=by
 unfold AF at h;cases a:P.info? t with
 | none=>rw[a] at h;simp at h
 | some i =>
  rw[a] at h;simp at h;unfold zeroValue;simp only[Sem.run_bind,run_typeInfo w a,Result.andThen_ok,h];rfl
theorem Bc{op:Op}{ty:TypeId}{K:Value→World→Prop}{w w':World}{v:Value}(h:∀ρ,B5 ρ→(execOp ρ (Ap op ty)).run P w=.ok (.value v) w'):OpX P op ty K w=K v w':=by
 apply propext;constructor
 ·rintro⟨hx⟩;have:=hx (λ|.const v=>v|.global g=>.pointer (some ⟨g,0,none⟩)|.func f=>.func (.func f) #[] #[]|.tmp _=>undef) ⟨λ_=>rfl,λ_=>rfl,λ_=>rfl⟩;rw[h _ ⟨λ_=>rfl,λ_=>rfl,λ_=>rfl⟩] at this;exact this
 ·exact λhk=>⟨λρ hg=>by rw[h ρ hg];exact hk⟩
theorem NX{op:Op}{ty:TypeId}{K:Value→World→Prop}{w w':World}(h:∀ρ,B5 ρ→(execOp ρ (Ap op ty)).run P w=.ok .skip w'):OpX P op ty K w=K undef w':=by
 apply propext;constructor
 ·rintro⟨hx⟩;have:=hx (λ|.const v=>v|.global g=>.pointer (some ⟨g,0,none⟩)|.func f=>.func (.func f) #[] #[]|.tmp _=>undef) ⟨λ_=>rfl,λ_=>rfl,λ_=>rfl⟩;rw[h _ ⟨λ_=>rfl,λ_=>rfl,λ_=>rfl⟩] at this;exact this
 ·exact λhk=>⟨λρ hg=>by rw[h ρ hg];exact hk⟩
theorem bS{op:Op}{ty:TypeId}{K:Value→Prop}{v:Value}(h:∀ρ,B5 ρ→∀w,(execOp ρ (Ap op ty)).run P w=.ok (.value v) w):PurX P op ty K ()=K v:=by
 apply propext;constructor
 ·rintro⟨u,hu,hk⟩;have hg:B5 (λ|.const v=>v|.global g=>.pointer (some ⟨g,0,none⟩)|.func f=>.func (.func f) #[] #[]|.tmp _=>undef):=⟨λ_=>rfl,λ_=>rfl,λ_=>rfl⟩;have:=hu _ hg default;rw[h _ hg] at this;cases this;exact hk
 ·exact λhk=>⟨v,h,hk⟩
theorem KO{a:Op}{b:TypeId}{u v:Value}{w:World}(h:∀ρ,B5 ρ→(execOp ρ (Ap a b)).run P w=.ok (.value v) w):Yld P a b u w=(u=v):=by
 apply propext;constructor
 ·rintro⟨c⟩;have d:B5 (λ|.const v=>v|.global g=>.pointer (some ⟨g,0,none⟩)|.func f=>.func (.func f) #[] #[]|.tmp _=>undef):=⟨λ_=>rfl,λ_=>rfl,λ_=>rfl⟩;have:=c _ d;rw[h _ d] at this;cases this;rfl
 ·rintro rfl;exact⟨h⟩
theorem GN{op:Op}{ty:TypeId}{K:Value→Prop}{v:Value}{w:World}(h:∀ρ,B5 ρ→(execOp ρ (Ap op ty)).run P w=.ok (.value v) w):RdX P op ty K w=K v:=by
 apply propext;constructor
 ·rintro⟨u,hu,hk⟩;rw[KO h] at hu;subst hu;exact hk
 ·exact λhk=>⟨v,⟨h⟩,hk⟩
theorem ZB{op:BinOp}{t:TypeId}{a b v:Value}{K:Value→World→Prop}{w w':World}(h:∀x y,(Bi op t a b x y).run P w=.ok (.value v) w'):BinX P op t a b K w=K v w':=by
 apply propext;constructor
 ·rintro⟨hx⟩;have:=hx (.const undef) (.const undef);have e:=h (.const undef) (.const undef);unfold Bi at e;rw[e] at this;exact this
 ·exact λhk=>⟨λx y=>by have e:=h x y;unfold Bi at e;rw[e];exact hk⟩
theorem db{op:BinOp}{t:TypeId}{a b v:Value}{K:Value→Prop}(h:∀x y w,(Bi op t a b x y).run P w=.ok (.value v) w):PurB P op t a b K ()=K v:=by
 apply propext;constructor
 ·rintro⟨u,hu,hk⟩;have:=hu (.const undef) (.const undef) default;rw[h] at this;cases this;exact hk
 ·exact λhk=>⟨v,h,hk⟩
theorem X3{c:BinOp}{t:TypeId}{a b u v:Value}{w:World}(h:∀x y,(Bi c t a b x y).run P w=.ok (.value v) w):YldB P c t a b u w=(u=v):=by
 apply propext;constructor
 ·rintro⟨d⟩;have:=d (.const undef) (.const undef);rw[h] at this;cases this;rfl
 ·rintro rfl;exact⟨h⟩
theorem Yz{op:BinOp}{t:TypeId}{a b v:Value}{K:Value→Prop}{w:World}(h:∀x y,(Bi op t a b x y).run P w=.ok (.value v) w):RdB P op t a b K w=K v:=by
 apply propext;constructor
 ·rintro⟨u,hu,hk⟩;rw[X3 h] at hu;subst hu;exact hk
 ·exact λhk=>⟨v,⟨h⟩,hk⟩
@[go_sem] theorem qW(A B:Prop):BrW (.bool true) A B ()=A:=propext ⟨λ⟨_,a,b,_⟩=>by cases a;exact b rfl,λh=>⟨true,rfl,λ_=>h,(λh=>by cases h)⟩⟩
@[go_sem] theorem lq(A B:Prop):BrW (.bool false) A B ()=B:=propext ⟨λ⟨_,a,_,b⟩=>by cases a;exact b rfl,λh=>⟨false,rfl,(λh=>by cases h),λ_=>h⟩⟩
theorem BrW.by{b:Bool}{A B:Prop}(a:b=true→A)(c:b=false→B):BrW (.bool b) A B ():=⟨b,rfl,a,c⟩
theorem BrW.dec{p:Prop}[Decidable p]{A B:Prop}(a:p→A)(b:¬p→B):BrW (.bool (decide p)) A B ():=⟨decide p,rfl,λh=>a (of_decide_eq_true h),λh=>b (of_decide_eq_false h)⟩
theorem sd{p:Prop}[Decidable p]{A B:Prop}(a:p→A)(b:¬p→B):BrW (.bool (decide p)) A B ():=BrW.dec a b
theorem Join0.inl{M:(World→Prop)→World→Prop}{K:World→Prop}{w:World}(h:M K w):Join0 M K w:=⟨K,h,λ_ h=>h⟩
theorem Join0.cut{M:(World→Prop)→World→Prop}{K:World→Prop}{w:World}(R:World→Prop)(h:M R w)(a:∀w',R w'→K w'):Join0 M K w:=⟨R,h,a⟩
theorem si{M:(World→Prop)→World→Prop}{K:World→Prop}{w:World}(R:World→Prop)(h:M R w)(a:∀w',R w'→K w'):Join0 M K w:=Join0.cut R h a
theorem Join1.inl{M:(Value→World→Prop)→World→Prop}{K:Value→World→Prop}{w:World}(h:M K w):Join1 M K w:=⟨K,h,λ_ _ h=>h⟩
theorem Join1.cut{M:(Value→World→Prop)→World→Prop}{K:Value→World→Prop}{w:World}(R:Value→World→Prop)(h:M R w)(a:∀b w',R b w'→K b w'):Join1 M K w:=⟨R,h,a⟩
theorem sh{M:(Value→World→Prop)→World→Prop}{K:Value→World→Prop}{w:World}(R:Value→World→Prop)(h:M R w)(a:∀b w',R b w'→K b w'):Join1 M K w:=Join1.cut R h a
theorem Join2.cut{M:(Value→Value→World→Prop)→World→Prop}{K:Value→Value→World→Prop}{w:World}(R:Value→Value→World→Prop)(h:M R w)(a:∀b c w',R b c w'→K b c w'):Join2 M K w:=⟨R,h,a⟩
theorem Join3.cut{M:(Value→Value→Value→World→Prop)→World→Prop}{K:Value→Value→Value→World→Prop}{w:World}(R:Value→Value→Value→World→Prop)(h:M R w)(a:∀b c d w',R b c d w'→K b c d w'):Join3 M K w:=⟨R,h,a⟩
end
section
variable {P:Program}
structure PureRun (P:Program) (op:Op) (ty:TypeId) (v:Value):Prop where
 run:∀ρ,B5 ρ→∀w,(execOp ρ (Ap op ty)).run P w=.ok (.value v) w
theorem PureRun.op{a:Op}{b:TypeId}{v:Value}(h:PureRun P a b v)(K:rD)(w:World):OpX P a b K w=K v w:=Bc λρ c=>h.run ρ c w
theorem PureRun.pur{a:Op}{b:TypeId}{v:Value}(h:PureRun P a b v)(K:Value→Prop):PurX P a b K ()=K v:=bS h.run
theorem PureRun.rd{a:Op}{b:TypeId}{v:Value}(h:PureRun P a b v)(K:Value→Prop)(w:World):RdX P a b K w=K v:=GN λρ c=>h.run ρ c w
structure PureBin (P:Program) (op:BinOp) (t:TypeId) (a b v:Value):Prop where
 run:∀x y w,(Bi op t a b x y).run P w=.ok (.value v) w
theorem PureBin.op{c:BinOp}{t:TypeId}{a b v:Value}(h:PureBin P c t a b v)(K:rD)(w:World):BinX P c t a b K w=K v w:=ZB λx y=>h.run x y w
theorem PureBin.pur{c:BinOp}{t:TypeId}{a b v:Value}(h:PureBin P c t a b v)(K:Value→Prop):PurB P c t a b K ()=K v:=db h.run
theorem PureBin.rd{c:BinOp}{t:TypeId}{a b v:Value}(h:PureBin P c t a b v)(K:Value→Prop)(w:World):RdB P c t a b K w=K v:=Yz λx y=>h.run x y w
theorem Hg(c:BinOp)(t:TypeId)(k k':IntKind)(a b:Int)(x y:Operand):Bi c t (.int k a) (.int k' b) x y=(do return Next.value (←binOp c t (.int k a) (.int k' b))):=by
 cases c<;>rfl
theorem B7(c:BinOp)(t:TypeId)(k:IntKind)(a b n:Int)(h:binOp c t (.int k a) (.int k b)=pure (.int k n)):PureBin P c t (.int k a) (.int k b) (.int k n):=
 ⟨λx y w=>by rw[Hg,h];rfl⟩
theorem CH(d:BinOp)(t:TypeId)(k:IntKind)(a b:Int)(c:Bool)(h:binOp d t (.int k a) (.int k b)=pure (.bool c)):PureBin P d t (.int k a) (.int k b) (.bool c):=
 ⟨λx y w=>by rw[Hg,h];rfl⟩
theorem SF(t:TypeId)(k:IntKind)(a b:Int):binOp .add t (.int k a) (.int k b)=pure (.int k (k.wrap (a+b))):=by simp [binOp,Op.intArith]
theorem O3(t:TypeId)(k:IntKind)(a b:Int):binOp .sub t (.int k a) (.int k b)=pure (.int k (k.wrap (a-b))):=by simp [binOp,Op.intArith]
theorem Od(t:TypeId)(k:IntKind)(a b:Int):binOp .mul t (.int k a) (.int k b)=pure (.int k (k.wrap (a*b))):=by simp [binOp,Op.intArith]
theorem P3(t:TypeId)(k:IntKind)(a b:Int)(h:b≠0):binOp .quo t (.int k a) (.int k b)=pure (.int k (k.wrap (a.tdiv b))):=by simp [binOp,Op.intDiv,h]
theorem KX(t:TypeId)(k:IntKind)(a b:Int)(h:b≠0):binOp .rem t (.int k a) (.int k b)=pure (.int k (a.tmod b)):=by simp [binOp,Op.intDiv,h]
def Ba(c:BinOp)(k:IntKind)(a b:Int):Int:=
 k.wrap (match c with|.and=>(BitVec.ofInt k.bits a &&& BitVec.ofInt k.bits b).toNat|.or=>(BitVec.ofInt k.bits a ||| BitVec.ofInt k.bits b).toNat|.xor=>(BitVec.ofInt k.bits a ^^^ BitVec.ofInt k.bits b).toNat|_=>(BitVec.ofInt k.bits a &&& ~~~BitVec.ofInt k.bits b).toNat)
theorem KZ(t:TypeId)(k:IntKind)(a b:Int):binOp .and t (.int k a) (.int k b)=pure (.int k (Ba .and k a b)):=by simp [binOp,Op.intBits,Ba]
theorem QH(t:TypeId)(k:IntKind)(a b:Int):binOp .or t (.int k a) (.int k b)=pure (.int k (Ba .or k a b)):=by simp [binOp,Op.intBits,Ba]
theorem L9(t:TypeId)(k:IntKind)(a b:Int):binOp .andNot t (.int k a) (.int k b)=pure (.int k (Ba .andNot k a b)):=by simp [binOp,Op.intBits,Ba]
theorem Zu(t:TypeId)(k k':IntKind)(a b:Int)(h:0≤b):binOp .shl t (.int k a) (.int k' b)=pure (.int k (k.wrap (a*2 ^ (min b.toNat k.bits)))):=by
 have:¬b<0:=O;simp [binOp,Op.shift,this]
theorem TT(t:TypeId)(k k':IntKind)(a b:Int)(h:0≤b):binOp .shr t (.int k a) (.int k' b)=pure (.int k (a.fdiv (2 ^ (min b.toNat k.bits)))):=by
 have:¬b<0:=O;simp [binOp,Op.shift,this]
theorem OM(t:TypeId)(k:IntKind)(a b:Int):binOp .lss t (.int k a) (.int k b)=pure (.bool (decide (a<b))):=by simp [binOp,Op.intCmp]
theorem Na(t:TypeId)(k:IntKind)(a b:Int):binOp .leq t (.int k a) (.int k b)=pure (.bool (decide (a≤b))):=by simp [binOp,Op.intCmp]
theorem Tv(t:TypeId)(k:IntKind)(a b:Int):binOp .gtr t (.int k a) (.int k b)=pure (.bool (decide (b<a))):=by simp [binOp,Op.intCmp]
theorem Q0(t:TypeId)(k:IntKind)(a b:Int):binOp .geq t (.int k a) (.int k b)=pure (.bool (decide (b≤a))):=by simp [binOp,Op.intCmp]
theorem QT(t:TypeId)(k:IntKind)(a b:Int):binOp .eql t (.int k a) (.int k b)=pure (.bool (decide (a=b))):=by simp [binOp,Op.intCmp];rfl
theorem QS(t:TypeId)(k:IntKind)(a b:Int):binOp .neq t (.int k a) (.int k b)=pure (.bool (decide (a≠b))):=by simp [binOp,Op.intCmp];rfl
@[go_sem] theorem pf(t:TypeId)(k:IntKind)(a b:Int)(K:rD)(w:World):BinX P .add t (.int k a) (.int k b) K w=K (.int k (k.wrap (a+b))) w:=(B7 _ t k a b _ (SF t k a b)).op K w
@[go_sem] theorem qk(t:TypeId)(k:IntKind)(a b:Int)(K:Value→Prop):PurB P .add t (.int k a) (.int k b) K ()=K (.int k (k.wrap (a+b))):=(B7 _ t k a b _ (SF t k a b)).pur K
@[go_sem] theorem qV(t:TypeId)(k:IntKind)(a b:Int)(K:rD)(w:World):BinX P .sub t (.int k a) (.int k b) K w=K (.int k (k.wrap (a-b))) w:=(B7 _ t k a b _ (O3 t k a b)).op K w
@[go_sem] theorem me(t:TypeId)(k:IntKind)(a b:Int)(K:Value→Prop):PurB P .sub t (.int k a) (.int k b) K ()=K (.int k (k.wrap (a-b))):=(B7 _ t k a b _ (O3 t k a b)).pur K
@[go_sem] theorem qO(t:TypeId)(k:IntKind)(a b:Int)(K:rD)(w:World):BinX P .mul t (.int k a) (.int k b) K w=K (.int k (k.wrap (a*b))) w:=(B7 _ t k a b _ (Od t k a b)).op K w
@[go_sem] theorem oG(t:TypeId)(k:IntKind)(a b:Int)(K:Value→Prop):PurB P .mul t (.int k a) (.int k b) K ()=K (.int k (k.wrap (a*b))):=(B7 _ t k a b _ (Od t k a b)).pur K
@[go_sem] theorem mP(t:TypeId)(k:IntKind)(a b:Int)(K:rD)(w:World):BinX P .and t (.int k a) (.int k b) K w=K (.int k (Ba .and k a b)) w:=(B7 _ t k a b _ (KZ t k a b)).op K w
@[go_sem] theorem nM(t:TypeId)(k:IntKind)(a b:Int)(K:Value→Prop):PurB P .and t (.int k a) (.int k b) K ()=K (.int k (Ba .and k a b)):=(B7 _ t k a b _ (KZ t k a b)).pur K
@[go_sem] theorem mU(t:TypeId)(k:IntKind)(a b:Int)(K:rD)(w:World):BinX P .or t (.int k a) (.int k b) K w=K (.int k (Ba .or k a b)) w:=(B7 _ t k a b _ (QH t k a b)).op K w
@[go_sem] theorem nT(t:TypeId)(k:IntKind)(a b:Int)(K:Value→Prop):PurB P .or t (.int k a) (.int k b) K ()=K (.int k (Ba .or k a b)):=(B7 _ t k a b _ (QH t k a b)).pur K
@[go_sem] theorem mh(t:TypeId)(k:IntKind)(a b:Int)(K:rD)(w:World):BinX P .andNot t (.int k a) (.int k b) K w=K (.int k (Ba .andNot k a b)) w:=(B7 _ t k a b _ (L9 t k a b)).op K w
@[go_sem] theorem oe(t:TypeId)(k:IntKind)(a b:Int)(K:Value→Prop):PurB P .andNot t (.int k a) (.int k b) K ()=K (.int k (Ba .andNot k a b)):=(B7 _ t k a b _ (L9 t k a b)).pur K
@[go_sem] theorem lu(t:TypeId)(k:IntKind)(a b:Int)(K:rD)(w:World)(h:b≠0):BinX P .quo t (.int k a) (.int k b) K w=K (.int k (k.wrap (a.tdiv b))) w:=(B7 _ t k a b _ (P3 t k a b h)).op K w
@[go_sem] theorem nc(t:TypeId)(k:IntKind)(a b:Int)(K:Value→Prop)(h:b≠0):PurB P .quo t (.int k a) (.int k b) K ()=K (.int k (k.wrap (a.tdiv b))):=(B7 _ t k a b _ (P3 t k a b h)).pur K
@[go_sem] theorem kH(t:TypeId)(k:IntKind)(a b:Int)(K:rD)(w:World)(h:b≠0):BinX P .rem t (.int k a) (.int k b) K w=K (.int k (a.tmod b)) w:=(B7 _ t k a b _ (KX t k a b h)).op K w
@[go_sem] theorem qN(t:TypeId)(k:IntKind)(a b:Int)(K:Value→Prop)(h:b≠0):PurB P .rem t (.int k a) (.int k b) K ()=K (.int k (a.tmod b)):=(B7 _ t k a b _ (KX t k a b h)).pur K
theorem cF(t:TypeId)(k k':IntKind)(a b:Int)(h:0≤b):PureBin P .shl t (.int k a) (.int k' b) (.int k (k.wrap (a*2 ^ (min b.toNat k.bits)))):=⟨λx y w=>by rw[Hg,Zu t k k' a b h];rfl⟩
@[go_sem] theorem qo(t:TypeId)(k k':IntKind)(a b:Int)(K:rD)(w:World)(h:0≤b):BinX P .shl t (.int k a) (.int k' b) K w=K (.int k (k.wrap (a*2 ^ (min b.toNat k.bits)))) w:=(cF t k k' a b h).op K w
theorem ki(t:TypeId)(k k':IntKind)(a b:Int)(h:0≤b):PureBin P .shr t (.int k a) (.int k' b) (.int k (a.fdiv (2 ^ (min b.toNat k.bits)))):=⟨λx y w=>by rw[Hg,TT t k k' a b h];rfl⟩
@[go_sem] theorem lz(t:TypeId)(k k':IntKind)(a b:Int)(K:rD)(w:World)(h:0≤b):BinX P .shr t (.int k a) (.int k' b) K w=K (.int k (a.fdiv (2 ^ (min b.toNat k.bits)))) w:=(ki t k k' a b h).op K w
@[go_sem] theorem mu(t:TypeId)(k:IntKind)(a b:Int)(K:rD)(w:World):BinX P .lss t (.int k a) (.int k b) K w=K (.bool (decide (a<b))) w:=(CH _ t k a b _ (OM t k a b)).op K w
@[go_sem] theorem kJ(t:TypeId)(k:IntKind)(a b:Int)(K:Value→Prop):PurB P .lss t (.int k a) (.int k b) K ()=K (.bool (decide (a<b))):=(CH _ t k a b _ (OM t k a b)).pur K
@[go_sem] theorem my(t:TypeId)(k:IntKind)(a b:Int)(K:rD)(w:World):BinX P .leq t (.int k a) (.int k b) K w=K (.bool (decide (a≤b))) w:=(CH _ t k a b _ (Na t k a b)).op K w
@[go_sem] theorem oH(t:TypeId)(k:IntKind)(a b:Int)(K:Value→Prop):PurB P .leq t (.int k a) (.int k b) K ()=K (.bool (decide (a≤b))):=(CH _ t k a b _ (Na t k a b)).pur K
@[go_sem] theorem pN(t:TypeId)(k:IntKind)(a b:Int)(K:rD)(w:World):BinX P .gtr t (.int k a) (.int k b) K w=K (.bool (decide (b<a))) w:=(CH _ t k a b _ (Tv t k a b)).op K w
@[go_sem] theorem pU(t:TypeId)(k:IntKind)(a b:Int)(K:Value→Prop):PurB P .gtr t (.int k a) (.int k b) K ()=K (.bool (decide (b<a))):=(CH _ t k a b _ (Tv t k a b)).pur K
@[go_sem] theorem pA(t:TypeId)(k:IntKind)(a b:Int)(K:rD)(w:World):BinX P .geq t (.int k a) (.int k b) K w=K (.bool (decide (b≤a))) w:=(CH _ t k a b _ (Q0 t k a b)).op K w
@[go_sem] theorem lv(t:TypeId)(k:IntKind)(a b:Int)(K:Value→Prop):PurB P .geq t (.int k a) (.int k b) K ()=K (.bool (decide (b≤a))):=(CH _ t k a b _ (Q0 t k a b)).pur K
@[go_sem] theorem nK(t:TypeId)(k:IntKind)(a b:Int)(K:rD)(w:World):BinX P .eql t (.int k a) (.int k b) K w=K (.bool (decide (a=b))) w:=(CH _ t k a b _ (QT t k a b)).op K w
@[go_sem] theorem nX(t:TypeId)(k:IntKind)(a b:Int)(K:Value→Prop)(w:World):RdB P .eql t (.int k a) (.int k b) K w=K (.bool (decide (a=b))):=(CH _ t k a b _ (QT t k a b)).rd K w
@[go_sem] theorem nL(t:TypeId)(k:IntKind)(a b:Int)(K:rD)(w:World):BinX P .neq t (.int k a) (.int k b) K w=K (.bool (decide (a≠b))) w:=(CH _ t k a b _ (QS t k a b)).op K w
@[go_sem] theorem mB(t:TypeId)(k:IntKind)(a b:Int)(K:Value→Prop)(w:World):RdB P .neq t (.int k a) (.int k b) K w=K (.bool (decide (a≠b))):=(CH _ t k a b _ (QS t k a b)).rd K w
@[go_sem] theorem F3(n:Int)(a:-9223372036854775808≤n)(b:n≤9223372036854775807):IntKind.i64.wrap n=n:=by
 simp only[IntKind.wrap,IntKind.bits,IntKind.signed,Bool.true_and,Bool.false_and,decide_eq_true_eq,ge_iff_le,Bool.false_eq_true,if_false];first|(split<;>omega)|omega
@[go_sem] theorem H4(n:Int)(a:-2147483648≤n)(b:n≤2147483647):IntKind.i32.wrap n=n:=by
 simp only[IntKind.wrap,IntKind.bits,IntKind.signed,Bool.true_and,Bool.false_and,decide_eq_true_eq,ge_iff_le,Bool.false_eq_true,if_false];first|(split<;>omega)|omega
@[go_sem] theorem Eu(n:Int)(a:0≤n)(b:n≤255):IntKind.u8.wrap n=n:=by
 simp only[IntKind.wrap,IntKind.bits,IntKind.signed,Bool.true_and,Bool.false_and,decide_eq_true_eq,ge_iff_le,Bool.false_eq_true,if_false];first|(split<;>omega)|omega
@[go_sem] theorem Jg(n:Int)(a:0≤n)(b:n≤18446744073709551615):IntKind.u64.wrap n=n:=by
 simp only[IntKind.wrap,IntKind.bits,IntKind.signed,Bool.true_and,Bool.false_and,decide_eq_true_eq,ge_iff_le,Bool.false_eq_true,if_false];first|(split<;>omega)|omega
theorem R5{t:TypeId}(h:Ae P t=some 4):∃e,P.underlying t=some (.pointer e):=by
 unfold Ae at h;cases a:P.underlying t with
 | none=>rw[a] at h;simp at h
 | some d=>rw[a] at h;cases d<;>simp at h;exact⟨_,rfl⟩
theorem I6{t:TypeId}(h:Ae P t=some 1):∃e,P.underlying t=some (.slice e):=by
 unfold Ae at h;cases a:P.underlying t with
 | none=>rw[a] at h;simp at h
 | some d=>rw[a] at h;cases d<;>simp at h;exact⟨_,rfl⟩
theorem jt{t:TypeId}(h:Ae P t=some 5):∃k e,P.underlying t=some (.map k e):=by
 unfold Ae at h;cases a:P.underlying t with
 | none=>rw[a] at h;simp at h
 | some d=>rw[a] at h;cases d<;>simp at h;exact⟨_,_,rfl⟩
theorem FR{t:TypeId}(h:Ae P t=some 3):P.underlying t=some .string:=by
 unfold Ae at h;cases a:P.underlying t with
 | none=>rw[a] at h;simp at h
 | some d=>rw[a] at h;cases d<;>simp at h;rfl
theorem QX{t:TypeId}(h:Ae P t=some 9):P.underlying t=some .bool:=by
 unfold Ae at h;cases a:P.underlying t with
 | none=>rw[a] at h;simp at h
 | some d=>rw[a] at h;cases d<;>simp at h;rfl
theorem JK{t:TypeId}{a b:Value}{c:Bool}(d:∀x y,eqGuard .eql t x y a b=pure ())(e:binOp .eql t a b=(do pure (.bool (←Op.equal t a b))))(h:∀w,(Op.equal t a b).run P w=.ok c w):PureBin P .eql t a b (.bool c):=
 ⟨λx y w=>by unfold Bi;rw[d,e];simp [h]⟩
theorem Td{t:TypeId}{a b:Value}{c:Bool}(d:∀x y,eqGuard .neq t x y a b=pure ())(e:binOp .neq t a b=(do pure (.bool (!(←Op.equal t a b)))))(h:∀w,(Op.equal t a b).run P w=.ok c w):PureBin P .neq t a b (.bool (!c)):=
 ⟨λx y w=>by unfold Bi;rw[d,e];simp [h]⟩
theorem KB{t:TypeId}(h:Ae P t=some 4)(p:Option Addr)(w:World):(Op.equal t (.pointer p) (.pointer none)).run P w=.ok p.isNone w:=by
 obtain⟨e,a⟩:=R5 h;unfold Op.equal Op.maxDepth Op.equalIn;cases p<;>simp [run_underlying a]
theorem iw{t:TypeId}(h:Ae P t=some 1)(p:Option Addr)(n c a c':Nat)(w:World):(Op.equal t (.slice p n c) (.slice none a c')).run P w=.ok p.isNone w:=by
 obtain⟨e,b⟩:=I6 h;unfold Op.equal Op.maxDepth Op.equalIn;cases p<;>simp [run_underlying b]
theorem iT{t:TypeId}(h:Ae P t=some 9)(a b:Bool)(w:World):(Op.equal t (.bool a) (.bool b)).run P w=.ok (a == b) w:=by
 unfold Op.equal Op.maxDepth Op.equalIn;simp [run_underlying (QX h)]
@[go_sem] theorem ri(t:TypeId)(p:Option Addr)(K:rD)(w:World)(h:Ae P t=some 4):BinX P .eql t (.pointer p) (.pointer none) K w=K (.bool p.isNone) w:=(JK (λ_ _=>rfl) rfl (λw=>KB h p w)).op K w
@[go_sem] theorem qm(t:TypeId)(p:Option Addr)(K:rD)(w:World)(h:Ae P t=some 4):BinX P .neq t (.pointer p) (.pointer none) K w=K (.bool (!p.isNone)) w:=(Td (λ_ _=>rfl) rfl (λw=>KB h p w)).op K w
@[go_sem] theorem mH(t:TypeId)(p:Option Addr)(K:Value→Prop)(w:World)(h:Ae P t=some 4):RdB P .eql t (.pointer p) (.pointer none) K w=K (.bool p.isNone):=(JK (λ_ _=>rfl) rfl (λw=>KB h p w)).rd K w
@[go_sem] theorem pO(t:TypeId)(p:Option Addr)(n c a c':Nat)(K:rD)(w:World)(h:Ae P t=some 1):BinX P .eql t (.slice p n c) (.slice none a c') K w=K (.bool p.isNone) w:=(JK (λ_ _=>rfl) rfl (λw=>iw h p n c a c' w)).op K w
@[go_sem] theorem mx(t:TypeId)(a b:Bool)(K:rD)(w:World)(h:Ae P t=some 9):BinX P .neq t (.bool a) (.bool b) K w=K (.bool (!(a == b))) w:=(Td (λ_ _=>rfl) rfl (λw=>iT h a b w)).op K w
theorem ei(t:TypeId)(a b:ByteArray):PureBin P .eql t (.string a) (.string b) (.bool (a.toList == b.toList)):=⟨λx y w=>by simp [Bi,eqGuard,binOp,Op.stringOp]⟩
theorem Vg(t:TypeId)(a b:ByteArray):PureBin P .neq t (.string a) (.string b) (.bool (!(a.toList == b.toList))):=⟨λx y w=>by simp [Bi,eqGuard,binOp,Op.stringOp]⟩
@[go_sem] theorem lV(t:TypeId)(a b:ByteArray)(K:rD)(w:World):BinX P .eql t (.string a) (.string b) K w=K (.bool (a.toList == b.toList)) w:=(ei t a b).op K w
@[go_sem] theorem lF(t:TypeId)(a b:ByteArray)(K:rD)(w:World):BinX P .neq t (.string a) (.string b) K w=K (.bool (!(a.toList == b.toList))) w:=(Vg t a b).op K w
end
section
variable {P:Program}
@[go_sem] theorem CF(b o n:Nat):(⟨b,o,none⟩:Addr).add n=⟨b,o+n,none⟩:=by
 unfold Addr.add;by_cases h:n=0
 ·subst h;simp
 ·simp [h]
def LdX(P:Program)(t b:TypeId)(a:Addr)(o:Option Value)(K:rD)(w:WK K):Prop:=
 match o with|some v=>K v w|none=>OpX P (.load t (.const (.pointer (some a)))) b K w
@[go_sem] theorem cI(t b:TypeId)(a:Addr)(v:Value)(K:rD)(w:World):LdX P t b a (some v) K w=K v w:=rfl
theorem Hv{t:TypeId}(a:Al P t=some false){b o:Nat}{v:Value}{w:World}(h:As w.heap[b]? o=some v):(loadVar t ⟨b,o,none⟩).run P w=.ok v w:=by
 rw[←cell?_at] at h;unfold loadVar;simp [GR a,h]
theorem Hd{t:TypeId}(a:Al P t=some true){n:Nat}(d:Ak P t=some n){b o:Nat}{c:Array Value}{w:World}(h:AT w.heap[b]? o n=some c):(loadVar t ⟨b,o,none⟩).run P w=.ok (.agg c) w:=by
 unfold loadVar;have f:c.toList.length=n∧∀j v,c.toList[j]?=some v→w.cell? ((⟨b,o,none⟩:Addr).add j)=some v:=by
  unfold AT at h;split at h
  ·rename_i x g e i k;split at h
   ·rename_i l;cases h;refine⟨by simp;omega,λj v m=>?_⟩;rw[CF,cell?_at,k,Cp];have p:j<n:=by
     have:=(rO.1 m).1;simp at this;omega
    have:=m;simp only[Array.getElem?_toList] at this;rw[Array.getElem?_extract_of_lt O] at this;rw[←this];have q:o+j<g.size:=O;simp [q]
   ·simp at h
  ·simp at h
 obtain⟨r,f⟩:=f;have:=run_loadCells_list (P:=P) w ⟨b,o,none⟩ c.toList f;rw[r] at this;simp [GR a,Bw d,this]
theorem Fz(ρ:Operand→Value)(t b:TypeId)(x:Operand)(a:Addr)(v:Value)(w:World)(c:ρ x=.pointer (some a))(h:(loadVar t a).run P w=.ok v w):
  (execOp ρ (Ap (.load t x) b)).run P w=.ok (.value v) w:=by
 simp [execOp,Ap,c,Instr.loadAt,Instr.sureAddr,h]
@[go_sem] theorem ng(t a:TypeId)(b o:Nat)(K:rD)(w:World)(c:Al P t=some false):
  OpX P (.load t (.const (.pointer (some ⟨b,o,none⟩)))) a K w=LdX P t a ⟨b,o,none⟩ (As w.heap[b]? o) K w:=by
 cases h:As w.heap[b]? o with
 | none=>rfl
 | some v=>rw[cI];exact Bc λρ d=>Fz ρ t a _ _ v w (d.1 _) (Hv c h)
theorem DT{t:TypeId}{n:Nat}(h:AG P t=some n):Al P t=some true∧Ak P t=some n:=by
 unfold AG at h;cases a:Al P t with
 | none=>rw[a] at h;simp at h
 | some b=>rw[a] at h;cases b<;>simp at h;exact⟨rfl,h⟩
@[go_sem] theorem jw(t a:TypeId)(b o:Nat)(K:rD)(w:World)(d:Al P t=some true):
  OpX P (.load t (.const (.pointer (some ⟨b,o,none⟩)))) a K w=OrK ((AG P t).bind (AT w.heap[b]? o)) (λc=>K (.agg c) w) (OpX P (.load t (.const (.pointer (some ⟨b,o,none⟩)))) a K w) ():=by
 refine AK (λc h=>?_) rfl;obtain⟨n,e,h⟩:=rP.1 h;exact Bc λρ f=>Fz ρ t a _ _ _ w (f.1 _) (Hd (DT e).1 (DT e).2 h)
def LdQ(P:Program)(t b:TypeId)(a:Addr)(o:Option Value)(K:Value→Prop)(w:WK K):Prop:=
 match o with|some v=>K v|none=>RdX P (.load t (.const (.pointer (some a)))) b K w
@[go_sem] theorem WC(t b:TypeId)(a:Addr)(v:Value)(K:Value→Prop)(w:World):LdQ P t b a (some v) K w=K v:=rfl
@[go_sem] theorem kK(t a:TypeId)(b o:Nat)(K:Value→Prop)(w:World)(c:Al P t=some false):
  RdX P (.load t (.const (.pointer (some ⟨b,o,none⟩)))) a K w=LdQ P t a ⟨b,o,none⟩ (As w.heap[b]? o) K w:=by
 cases h:As w.heap[b]? o with
 | none=>rfl
 | some v=>rw[WC];exact GN λρ d=>Fz ρ t a _ _ v w (d.1 _) (Hv c h)
@[go_sem] theorem qv(t a:TypeId)(b o:Nat)(K:Value→Prop)(w:World)(d:Al P t=some true):
  RdX P (.load t (.const (.pointer (some ⟨b,o,none⟩)))) a K w=OrK ((AG P t).bind (AT w.heap[b]? o)) (λc=>K (.agg c)) (RdX P (.load t (.const (.pointer (some ⟨b,o,none⟩)))) a K w) ():=by
 refine AK (λc h=>?_) rfl;obtain⟨n,e,h⟩:=rP.1 h;exact GN λρ f=>Fz ρ t a _ _ _ w (f.1 _) (Hd (DT e).1 (DT e).2 h)
def YdX(P:Program)(t b:TypeId)(a:Addr)(o:Option Value)(u:Value)(w:World):Prop:=
 match o with|some v=>u=v|none=>Yld P (.load t (.const (.pointer (some a)))) b u w
@[go_sem] theorem cu(t b:TypeId)(a:Addr)(v u:Value)(w:World):YdX P t b a (some v) u w=(u=v):=rfl
@[go_sem] theorem pF(t a:TypeId)(b o:Nat)(u:Value)(w:World)(c:Al P t=some false):
  Yld P (.load t (.const (.pointer (some ⟨b,o,none⟩)))) a u w=YdX P t a ⟨b,o,none⟩ (As w.heap[b]? o) u w:=by
 cases h:As w.heap[b]? o with
 | none=>rfl
 | some v=>rw[cu];exact KO λρ d=>Fz ρ t a _ _ v w (d.1 _) (Hv c h)
@[go_sem] theorem qw(t a:TypeId)(b o:Nat)(u:Value)(w:World)(d:Al P t=some true):
  Yld P (.load t (.const (.pointer (some ⟨b,o,none⟩)))) a u w=OrK ((AG P t).bind (AT w.heap[b]? o)) (λc=>u=.agg c) (Yld P (.load t (.const (.pointer (some ⟨b,o,none⟩)))) a u w) ():=by
 refine AK (λc h=>?_) rfl;obtain⟨n,e,h⟩:=rP.1 h;exact KO λρ f=>Fz ρ t a _ _ _ w (f.1 _) (Hd (DT e).1 (DT e).2 h)
theorem iM(t:TypeId)(b o:Nat)(K:rD)(w:World)(ht:Al P t=some false)(v:Value)(h:As w.heap[b]? o=some v):LdR P t (.pointer (some ⟨b,o,none⟩)) K w=K v w:=by
 have hr:=Hv ht h;apply propext;constructor
 ·rintro⟨a,x,ha,hx,hk⟩;cases ha;rw[hr] at hx;cases hx;exact hk
 ·exact λhk=>⟨_,v,rfl,hr,hk⟩
def RsX(P:Program)(t:TypeId)(a:Addr)(o:Option Value)(K:rD)(w:WK K):Prop:=
 match o with|some v=>K v w|none=>LdR P t (.pointer (some a)) K w
@[go_sem] theorem jm(t:TypeId)(a:Addr)(v:Value)(K:rD)(w:World):RsX P t a (some v) K w=K v w:=rfl
@[go_sem] theorem lr(t:TypeId)(b o:Nat)(K:rD)(w:World)(a:Al P t=some false):LdR P t (.pointer (some ⟨b,o,none⟩)) K w=RsX P t ⟨b,o,none⟩ (As w.heap[b]? o) K w:=by
 cases h:As w.heap[b]? o with
 | none=>rfl
 | some v=>rw[jm,iM t b o K w a v h]
@[go_sem] theorem Lf(t:TypeId)(b o:Nat)(K:rD)(w:World)(_ht:Al P t=some true):
  LdR P t (.pointer (some ⟨b,o,none⟩)) K w=OrK ((AG P t).bind (AT w.heap[b]? o)) (λc=>K (.agg c) w) (LdR P t (.pointer (some ⟨b,o,none⟩)) K w) ():=by
 refine AK (λc h=>?_) rfl;obtain⟨n,hn,h⟩:=rP.1 h;have hr:=Hd (DT hn).1 (DT hn).2 h;apply propext;constructor
 ·rintro⟨a,x,ha,hx,hk⟩;cases ha;rw[hr] at hx;cases hx;exact hk
 ·exact λhk=>⟨_,_,rfl,hr,hk⟩
def AV(vs:List Value):Bool:=vs.all Value.oneCell'
def StX(P:Program)(t a:TypeId)(b o:Nat)(v:Value)(x:Option Obj)(K:rD)(w:WK K):Prop:=
 match x with|some c=>K undef (Ab w b c)|none=>OpX P (.store t (.const (.pointer (some ⟨b,o,none⟩))) (.const v)) a K w
@[go_sem] theorem D6(t a:TypeId)(b o:Nat)(v:Value)(x:Obj)(K:rD)(w:World):StX P t a b o v (some x) K w=K undef (Ab w b x):=rfl
theorem Yb{w:World}{b:Nat}{c c':Array Value}{e:TypeId}(h:w.heap[b]?=some (.cells c e (0,0))):w.setRow b c'=Ab w b (.cells c' e):=by
 unfold World.setRow Ab;congr 1;apply Array.ext_getElem?;intro i;simp only[Array.getElem?_modify,Array.getElem?_setIfInBounds];by_cases a:b=i
 ·subst a;rw[h];simp [Aa h]
 ·simp [a]
theorem Ik{b o:Nat}{vs:List Value}{x':Obj}{w:World}(h:Ao w.heap[b]? o vs=some x')(a:AV vs=true):(storeCells ⟨b,o,none⟩ vs).run P w=.ok () (Ab w b x'):=by
 unfold Ao at h;split at h
 ·rename_i c e d;split at h
  ·rename_i f;cases h;have:=run_storeCells_at P b o e vs 0 c w d O (by simpa [AV] using a);rw[this];simp only[Nat.add_zero];rw[Yb d];rfl
  ·simp at h
 ·simp at h
@[go_sem] theorem D5(t a:TypeId)(b o:Nat)(v:Value)(K:rD)(w:World)(c:Ak P t=some v.cells.size)(d:AV v.cells.toList=true):
  OpX P (.store t (.const (.pointer (some ⟨b,o,none⟩))) (.const v)) a K w=StX P t a b o v (Ao w.heap[b]? o v.cells.toList) K w:=by
 cases h:Ao w.heap[b]? o v.cells.toList with
 | none=>rfl
 | some e =>
  rw[D6];refine NX λρ f=>?_;simp [execOp,Ap,f.1,Instr.storeAt,Instr.sureAddr,storeVar,Bw c,Ik h d]
@[go_sem] theorem RX(t a:TypeId)(v:Value)(K:rD)(w:World):OpX P (.box t (.const v)) a K w=K (.pointer (some ⟨w.heap.size,0,none⟩)) (w.alloc (.cells v.cells t)):=
 Bc λρ b=>by simp [execOp,Ap,b.1,Instr.box,newVar,newRow]
@[go_sem] theorem IF(t a:TypeId)(K:rD)(w:World):
  OpX P (.alloc t) a K w=OrK (AF P t) (λz=>K (.pointer (some ⟨w.heap.size,0,none⟩)) (w.alloc (.cells z.cells t))) (OpX P (.alloc t) a K w) ():=by
 refine AK (λz h=>?_) rfl;exact Bc λρ b=>by simp [execOp,Ap,Instr.alloc,newVar,newRow,Eo h]
def CT(a:List (Nat × Nat))(c:Array Value):List (Nat × Value)→Option (Array Value)
 | []=>some c
 | (i,v)::r=>match a[i]? with
  | none=>none
  | some (off,n)=>if v.cells.size=n∧off+n≤c.size then CT a (spl c off v.cells.toList) r else none
@[go_sem] theorem qu(a:List (Nat × Nat))(c:Array Value):CT a c []=some c:=rfl
@[go_sem] theorem UP(a:List (Nat × Nat))(c:Array Value)(i:Nat)(v:Value)(r:List (Nat × Value)):
  CT a c ((i,v)::r)=match a[i]? with|none=>none|some (off,n)=>if v.cells.size=n∧off+n≤c.size then CT a (spl c off v.cells.toList) r else none:=rfl
theorem O9:∀(l:List Value) (off k:Nat) (c:Array Value),off+k+l.length≤c.size→(l.zipIdx k).foldl (λcs (p:Value × Nat)=>cs.setIfInBounds (off+p.2) p.1) c=spl c (off+k) l
 | [],off,k,c,_=>by simp [spl]
 | v::l,off,k,c,h=>by
  simp only[List.zipIdx_cons,List.foldl_cons];simp only[List.length_cons] at h;rw[show off+k=off+k from rfl,O9 l off (k+1) _ (by simp;omega)];unfold spl;simp only[Array.toList_setIfInBounds];congr 1;have:=list_seg_step c.toList (off+k) v l (by simp;omega);simpa [Nat.add_assoc] using this
theorem HF(place:Nat→Option (Nat × Nat))(pl:List (Nat × Nat))(hpl:∀i x,pl[i]?=some x→place i=some x):∀(l:List (Nat × Value)) (c c':Array Value),CT pl c l=some c'→Instr.fill place c l=some c'
 | [],c,c',h=>h
 | (i,v)::r,c,c',h=>by
  rw[UP] at h;unfold Instr.fill;cases hp:pl[i]? with
  | none=>rw[hp] at h;simp at h
  | some x =>
   obtain⟨off,n⟩:=x;rw[hp] at h;simp only at h;split at h
   ·rename_i hc;rw[hpl i _ hp];have h1:¬(v.cells.size≠n || decide (off+v.cells.size>c.size))=true:=by
     simp only[Bool.or_eq_true,decide_eq_true_eq,not_or];omega
    simp only[h1];have e:v.cells.zipIdx.foldl (λcs (p:Value × Nat)=>cs.setIfInBounds (off+p.2) p.1) c=spl c off v.cells.toList:=by
     have:=O9 v.cells.toList off 0 c (by simp;omega);simp only[Nat.add_zero] at this;rw[←this,←Array.foldl_toList];simp
    have:=HF place pl hpl r _ c' h;rw[←e] at this;exact this
   ·simp at h
def Br:List (Nat × Operand)→Option (List (Nat × Value))
 | []=>some []
 | (i,.const v)::r=>(Br r).map ((i,v)::·)
 | _=>none
@[go_sem] theorem ll:Br []=some []:=rfl
@[go_sem] theorem lP(i:Nat)(v:Value)(r:List (Nat × Operand)):Br ((i,.const v)::r)=(Br r).map ((i,v)::·):=rfl
theorem Fx{ρ:Operand→Value}(a:B5 ρ):∀{l:List (Nat × Operand)} {b:List (Nat × Value)},Br l=some b→l.map (λp=>(p.1,ρ p.2))=b
 | [],b,h=>by simp [Br] at h;subst h;rfl
 | (i,x)::r,b,h=>by
  cases x with
  | const v =>
   simp only[Br,Option.map_eq_some_iff] at h;obtain⟨c,d,rfl⟩:=h;simp [Fx a d,a.1]
  | _=>simp [Br] at h
theorem gK{a:Array Field}{l:List (Nat × Nat)}(h:a.toList.mapM (λf=>(P.info? f.type).map λj=>(f.offset,j.size))=some l)(w:World):
  (a.mapM λf=>(do pure (f.offset,←Go.sizeOf f.type):Sem (Nat × Nat))).run P w=.ok l.toArray w:=by
 rw[Array.mapM_eq_mapM_toList]
 suffices ∀(b:List Field) (l:List (Nat × Nat)),b.mapM (λf=>(P.info? f.type).map λj=>(f.offset,j.size))=some l →
   (b.mapM λf=>(do pure (f.offset,←Go.sizeOf f.type):Sem (Nat × Nat))).run P w=.ok l w by
  rw[Sem.run_map,this _ _ h];rfl
 intro b
 induction b with
 | nil=>intro l h;simp at h;subst h;rfl
 | cons f b c =>
  intro l h;simp only[List.mapM_cons,bind,rP,Option.map_eq_some_iff,pure,Option.some.injEq] at h;obtain⟨p,⟨j,d,rfl⟩,r,e,rfl⟩:=h;rw[List.mapM_cons];have g:Ak P f.type=some j.size:=by simp [Ak,d]
  rw[Sem.run_bind,Sem.run_bind,Bw g];simp only[Result.andThen_ok,Sem.run_pure];rw[Sem.run_bind,c r e];rfl
theorem R4(t ty:TypeId)(parts:List (Nat × Operand))(K:rD)(w:World):
  OpX P (.build t parts.toArray) ty K w=OrK ((AF P t).bind λz=>(AO P t).bind λpl=>(Br parts).bind (CT pl z.cells)) (λc=>K (.agg c) w) (OpX P (.build t parts.toArray) ty K w) ():=by
 refine AK (λc h=>?_) rfl;obtain⟨z,hz,h⟩:=rP.1 h;obtain⟨pl,hpl,h⟩:=rP.1 h;obtain⟨vs,hv,hf⟩:=rP.1 h;refine Bc λρ hg=>?_;unfold AO at hpl;cases hu:P.underlying t with
 | none=>rw[hu] at hpl;simp at hpl
 | some d =>
  rw[hu] at hpl;cases d<;>simp at hpl;rename_i fs;have hfill:=HF (λi=>pl[i]?) pl (λi x hx=>hx) vs z.cells c hf;have hf:=gK hpl w;have hp:=Fx hg hv;simp only[execOp,Ap,Instr.build,Sem.run_bind,Eo hz,Result.andThen_ok,run_underlying hu];rw[hf];simp only[Result.andThen_ok,List.getElem?_toArray,List.map_toArray,hp,hfill];rfl
@[go_sem] theorem E0(t ty:TypeId)(parts:List (Nat × Operand))(K:rD)(w:World)(_ht:Ae P t=some 7):
  OpX P (.build t parts.toArray) ty K w=OrK ((AF P t).bind λz=>(AO P t).bind λpl=>(Br parts).bind (CT pl z.cells)) (λc=>K (.agg c) w) (OpX P (.build t parts.toArray) ty K w) ():=R4 t ty parts K w
@[go_sem] theorem qA:AV []=true:=rfl
@[go_sem] theorem nP(v:Value)(l:List Value):AV (v::l)=(v.oneCell' && AV l):=rfl
end
attribute [go_sem] Value.oneCell' Bool.and_true Bool.true_and if_true if_false rH
section
variable {P:Program}
attribute [go_sem] Int.toNat_natCast and_self and_true true_and and_false false_and ne_eq not_false_eq_true not_true_eq_false eq_self Option.isNone_none Option.isNone_some Bool.not_true Bool.not_false Nat.zero_add Nat.add_zero List.getElem?_toArray List.getElem?_cons_zero List.getElem?_cons_succ List.size_toArray List.length_cons List.length_nil List.take_zero List.take_succ_cons List.drop_zero List.drop_succ_cons List.nil_append List.cons_append rJ List.extract_toArray Option.map_some Option.bind_some Option.isSome_some List.map_cons List.map_nil decide_true decide_false
@[go_sem] theorem kI{α:Type}(l:List α)(a b:Nat):l.extract a b=(l.drop a).take (b-a):=rfl
def mZ:Option Value→Value
 | some v=>v
 | none=>undef
theorem SS(b:TypeId)(a:Addr):PureRun P (.nilCheck (.const (.pointer (some a)))) b (.pointer (some a)):=⟨λρ c w=>by simp [execOp,Ap,c.1]⟩
theorem Rb(t a:TypeId)(b o f off n:Nat)(h:Ai P t f=some (off,n))(c:n≠0):PureRun P (.fieldAddr t (.const (.pointer (some ⟨b,o,none⟩))) f) a (.pointer (some ⟨b,o+off,none⟩)):=by
 have e:∃g,P.underlying t=some (.struct g):=by
  unfold Ai at h;cases i:P.underlying t with
  | none=>rw[i] at h;simp at h
  | some d=>rw[i] at h;cases d<;>first|exact⟨_,rfl⟩|simp at h
 obtain⟨g,i⟩:=e;unfold Ai at h;rw[i] at h;simp only[Option.bind_some] at h;obtain⟨k,l⟩:∃k,g[f]?=some k:=by
  cases l:g[f]? with
  | none=>rw[l] at h;simp at h
  | some k=>exact⟨k,rfl⟩
 rw[l] at h;simp only[Option.bind_some,Option.map_eq_some_iff] at h;obtain⟨j,m,h⟩:=h;cases h;have p:Ak P k.type=some j.size:=by simp [Ak,m]
 refine⟨λρ q w=>?_⟩;simp [execOp,Ap,q.1,Instr.fieldAt,run_underlying i,l,Instr.sureAddr,fieldPlace,Bw p,c,CF]
theorem O1(t a e:TypeId)(b o len cap n:Nat)(k:IntKind)(i:Int)(c:Ae P t=some 1)(d:AA P t=some e)(f:Ak P e=some n)(g:0≤i)(h:i<len):
  PureRun P (.indexAddr t (.const (.slice (some ⟨b,o,none⟩) len cap)) (.const (.int k i))) a (.pointer (some ⟨b,o+i.toNat*n,none⟩)):=by
 obtain⟨j,l⟩:=I6 c;have:j=e:=by simpa [AA,l] using d
 subst this;refine⟨λρ m w=>?_⟩;simp [execOp,Ap,m.1,Instr.indexAt,asIntOf,run_underlying l,Bw f,g,h,CF]
theorem jx{t:TypeId}(h:Ae P t=some 2):∃n e,P.underlying t=some (.array n e):=by
 unfold Ae at h;cases a:P.underlying t with
 | none=>rw[a] at h;simp at h
 | some d=>rw[a] at h;cases d<;>simp at h;exact⟨_,_,rfl⟩
theorem MY(t a e:TypeId)(b o len n:Nat)(k:IntKind)(i:Int)(c:Ae P t=some 2)(d:AA P t=some e)(f:Cq P t=some len)(g:Ak P e=some n)(h:0≤i)(j:i<len):
  PureRun P (.indexAddr t (.const (.pointer (some ⟨b,o,none⟩))) (.const (.int k i))) a (.pointer (some ⟨b,o+i.toNat*n,none⟩)):=by
 obtain⟨l,m,p⟩:=jx c;have q:m=e:=by simpa [AA,p] using d
 have r:l=len:=by simpa [Cq,p] using f
 subst q;subst r;refine⟨λρ s w=>?_⟩;simp [execOp,Ap,s.1,Instr.indexAt,Instr.sureAddr,asIntOf,run_underlying p,Bw g,h,j,CF]
theorem OW(a:TypeId)(vs:Array Value)(i:Nat)(v:Value)(h:vs[i]?=some v):PureRun P (.extract (.const (.tuple vs)) i) a v:=⟨λρ b w=>by simp [execOp,Ap,b.1,Instr.extract,h]⟩
theorem Nd(t a:TypeId)(b:Bool):PureRun P (.unOp .not t (.const (.bool b))) a (.bool (!b)):=⟨λρ c w=>by simp [execOp,Ap,c.1,Op.unary]⟩
theorem RO(t a:TypeId)(k:IntKind)(n:Int):PureRun P (.unOp .neg t (.const (.int k n))) a (.int k (k.wrap (-n))):=⟨λρ b w=>by simp [execOp,Ap,b.1,Op.unary,Op.intArith]⟩
theorem Tb(s t a:TypeId)(k k':IntKind)(n:Int)(b:(Ae P s).isSome=true)(h:CP P t=some k'):PureRun P (.convert s t (.const (.int k n))) a (.int k' (k'.wrap n)):=by
 unfold CP at h;obtain⟨d,hd⟩:∃d,P.underlying s=some d:=by
  unfold Ae at b;cases c:P.underlying s with
  | none=>rw[c] at b;simp at b
  | some d=>exact⟨d,rfl⟩
 cases c:P.underlying t with
 | none=>rw[c] at h;simp at h
 | some e =>
  rw[c] at h;cases e<;>simp at h;subst h;refine⟨λρ f w=>?_⟩;simp [execOp,Ap,f.1,convert,run_underlying c,run_underlying hd,Conv.intToInt]
theorem Pf(t b:TypeId)(a:Option Addr)(n c:Nat)(h:Ae P t=some 1):PureRun P (.call { callee:=.builtin .len,args:=#[.const (.slice a n c)],argTypes:=#[t] }) b (.int .i64 n):=by
 obtain⟨e,d⟩:=I6 h;exact⟨λρ f w=>by simp [execOp,Ap,resolve,invoke,builtin,f.1,Builtin.len_,run_underlying d,goInt]⟩
theorem aY(t a:TypeId)(s:ByteArray)(h:Ae P t=some 3):PureRun P (.call { callee:=.builtin .len,args:=#[.const (.string s)],argTypes:=#[t] }) a (.int .i64 s.size):=by
 have b:=FR h;exact⟨λρ c w=>by simp [execOp,Ap,resolve,invoke,builtin,c.1,Builtin.len_,run_underlying b,goInt]⟩
theorem Tg(ts:Array TypeId)(a:TypeId)(k k':IntKind)(x y:Int):PureRun P (.call { callee:=.builtin .min,args:=#[.const (.int k x),.const (.int k' y)],argTypes:=ts }) a (.int k (min x y)):=
 ⟨λρ b w=>by
  have e:(if y<x then y else x)=min x y:=O;simp [execOp,Ap,resolve,invoke,builtin,b.1,Builtin.min_,Builtin.min2,e]⟩
theorem PX(ts:Array TypeId)(a:TypeId)(k k':IntKind)(x y:Int):PureRun P (.call { callee:=.builtin .max,args:=#[.const (.int k x),.const (.int k' y)],argTypes:=ts }) a (.int k (max x y)):=
 ⟨λρ b w=>by
  have e:(if y>x then y else x)=max x y:=O;simp [execOp,Ap,resolve,invoke,builtin,b.1,Builtin.max_,Builtin.max2,e]⟩
theorem kv(a:TypeId)(b:Fn)(xs c:List Operand)(us vs:List Value)(d:(Br (xs.map λx=>(0,x)))=some (us.map λv=>(0,v)))(e:(Br (c.map λx=>(0,x)))=some (vs.map λv=>(0,v))):
  PureRun P (.makeFunc b xs.toArray c.toArray) a (.func b us.toArray vs.toArray):=by
 refine⟨λρ f w=>?_⟩;have g:=Fx f d;have h:=Fx f e;have i:xs.map ρ=us:=by
  have:=congrArg (List.map Prod.snd) g;simpa [List.map_map,Function.comp_def] using this
 have j:c.map ρ=vs:=by
  have:=congrArg (List.map Prod.snd) h;simpa [List.map_map,Function.comp_def] using this
 simp [execOp,Ap,Instr.makeFunc,i,j]
@[go_sem] theorem lC(b:TypeId)(a:Addr)(K:rD)(w:World):OpX P (.nilCheck (.const (.pointer (some a)))) b K w=K (.pointer (some a)) w:=(SS b a).op K w
@[go_sem] theorem o8(b:TypeId)(a:Addr)(K:Value→Prop):PurX P (.nilCheck (.const (.pointer (some a)))) b K ()=K (.pointer (some a)):=(SS b a).pur K
@[go_sem] theorem kM(t a:TypeId)(b:Bool)(K:rD)(w:World):OpX P (.unOp .not t (.const (.bool b))) a K w=K (.bool (!b)) w:=(Nd t a b).op K w
@[go_sem] theorem qK(t a:TypeId)(b:Bool)(K:Value→Prop):PurX P (.unOp .not t (.const (.bool b))) a K ()=K (.bool (!b)):=(Nd t a b).pur K
@[go_sem] theorem mN(t a:TypeId)(k:IntKind)(n:Int)(K:rD)(w:World):OpX P (.unOp .neg t (.const (.int k n))) a K w=K (.int k (k.wrap (-n))) w:=(RO t a k n).op K w
@[go_sem] theorem ob(t a:TypeId)(k:IntKind)(n:Int)(K:Value→Prop):PurX P (.unOp .neg t (.const (.int k n))) a K ()=K (.int k (k.wrap (-n))):=(RO t a k n).pur K
@[go_sem] theorem mQ(t b:TypeId)(a:Option Addr)(n c:Nat)(K:rD)(w:World)(h:Ae P t=some 1):OpX P (.call { callee:=.builtin .len,args:=#[.const (.slice a n c)],argTypes:=#[t] }) b K w=K (.int .i64 n) w:=(Pf t b a n c h).op K w
@[go_sem] theorem pw(t b:TypeId)(a:Option Addr)(n c:Nat)(K:Value→Prop)(w:World)(h:Ae P t=some 1):RdX P (.call { callee:=.builtin .len,args:=#[.const (.slice a n c)],argTypes:=#[t] }) b K w=K (.int .i64 n):=(Pf t b a n c h).rd K w
@[go_sem] theorem nq(t a:TypeId)(s:ByteArray)(K:rD)(w:World)(h:Ae P t=some 3):OpX P (.call { callee:=.builtin .len,args:=#[.const (.string s)],argTypes:=#[t] }) a K w=K (.int .i64 s.size) w:=(aY t a s h).op K w
@[go_sem] theorem kX(ts:Array TypeId)(a:TypeId)(k k':IntKind)(x y:Int)(K:rD)(w:World):OpX P (.call { callee:=.builtin .min,args:=#[.const (.int k x),.const (.int k' y)],argTypes:=ts }) a K w=K (.int k (min x y)) w:=(Tg ts a k k' x y).op K w
@[go_sem] theorem lL(ts:Array TypeId)(a:TypeId)(k k':IntKind)(x y:Int)(K:Value→Prop):PurX P (.call { callee:=.builtin .min,args:=#[.const (.int k x),.const (.int k' y)],argTypes:=ts }) a K ()=K (.int k (min x y)):=(Tg ts a k k' x y).pur K
@[go_sem] theorem nz(ts:Array TypeId)(a:TypeId)(k k':IntKind)(x y:Int)(K:rD)(w:World):OpX P (.call { callee:=.builtin .max,args:=#[.const (.int k x),.const (.int k' y)],argTypes:=ts }) a K w=K (.int k (max x y)) w:=(PX ts a k k' x y).op K w
@[go_sem] theorem kG(ts:Array TypeId)(a:TypeId)(k k':IntKind)(x y:Int)(K:Value→Prop):PurX P (.call { callee:=.builtin .max,args:=#[.const (.int k x),.const (.int k' y)],argTypes:=ts }) a K ()=K (.int k (max x y)):=(PX ts a k k' x y).pur K
theorem L1{t:TypeId}{f off:Nat}(h:tfo P t f=some off):∃n,Ai P t f=some (off,n)∧n≠0:=by
 unfold tfo at h;obtain⟨p,a,h⟩:=rP.1 h;split at h
 ·simp at h
 ·rename_i b;cases h;exact⟨p.2,a,b⟩
theorem Rl{t:TypeId}{n:Nat}(h:AM P t=some n):∃e,Ae P t=some 1∧AA P t=some e∧Ak P e=some n:=by
 unfold AM at h;cases a:P.underlying t with
 | none=>rw[a] at h;simp at h
 | some d =>
  rw[a] at h;cases d<;>simp at h;exact⟨_,by simp [Ae,a],by simp [AA,a],h⟩
theorem Md{t:TypeId}{n m:Nat}(h:Bk P t=some (n,m)):∃e,Ae P t=some 2∧AA P t=some e∧Cq P t=some n∧Ak P e=some m:=by
 unfold Bk at h;cases a:P.underlying t with
 | none=>rw[a] at h;simp at h
 | some d =>
  rw[a] at h;cases d with
  | array k e =>
   simp only[Option.bind_some,Option.map_eq_some_iff] at h;obtain⟨x,b,h⟩:=h;cases h;exact⟨e,by simp [Ae,a],by simp [AA,a],by simp [Cq,a],b⟩
  | _=>simp at h
@[go_sem] theorem kD(t ty:TypeId)(b o f:Nat)(K:rD)(w:World):OpX P (.fieldAddr t (.const (.pointer (some ⟨b,o,none⟩))) f) ty K w=OrK (tfo P t f) (λoff=>K (.pointer (some ⟨b,o+off,none⟩)) w) (OpX P (.fieldAddr t (.const (.pointer (some ⟨b,o,none⟩))) f) ty K w) ():=by
 refine AK (λq h=>?_) rfl;obtain⟨n,h1,h2⟩:=L1 h;have hr:=Rb (P:=P) t ty b o f q n h1 h2;exact PureRun.op hr K w
@[go_sem] theorem mf(t ty:TypeId)(b o f:Nat)(K:Value→Prop):PurX P (.fieldAddr t (.const (.pointer (some ⟨b,o,none⟩))) f) ty K ()=OrK (tfo P t f) (λoff=>K (.pointer (some ⟨b,o+off,none⟩))) (PurX P (.fieldAddr t (.const (.pointer (some ⟨b,o,none⟩))) f) ty K ()) ():=by
 refine AK (λq h=>?_) rfl;obtain⟨n,h1,h2⟩:=L1 h;have hr:=Rb (P:=P) t ty b o f q n h1 h2;exact PureRun.pur hr K
@[go_sem] theorem oS(t a:TypeId)(b o len cap:Nat)(k:IntKind)(i:Int)(K:rD)(w:World)(c:0≤i)(d:i<len):OpX P (.indexAddr t (.const (.slice (some ⟨b,o,none⟩) len cap)) (.const (.int k i))) a K w=OrK (AM P t) (λn=>K (.pointer (some ⟨b,o+i.toNat*n,none⟩)) w) (OpX P (.indexAddr t (.const (.slice (some ⟨b,o,none⟩) len cap)) (.const (.int k i))) a K w) ():=by
 refine AK (λq h=>?_) rfl;obtain⟨e,f,g,j⟩:=Rl h;have l:=O1 (P:=P) t a e b o len cap q k i f g j c d;exact PureRun.op l K w
@[go_sem] theorem ql(t a:TypeId)(b o len cap:Nat)(k:IntKind)(i:Int)(K:Value→Prop)(c:0≤i)(d:i<len):PurX P (.indexAddr t (.const (.slice (some ⟨b,o,none⟩) len cap)) (.const (.int k i))) a K ()=OrK (AM P t) (λn=>K (.pointer (some ⟨b,o+i.toNat*n,none⟩))) (PurX P (.indexAddr t (.const (.slice (some ⟨b,o,none⟩) len cap)) (.const (.int k i))) a K ()) ():=by
 refine AK (λq h=>?_) rfl;obtain⟨e,f,g,j⟩:=Rl h;have l:=O1 (P:=P) t a e b o len cap q k i f g j c d;exact PureRun.pur l K
@[go_sem] theorem lW(t a:TypeId)(b o:Nat)(k:IntKind)(i:Int)(K:rD)(w:World)(c:0≤i)(d:i<((Bk P t).getD (0,0)).1):OpX P (.indexAddr t (.const (.pointer (some ⟨b,o,none⟩))) (.const (.int k i))) a K w=OrK (Bk P t) (λn=>K (.pointer (some ⟨b,o+i.toNat*n.2,none⟩)) w) (OpX P (.indexAddr t (.const (.pointer (some ⟨b,o,none⟩))) (.const (.int k i))) a K w) ():=by
 refine AK (λq h=>?_) rfl;obtain⟨n,m⟩:=q;rw[h] at d;obtain⟨e,f,g,j,l⟩:=Md h;have p:=MY (P:=P) t a e b o n m k i f g j l c d;exact PureRun.op p K w
@[go_sem] theorem p9(t a:TypeId)(b o:Nat)(k:IntKind)(i:Int)(K:Value→Prop)(c:0≤i)(d:i<((Bk P t).getD (0,0)).1):PurX P (.indexAddr t (.const (.pointer (some ⟨b,o,none⟩))) (.const (.int k i))) a K ()=OrK (Bk P t) (λn=>K (.pointer (some ⟨b,o+i.toNat*n.2,none⟩))) (PurX P (.indexAddr t (.const (.pointer (some ⟨b,o,none⟩))) (.const (.int k i))) a K ()) ():=by
 refine AK (λq h=>?_) rfl;obtain⟨n,m⟩:=q;rw[h] at d;obtain⟨e,f,g,j,l⟩:=Md h;have p:=MY (P:=P) t a e b o n m k i f g j l c d;exact PureRun.pur p K
@[go_sem] theorem mL(s t ty:TypeId)(k:IntKind)(n:Int)(K:rD)(w:World):OpX P (.convert s t (.const (.int k n))) ty K w=OrK (Ja P s t) (λk'=>K (.int k' (k'.wrap n)) w) (OpX P (.convert s t (.const (.int k n))) ty K w) ():=by
 refine AK (λq h=>?_) rfl;obtain⟨x,h1,h2⟩:=rP.1 h;have hr:=Tb (P:=P) s t ty k q n (by rw[h1];rfl) h2;exact PureRun.op hr K w
@[go_sem] theorem p7(s t ty:TypeId)(k:IntKind)(n:Int)(K:Value→Prop):PurX P (.convert s t (.const (.int k n))) ty K ()=OrK (Ja P s t) (λk'=>K (.int k' (k'.wrap n))) (PurX P (.convert s t (.const (.int k n))) ty K ()) ():=by
 refine AK (λq h=>?_) rfl;obtain⟨x,h1,h2⟩:=rP.1 h;have hr:=Tb (P:=P) s t ty k q n (by rw[h1];rfl) h2;exact PureRun.pur hr K
@[go_sem] theorem oh(s t:TypeId):Ja P s t=(Ae P s).bind λ_=>CP P t:=rfl
attribute [go_sem] Option.getD_some
def ExX(P:Program)(a:TypeId)(vs:Array Value)(i:Nat)(x:Option Value)(K:rD)(w:WK K):Prop:=
 match x with|some v=>K v w|none=>OpX P (.extract (.const (.tuple vs)) i) a K w
@[go_sem] theorem dd(a:TypeId)(vs:Array Value)(i:Nat)(v:Value)(K:rD)(w:World):ExX P a vs i (some v) K w=K v w:=rfl
@[go_sem] theorem lD(a:TypeId)(vs:Array Value)(i:Nat)(K:rD)(w:World):OpX P (.extract (.const (.tuple vs)) i) a K w=ExX P a vs i vs[i]? K w:=by
 cases h:vs[i]? with
 | none=>rfl
 | some v=>rw[dd];exact(OW a vs i v h).op K w
def ExQ(P:Program)(a:TypeId)(vs:Array Value)(i:Nat)(x:Option Value)(K:Value→Prop)(u:UK K):Prop:=
 match x with|some v=>K v|none=>PurX P (.extract (.const (.tuple vs)) i) a K u
@[go_sem] theorem XP(a:TypeId)(vs:Array Value)(i:Nat)(v:Value)(K:Value→Prop):ExQ P a vs i (some v) K ()=K v:=rfl
@[go_sem] theorem oN(a:TypeId)(vs:Array Value)(i:Nat)(K:Value→Prop):PurX P (.extract (.const (.tuple vs)) i) a K ()=ExQ P a vs i vs[i]? K ():=by
 cases h:vs[i]? with
 | none=>rfl
 | some v=>rw[XP];exact(OW a vs i v h).pur K
def FnX(P:Program)(a:TypeId)(b:Fn)(xs c:List Operand)(u v:Option (List (Nat × Value)))(K:rD)(w:WK K):Prop:=
 match u,v with|some d,some e=>K (.func b (d.map (·.2)).toArray (e.map (·.2)).toArray) w|_,_=>OpX P (.makeFunc b xs.toArray c.toArray) a K w
@[go_sem] theorem da(a:TypeId)(b:Fn)(xs c:List Operand)(us vs:List (Nat × Value))(K:rD)(w:World):FnX P a b xs c (some us) (some vs) K w=K (.func b (us.map (·.2)).toArray (vs.map (·.2)).toArray) w:=rfl
theorem IP:∀(a:List Operand) (b:List (Nat × Value)),Br (a.map λx=>(0,x))=some b→b=(b.map (·.2)).map λv=>(0,v)
 | [],b,h=>by simp [Br] at h;subst h;rfl
 | x::a,b,h=>by
  cases x with
  | const v =>
   simp only[List.map_cons,Br,Option.map_eq_some_iff] at h;obtain⟨c,d,rfl⟩:=h;have:=IP a c d;simp only[List.map_cons];rw[←this]
  | _=>simp [Br] at h
@[go_sem] theorem kW(a:TypeId)(b:Fn)(xs c:List Operand)(K:rD)(w:World):
  OpX P (.makeFunc b xs.toArray c.toArray) a K w=FnX P a b xs c (Br (xs.map λx=>(0,x))) (Br (c.map λx=>(0,x))) K w:=by
 cases h:Br (xs.map λx=>(0,x)) with
 | none=>rfl
 | some d =>
  cases e:Br (c.map λx=>(0,x)) with
  | none=>rfl
  | some f =>
   rw[da];refine(kv a b xs c (d.map (·.2)) (f.map (·.2)) ?_ ?_).op K w
   ·rw[h,←IP _ _ h]
   ·rw[e,←IP _ _ e]
def Dp:List Operand→Option (List Value)
 | []=>some []
 | .const v::r=>(Dp r).map (v::·)
 | _=>none
theorem JB{ρ:Operand→Value}(a:B5 ρ):∀{l:List Operand} {b:List Value},Dp l=some b→l.map ρ=b
 | [],b,h=>by simp [Dp] at h;subst h;rfl
 | x::r,b,h=>by
  cases x with
  | const v =>
   simp only[Dp,Option.map_eq_some_iff] at h;obtain⟨c,d,rfl⟩:=h;simp [JB a d,a.1]
  | _=>simp [Dp] at h
theorem OpX.call{f:FuncId}{l:List Operand}{vs:List Value}{a:Array TypeId}{b:TypeId}{K:Value→World→Prop}{w:World}(c:Ad P f)(d:Dp l=some vs)(h:Calls P f vs.toArray w (Ac K)):
  OpX P (.call { callee:=.value (.func f),args:=l.toArray,argTypes:=a }) b K w:=by
 refine⟨λρ e=>?_⟩;have:(execOp ρ (Ap (.call { callee:=.value (.func f),args:=l.toArray,argTypes:=a }) b)).run P w=.ok (.enter f vs.toArray) w:=by
  simp [execOp,Ap,resolve,invoke,e.2.2,Deferred.ofValue,JB e d,Jd c]
 rw[this];exact h
theorem sf{f:FuncId}{l:List Operand}{vs:List Value}{a:Array TypeId}{b:TypeId}{K:Value→World→Prop}{w:World}(c:Ad P f)(d:Dp l=some vs)(h:Calls P f vs.toArray w (Ac K)):OpX P (.call { callee:=.value (.func f),args:=l.toArray,argTypes:=a }) b K w:=OpX.call c d h
theorem OpX.callV{f:FuncId}{us cs:List Value}{l:List Operand}{vs:List Value}{a:Array TypeId}{b:TypeId}{K:Value→World→Prop}{w:World}(c:Ad P f)(d:Dp l=some vs)(h:Calls P f (us++vs++cs).toArray w (Ac K)):
  OpX P (.call { callee:=.value (.const (.func (.func f) us.toArray cs.toArray)),args:=l.toArray,argTypes:=a }) b K w:=by
 refine⟨λρ e=>?_⟩;have:(execOp ρ (Ap (.call { callee:=.value (.const (.func (.func f) us.toArray cs.toArray)),args:=l.toArray,argTypes:=a }) b)).run P w=.ok (.enter f (us++vs++cs).toArray) w:=by
  simp [execOp,Ap,resolve,invoke,e.1,Deferred.ofValue,JB e d,Jd c]
 rw[this];exact h
theorem Calls.ret{f:FuncId}{a:Array Value}{w:World}{R:Value→World→Prop}{K:Value→World→Prop}(h:Calls P f a w (Ac R))(b:∀v w',R v w'→K v w'):Calls P f a w (Ac K):=
 h.mono λe w' c=>by cases e<;>first|exact b _ _ c|exact c
theorem se{f:FuncId}{a:Array Value}{w:World}{R:Value→World→Prop}{K:Value→World→Prop}(h:Calls P f a w (Ac R))(b:∀v w',R v w'→K v w'):Calls P f a w (Ac K):=Calls.ret h b
theorem td{f:FuncId}{l:List Operand}{vs:List Value}{ats:Array TypeId}{ty:TypeId}{R K:rD}{w:World}(hb:Ad P f)(hl:Dp l=some vs)(h:Calls P f vs.toArray w (Ac R))(hk:∀v w',R v w'→K v w'):OpX P (.call { callee:=.value (.func f),args:=l.toArray,argTypes:=ats }) ty K w:=OpX.call hb hl (Calls.ret h hk)
end
structure Chg (F:List Nat) (w w':World):Prop where
 os:w'.os=w.os
 tape:w'.tape=w.tape
 output:w'.output=w.output
 size:w.heap.size≤w'.heap.size
 same:∀b,b<w.heap.size→b∉F→w'.heap[b]?=w.heap[b]?
theorem Chg.refl(F:List Nat)(w:World):Chg F w w:=⟨rfl,rfl,rfl,rH _,λ_ _ _=>rfl⟩
theorem sg(F:List Nat)(w:World):Chg F w w:=Chg.refl F w
theorem Chg.trans{F F':List Nat}{a b c:World}(h:Chg F a b)(k:Chg F' b c)(hf:∀x∈F',x∈F∨a.heap.size≤x):Chg F a c:=
 ⟨k.os.trans h.os,k.tape.trans h.tape,k.output.trans h.output,Nat.le_trans h.size k.size,λx hx hn=>by
  rw[k.same x (Nat.lt_of_lt_of_le hx h.size) λhm=>(hf x hm).elim hn (λhle=>absurd hx O),h.same x hx hn]⟩
theorem Chg.trans0{F:List Nat}{a b c:World}(h:Chg F a b)(k:Chg [] b c):Chg F a c:=h.trans k Z
theorem Chg.mono{F F':List Nat}{a b:World}(h:Chg F a b)(c:∀x∈F,x∈F'∨a.heap.size≤x):Chg F' a b:=(Chg.refl F' a).trans h c
theorem Chg.alloc{F:List Nat}{a b:World}(h:Chg F a b)(o:Obj):Chg F a (b.alloc o):=
 h.trans (F':=[]) ⟨rfl,rfl,rfl,Z,λx c _=>ew b o x c⟩ Z
theorem sj{F:List Nat}{a b:World}(h:Chg F a b)(o:Obj):Chg F a (b.alloc o):=Chg.alloc h o
theorem Chg.drew{F:List Nat}{a b:World}(h:Chg F a b):Chg F a b.drew:=⟨h.os,h.tape,h.output,h.size,h.same⟩
theorem sk{F:List Nat}{a b:World}(h:Chg F a b):Chg F a b.drew:=Chg.drew h
theorem Chg.set{F:List Nat}{a b:World}(h:Chg F a b)(x:Nat)(o:Obj)(c:x∈F∨a.heap.size≤x):Chg F a (Ab b x o):=
 h.trans (F':=[x]) ⟨rfl,rfl,rfl,by rw[EP];exact rH _,λy _ d=>A5 b x o y (by simpa using d)⟩ (by simpa using c)
theorem sm{F:List Nat}{a b:World}(h:Chg F a b)(x:Nat)(o:Obj)(c:x∈F∨a.heap.size≤x):Chg F a (Ab b x o):=Chg.set h x o c
theorem sy{p:Prop}(h:p:=by repeat (first|exact Chg.refl _ _|apply Chg.drew|apply Chg.alloc|(refine Chg.set ?_ _ _ (by first|(left;simp;done)|(right;omega))))):p:=h
theorem Chg.below{w w':World}(h:Chg [] w w'):Go.RowKit.Below w.heap.size w w':=⟨h.os,h.tape,h.output,h.size,λk a=>h.same k a Z⟩
theorem Chg.keep{F:List Nat}{w w':World}(h:Chg F w w'){b:Nat}{o:Obj}(a:w.heap[b]?=some o)(c:b∉F):w'.heap[b]?=some o:=(h.same b (Aa a) c).trans a
def SlA(w:World)(v:Value)(len m:Nat)(g:Nat→List Value):Prop:=
 ∃a c,v=.slice a len c∧∀i,i<len→∃b o,a=some ⟨b,o,none⟩∧b<w.heap.size∧AT w.heap[b]? (o+i*m) m=some (g i).toArray
theorem Cz{x:Option Obj}{o n:Nat}{l:List Value}(a:l.length=n)(b:0<n)(h:∀j,j<n→As x (o+j)=l[j]?):AT x o n=some l.toArray:=by
 have d:=h 0 b;have f:∃v,l[0]?=some v:=⟨l[0]'O,Z⟩;obtain⟨g,f⟩:=f;rw[f] at d;cases x with
 | none=>simp [As] at d
 | some x =>
  cases x with
  | cells c e k =>
   rw[Fe];have m:o+n≤c.size:=by
    have:=h (n-1) O;rw[Cp] at this;rcases Nat.lt_or_ge (o+(n-1)) c.size with p|p
    ·omega
    ·rw[Array.getElem?_eq_none p] at this;have:n-1<l.length:=O;simp [this] at *
   rw[rG m];congr 1;apply Array.ext_getElem?;intro i;rcases Nat.lt_or_ge i n with q|q
   ·have:=h i q;rw[Cp] at this;rw[Array.getElem?_extract_of_lt O,List.getElem?_toArray,←this];simp [show o+i<c.size by omega]
   ·rw[Array.getElem?_eq_none (by simp;omega),Array.getElem?_eq_none (by simp;omega)]
  | _=>simp [As] at d
noncomputable def AS (p:Nat→Prop):Nat:=open Classical in if h:∃n,p n∧∀m,p m→n≤m then Classical.choose h else 0
theorem DS{p:Nat→Prop}{n:Nat}(h:p n):p (AS p)∧∀m,p m→AS p≤m:=by
 have:∃n,p n∧∀m,p m→n≤m:=by
  induction n using Nat.strongRecOn with
  | ind n ih =>
   by_cases hh:∃m,m<n∧p m
   ·obtain⟨m,hm,hp⟩:=hh;exact ih m hm hp
   ·exact⟨n,h,λm hm=>Nat.not_lt.mp λhl=>hh ⟨m,hl,hm⟩⟩
 unfold AS;rw[dif_pos this];exact Classical.choose_spec this
theorem Join2.cutK{M:(Value→Value→World→Prop)→World→Prop}{K:Value→Value→World→Prop}{w:World}(R:Value→Value→World→Prop)(h:∀k:Value→Value→World→Prop,(∀a b w',R a b w'→k a b w')→M k w)(c:∀a b w',R a b w'→K a b w'):Join2 M K w:=⟨R,h R (λ_ _ _ h=>h),c⟩
theorem Loop0.st{body:(World→Prop)→World→Prop}{w:World}{St:Type}(I:St→World→Prop)(μ:St→Nat)(s:St)(h0:I s w)(round:∀(next:World→Prop) (s:St) (w:World),(∀s' w',I s' w'→μ s'<μ s→next w')→I s w→body next w):Loop0 body w:=by
 refine⟨λw'=>∃s,(True)∧I s w',λw'=>AS λn=>∃s,(True)∧I s w'∧μ s=n,⟨s,trivial,h0⟩,?_⟩;rintro w ⟨sa,ha,hIa⟩;obtain⟨⟨s,hs,hI,hm⟩,-⟩:=DS (p:=λn=>∃s,(True)∧I s w∧μ s=n) ⟨sa,ha,hIa,rfl⟩;obtain -:=hs;refine round _ s w (λs' w' hI' hlt=>⟨⟨s',trivial,hI'⟩,?_⟩) hI;rw[←hm];exact Nat.lt_of_le_of_lt ((DS (p:=λn=>∃s,_∧I s w'∧μ s=n) ⟨s',trivial,hI',rfl⟩).2 _ ⟨s',trivial,hI',rfl⟩) hlt
theorem Loop1.st{s0:Value}{body:Value→(Value→World→Prop)→World→Prop}{w:World}{St:Type}(f0:St→Value)(I:St→World→Prop)(μ:St→Nat)(s:St)(e0:s0=f0 s)(h0:I s w)(round:∀(next:Value→World→Prop) (s:St) (w:World),(∀s' w',I s' w'→μ s'<μ s→next (f0 s') w')→I s w→body (f0 s) next w):Loop1 s0 body w:=by
 refine⟨λv0 w'=>∃s,(v0=f0 s∧True)∧I s w',λv0 w'=>AS λn=>∃s,(v0=f0 s∧True)∧I s w'∧μ s=n,⟨s,⟨e0,trivial⟩,h0⟩,?_⟩;rintro v0 w ⟨sa,ha,hIa⟩;obtain⟨⟨s,hs,hI,hm⟩,-⟩:=DS (p:=λn=>∃s,(v0=f0 s∧True)∧I s w∧μ s=n) ⟨sa,ha,hIa,rfl⟩;obtain⟨rfl,-⟩:=hs;refine round _ s w (λs' w' hI' hlt=>⟨⟨s',⟨rfl,trivial⟩,hI'⟩,?_⟩) hI;rw[←hm];exact Nat.lt_of_le_of_lt ((DS (p:=λn=>∃s,_∧I s w'∧μ s=n) ⟨s',⟨rfl,trivial⟩,hI',rfl⟩).2 _ ⟨s',⟨rfl,trivial⟩,hI',rfl⟩) hlt
theorem Loop2.st{s0 s1:Value}{body:Value→Value→(Value→Value→World→Prop)→World→Prop}{w:World}{St:Type}(f0 f1:St→Value)(I:St→World→Prop)(μ:St→Nat)(s:St)(e0:s0=f0 s)(e1:s1=f1 s)(h0:I s w)(round:∀(next:Value→Value→World→Prop) (s:St) (w:World),(∀s' w',I s' w'→μ s'<μ s→next (f0 s') (f1 s') w')→I s w→body (f0 s) (f1 s) next w):Loop2 s0 s1 body w:=by
 refine⟨λv0 v1 w'=>∃s,(v0=f0 s∧v1=f1 s∧True)∧I s w',λv0 v1 w'=>AS λn=>∃s,(v0=f0 s∧v1=f1 s∧True)∧I s w'∧μ s=n,⟨s,⟨e0,e1,trivial⟩,h0⟩,?_⟩;rintro v0 v1 w ⟨sa,ha,hIa⟩;obtain⟨⟨s,hs,hI,hm⟩,-⟩:=DS (p:=λn=>∃s,(v0=f0 s∧v1=f1 s∧True)∧I s w∧μ s=n) ⟨sa,ha,hIa,rfl⟩;obtain⟨rfl,rfl,-⟩:=hs;refine round _ s w (λs' w' hI' hlt=>⟨⟨s',⟨rfl,rfl,trivial⟩,hI'⟩,?_⟩) hI;rw[←hm];exact Nat.lt_of_le_of_lt ((DS (p:=λn=>∃s,_∧I s w'∧μ s=n) ⟨s',⟨rfl,rfl,trivial⟩,hI',rfl⟩).2 _ ⟨s',⟨rfl,rfl,trivial⟩,hI',rfl⟩) hlt
theorem Loop4.st{s0 s1 s2 s3:Value}{body:Value→Value→Value→Value→(Value→Value→Value→Value→World→Prop)→World→Prop}{w:World}{St:Type}(f0 f1 f2 f3:St→Value)(I:St→World→Prop)(μ:St→Nat)(s:St)(e0:s0=f0 s)(e1:s1=f1 s)(e2:s2=f2 s)(e3:s3=f3 s)(h0:I s w)(round:∀(next:Value→Value→Value→Value→World→Prop) (s:St) (w:World),(∀s' w',I s' w'→μ s'<μ s→next (f0 s') (f1 s') (f2 s') (f3 s') w')→I s w→body (f0 s) (f1 s) (f2 s) (f3 s) next w):Loop4 s0 s1 s2 s3 body w:=by
 refine⟨λv0 v1 v2 v3 w'=>∃s,(v0=f0 s∧v1=f1 s∧v2=f2 s∧v3=f3 s∧True)∧I s w',λv0 v1 v2 v3 w'=>AS λn=>∃s,(v0=f0 s∧v1=f1 s∧v2=f2 s∧v3=f3 s∧True)∧I s w'∧μ s=n,⟨s,⟨e0,e1,e2,e3,trivial⟩,h0⟩,?_⟩;rintro v0 v1 v2 v3 w ⟨sa,ha,hIa⟩;obtain⟨⟨s,hs,hI,hm⟩,-⟩:=DS (p:=λn=>∃s,(v0=f0 s∧v1=f1 s∧v2=f2 s∧v3=f3 s∧True)∧I s w∧μ s=n) ⟨sa,ha,hIa,rfl⟩;obtain⟨rfl,rfl,rfl,rfl,-⟩:=hs;refine round _ s w (λs' w' hI' hlt=>⟨⟨s',⟨rfl,rfl,rfl,rfl,trivial⟩,hI'⟩,?_⟩) hI;rw[←hm];exact Nat.lt_of_le_of_lt ((DS (p:=λn=>∃s,_∧I s w'∧μ s=n) ⟨s',⟨rfl,rfl,rfl,rfl,trivial⟩,hI',rfl⟩).2 _ ⟨s',⟨rfl,rfl,rfl,rfl,trivial⟩,hI',rfl⟩) hlt
end Lyc
namespace Lyc
open Go Go.ChangeShapes Go.WideShapes Go.ChangeAt Go.RowKit Go.Deep
section
variable {H:Type} {enc:TypeId × Value→H} {P:Program}
theorem Og(a:laidOutB P=true){W b:World}(c:Below W.heap.size W b){e:Nat→Bool}:∀{f:List TypeId} {g:List Value} {i:List (DataW H)} {p:List MemPlace},
  f.all (λt=>P.readableRec t && decide (t<P.types.size))=true→DataW.TrodAll enc P W 0 (λ_=>true) true f g i p→(∀x∈p,x.block<W.heap.size)→(∀x∈p,e x.block=true) →
  DataW.TrodAll enc P b 0 e true f g i p
 | [],[],[],_,_,h,_,_=>h
 | [],_::_,_,_,_,h,_,_=>h.elim
 | [],[],_::_,_,_,h,_,_=>h.elim
 | _::_,[],_,_,_,h,_,_=>h.elim
 | _::_,_::_,[],_,_,h,_,_=>h.elim
 | t::f,v::g,d::i,_,ht,h,hlt,hs=>by
  obtain⟨p,q,j,k,rfl⟩:=h;simp only[List.all_cons,Bool.and_eq_true,decide_eq_true_eq] at ht;exact⟨p,q,WideElems.Trod_stays a ht.1.1 ht.1.2 j (λx l=>c.same (hlt x (by simp [l]))) (λx l=>hs x (by simp [l])),
   Og a c ht.2 k (λx l=>hlt x (by simp [l])) (λx l=>hs x (by simp [l])),rfl⟩
theorem Yx{f:Func}{s:ChangeSpec}{a c d e:Bool}{W g:World}{args:Array Value}{h i:List (DataW H)}{j:List MemPlace}{k:TypeId}(l:laidOutB P=true)(m:f.resultTypes=#[k])(n:P.underlying k=some .bool)(o:f.params.toList.all (λt=>P.readableRec t && decide (t<P.types.size))=true)(r:s.vars=[])(u:DataW.Whole enc P f.params.toList s.vars a W args.toList h i j)(v:s.fn H (h++i)={ results:=[.lit (.bool true)],args:=h })(w:Below W.heap.size W g):
  s.post enc P f a c d e W args (.bool true) g:=by
 have y:∀x∈j,x.block<W.heap.size:=λx z=>by simpa using u.lt x z
 have A:=u;obtain⟨p,q,B,C,rfl,D,E⟩:=u;rw[r] at C;obtain⟨rfl,rfl⟩:=trodVars_none C;simp only[List.append_nil] at y D E A;have F:∀(b:Nat) (G:Nat→Bool) (I:Bool),DataW.TrodAll enc P g b G I f.resultTypes.toList ((Value.bool true).resultList f.resultTypes.size) [.lit (.bool true)] []:=by
  intro b G I;rw[m];exact trodAll_mk1 ⟨1,by simp [DataW.trod,Value.cells,n]⟩
 have J:∀G:Nat→Bool,(∀x∈p,G x.block=true)→DataW.TrodAll enc P g 0 G true f.params.toList args.toList h p:=λsp K=>Og l w o B y K;refine⟨h,[],p,[],p,[],A,?_,?_,?_,w.frame _,λ_=>?_⟩
 ·rw[v];exact F _ _ _
 ·rw[v];exact J _ (by simpa using y)
 ·rw[v,r];exact rfl
 ·refine⟨ok_one m rfl (okWide_bool_mk n true),[.lit (.bool true)]++h,[],p,⟨[]++p,[],trodAll_append (J _ (λ_ _=>rfl)) (F _ _ _),?_,Z,?_,?_⟩,?_⟩
  ·rw[r];exact rfl
  ·intro b L M;rw[w.frozen (y _ M)];exact D b L M
  ·intro N;simpa using E N
  ·intro x z _;exact z
theorem U6{C:Checked}{a:Assume}{os:Os}{f:FuncId}{b:Func}{s:ChangeSpec}{c:List PathCond}{g h k l:Bool}{m:TypeId}(own:ownKnob C.prog.godebug=none)(n:os.Started)(o:C.prog.inits.idxOf? f=none)(r:C.prog.funcs[f]?=some b)(u:∃(w:World) (x:Tape) (i:Input),w.os=os∧(w.forCall x i).Shaped C.prog∧i.vars=[]∧Input.okWide C.prog (w.forCall x i) .any w.heap.size f i ∧
   s.pre6 enc C.prog b c g (w.forCall x i).memory i.args∧a.holds C.prog (lone (Frame.enter C.prog f i.args .normal) [] (w.forCall x i)))(y:laidOutB C.prog=true)(z:b.resultTypes=#[m])(A:C.prog.underlying m=some .bool)(B:b.params.toList.all (λt=>C.prog.readableRec t && decide (t<C.prog.types.size))=true)(D:s.vars=[])(E:∀F:List (DataW H),F.length=b.params.toList.length→s.fn H F={ results:=[.lit (.bool true)],args:=F })(G:∀(W:World) (base:Nat) (args:Array Value) (F:List (DataW H)) (p:List MemPlace),
   (∀(j:Nat) t v,b.params[j]?=some t→args[j]?=some v→Value.okWide C.prog W .any base t v) →
   DataW.TrodAll enc C.prog W 0 (λ_=>true) true b.params.toList args.toList F p →
   Calls C.prog f args W (Ac λv w'=>v=.bool true∧Chg [] W w')):
  ReturnsInHanded a C os f .any (s.pre6 enc C.prog b c g) (s.post enc C.prog b g h k l):=by
 refine returnsInHanded_of_change own n o r u ?_;intro W base args F I J K L M _;have N:=L;obtain⟨p,q,Q,R,S,T,U⟩:=L;have V:=R;rw[D] at V;obtain⟨rfl,rfl⟩:=trodVars_none V;have X:F.length=b.params.toList.length:=by
  clear K N R V S T U M;generalize b.params.toList=Y at Q;generalize args.toList=m at Q
  induction Y generalizing m F p with
  | nil=>cases m<;>cases F<;>first|rfl|exact Q.elim
  | cons t Y x =>
   cases m with
   | nil=>exact Q.elim
   | cons v m =>
    cases F with
    | nil=>exact Q.elim
    | cons d F =>
     obtain⟨p,q,_,c,_⟩:=Q;simp [x _ _ _ c]
 refine(G W base args F p K Q).mono λe g h=>?_;cases e<;>first|exact h.elim|skip
 obtain⟨rfl,k⟩:=h;exact⟨_,rfl,Yx y z A B D N (by rw[List.append_nil];exact E F X) k.below⟩
theorem YD{α:Type}[Inhabited α](cs:α→List Value){w:World}{a:Addr}{len cap m:Nat}(c:0<m)(d:∀x,(cs x).length=m)(h:∀i,i<len→∃x,∀j,j<m→w.cell? (a.add (i*m+j))=(cs x)[j]?):∃g:Nat→α,SlA w (.slice (some a) len cap) len m λi=>cs (g i):=by
 have e:∀i,∃x,i<len→∀j,j<m→w.cell? (a.add (i*m+j))=(cs x)[j]?:=λi=>by
  by_cases f:i<len
  ·obtain⟨x,l⟩:=h i f;exact⟨x,λ_=>l⟩
  ·exact⟨default,λh=>absurd h f⟩
 obtain⟨g,hg⟩:∃g:Nat→α,∀i,i<len→∀j,j<m→w.cell? (a.add (i*m+j))=(cs (g i))[j]?:=⟨λi=>Classical.choose (e i),λi=>Classical.choose_spec (e i)⟩;refine⟨g,some a,cap,rfl,λi f=>?_⟩;have l:=hg i f;show ∃b o,some a=some ⟨b,o,none⟩∧b<w.heap.size∧AT w.heap[b]? (o+i*m) m=some (cs (g i)).toArray;generalize g i=x at l;have n:∀k v,w.cell? (a.add k)=some v→a.block<w.heap.size∧∀b o,a=⟨b,o,none⟩→As w.heap[b]? (o+k)=some v:=by
  intro k v p;unfold World.cell? at p;have q:(a.add k).block=a.block:=by unfold Addr.add;split<;>rfl
  rw[q] at p;cases r:w.heap[a.block]? with
  | none=>rw[r] at p;simp at p
  | some o =>
   refine⟨Aa r,?_⟩;rintro b s rfl;rw[r] at p;dsimp only at p r ⊢;rw[r];have t:(⟨b,s,none⟩:Addr).add k=⟨b,s+k,none⟩:=by unfold Addr.add;split<;>simp_all
   rw[t] at p;cases o<;>first|(simp at p;done)|skip
   simpa [As] using p
 have u:=d x;have z:=l 0 c;have A:(cs x)[0]?=some ((cs x)[0]'O):=rI O;rw[A] at z;obtain⟨B,C,D⟩:=a;have E:D=none:=by
  cases D with
  | none=>rfl
  | some y =>
   exfalso;by_cases F:i*m=0
   ·rw[F] at z;simp [Addr.add,World.cell?] at z;split at z<;>simp at z
   ·have G:=h 0 O;obtain⟨I,G⟩:=G;have G:=G 0 c;have J:=d I;have K:(cs I)[0]?=some ((cs I)[0]'O):=rI O;rw[K] at G;simp [Addr.add,World.cell?] at G;split at G<;>simp at G
 subst E;refine⟨B,C,rfl,(n _ _ z).1,Cz u c λj L=>?_⟩;have M:=l j L;have N:(cs x)[j]?=some ((cs x)[j]'O):=rI O;rw[N] at M ⊢;have:=(n _ _ M).2 _ _ rfl;rw[Nat.add_assoc];exact this
end
end Lyc
namespace Lyc
open Go
section
variable {P:Program}
attribute [go_sem] Int.cast_ofNat_Int beq_self_eq_true Bool.false_and Bool.true_and Bool.and_false Bool.and_true Bool.false_or Bool.true_or Bool.or_false Bool.or_true Bool.not_not
theorem E1(a n:Int)(h:0<n):-n<a.tmod n∧a.tmod n<n:=⟨Int.lt_tmod_of_pos _ h,Int.tmod_lt_of_pos _ h⟩
theorem PO{t:TypeId}(h:Ae P t=some 3):P.underlying t=some .string:=by
 unfold Ae at h;cases a:P.underlying t with
 | none=>rw[a] at h;simp at h
 | some d=>rw[a] at h;cases d<;>simp at h;rfl
theorem Pc(t a:TypeId)(s:ByteArray)(k:IntKind)(i:Int)(h:Ae P t=some 3)(b:0≤i)(c:i≤s.size):PureRun P (.slice t (.const (.string s)) none (some (.const (.int k i))) none) a (.string (s.extract 0 i.toNat)):=by
 refine⟨λρ d w=>?_⟩;simp [execOp,Ap,d.1,Instr.sliceAt,Instr.slice,Instr.sliceBounds,Instr.sliceBound,asIntOf,run_underlying (PO h),b,c]
theorem LL(t a:TypeId)(s:ByteArray)(k:IntKind)(i:Int)(h:Ae P t=some 3)(b:0≤i)(c:i≤s.size):PureRun P (.slice t (.const (.string s)) (some (.const (.int k i))) none none) a (.string (s.extract i.toNat s.size)):=by
 refine⟨λρ d w=>?_⟩;simp [execOp,Ap,d.1,Instr.sliceAt,Instr.slice,Instr.sliceBounds,Instr.sliceBound,asIntOf,run_underlying (PO h),b,c]
def slo(o cap l n:Nat):Nat:=if cap=l then o else o+l*n
theorem Dx{t:TypeId}{n:Nat}(h:AM P t=some n):∃e,P.underlying t=some (.slice e)∧Ak P e=some n:=by
 unfold AM at h;cases a:P.underlying t with
 | none=>rw[a] at h;simp at h
 | some d=>rw[a] at h;cases d<;>simp at h;exact⟨_,rfl,h⟩
theorem HE(b o cap l n:Nat):(if cap=l then some (⟨b,o,none⟩:Addr) else some ((⟨b,o,none⟩:Addr).add (l*n)))=some ⟨b,slo o cap l n,none⟩:=by
 unfold slo;split
 ·rfl
 ·rw[CF]
theorem jq(t c:TypeId)(a:Option Addr)(len cap n:Nat)(k:IntKind)(i:Int)(h:AM P t=some n)(d:0≤i)(f:i≤cap):PureRun P (.slice t (.const (.slice a len cap)) none (some (.const (.int k i))) none) c (.slice a i.toNat cap):=by
 obtain⟨e,g,j⟩:=Dx h;refine⟨λρ l w=>?_⟩;cases a with
 | none=>simp [execOp,Ap,l.1,Instr.sliceAt,Instr.slice,Instr.sliceBounds,Instr.sliceBound,asIntOf,run_underlying g,Bw j,d,f]
 | some a =>
  obtain⟨b,o,m⟩:=a;simp [execOp,Ap,l.1,Instr.sliceAt,Instr.slice,Instr.sliceBounds,Instr.sliceBound,asIntOf,run_underlying g,Bw j,d,f,Addr.add]
theorem Pq(t a:TypeId)(b o len cap n:Nat)(k:IntKind)(i:Int)(h:AM P t=some n)(c:0≤i)(d:i≤len):PureRun P (.slice t (.const (.slice (some ⟨b,o,none⟩) len cap)) (some (.const (.int k i))) none none) a (.slice (some ⟨b,slo o cap i.toNat n,none⟩) (len-i.toNat) (cap-i.toNat)):=by
 obtain⟨e,f,g⟩:=Dx h;refine⟨λρ j w=>?_⟩;simp [execOp,Ap,j.1,Instr.sliceAt,Instr.slice,Instr.sliceBounds,Instr.sliceBound,asIntOf,run_underlying f,Bw g,c,d,HE]
theorem NQ(t a:TypeId)(b o len cap n:Nat)(k k':IntKind)(i j:Int)(h:AM P t=some n)(c:0≤i)(d:i≤j)(f:j≤cap):PureRun P (.slice t (.const (.slice (some ⟨b,o,none⟩) len cap)) (some (.const (.int k i))) (some (.const (.int k' j))) none) a (.slice (some ⟨b,slo o cap i.toNat n,none⟩) (j.toNat-i.toNat) (cap-i.toNat)):=by
 obtain⟨e,g,l⟩:=Dx h;refine⟨λρ m w=>?_⟩;have p:0≤j:=O;have q:i≤(j.toNat:Int):=O;simp [execOp,Ap,m.1,Instr.sliceAt,Instr.slice,Instr.sliceBounds,Instr.sliceBound,asIntOf,run_underlying g,Bw l,c,f,p,q,HE];intro r;exact absurd r O
@[go_sem] theorem om(t a:TypeId)(s:ByteArray)(k:IntKind)(i:Int)(K:rD)(w:World)(h:Ae P t=some 3)(b:0≤i)(c:i≤s.size):OpX P (.slice t (.const (.string s)) none (some (.const (.int k i))) none) a K w=K (.string (s.extract 0 i.toNat)) w:=(Pc t a s k i h b c).op K w
@[go_sem] theorem pj(t a:TypeId)(s:ByteArray)(k:IntKind)(i:Int)(K:Value→Prop)(h:Ae P t=some 3)(b:0≤i)(c:i≤s.size):PurX P (.slice t (.const (.string s)) none (some (.const (.int k i))) none) a K ()=K (.string (s.extract 0 i.toNat)):=(Pc t a s k i h b c).pur K
@[go_sem] theorem lE(t a:TypeId)(s:ByteArray)(k:IntKind)(i:Int)(K:rD)(w:World)(h:Ae P t=some 3)(b:0≤i)(c:i≤s.size):OpX P (.slice t (.const (.string s)) (some (.const (.int k i))) none none) a K w=K (.string (s.extract i.toNat s.size)) w:=(LL t a s k i h b c).op K w
@[go_sem] theorem ma(t a:TypeId)(s:ByteArray)(k:IntKind)(i:Int)(K:Value→Prop)(h:Ae P t=some 3)(b:0≤i)(c:i≤s.size):PurX P (.slice t (.const (.string s)) (some (.const (.int k i))) none none) a K ()=K (.string (s.extract i.toNat s.size)):=(LL t a s k i h b c).pur K
@[go_sem] theorem oT(t b:TypeId)(a:Option Addr)(len cap:Nat)(k:IntKind)(i:Int)(K:Value→Prop)(c:0≤i)(d:i≤cap):PurX P (.slice t (.const (.slice a len cap)) none (some (.const (.int k i))) none) b K ()=OrK (AM P t) (λ_=>K (.slice a i.toNat cap)) (PurX P (.slice t (.const (.slice a len cap)) none (some (.const (.int k i))) none) b K ()) ():=
 AK (λq h=>(jq t b a len cap q k i h c d).pur K) rfl
@[go_sem] theorem qG(t a:TypeId)(b o len cap:Nat)(k:IntKind)(i:Int)(K:rD)(w:World)(c:0≤i)(d:i≤len):OpX P (.slice t (.const (.slice (some ⟨b,o,none⟩) len cap)) (some (.const (.int k i))) none none) a K w=OrK (AM P t) (λn=>K (.slice (some ⟨b,slo o cap i.toNat n,none⟩) (len-i.toNat) (cap-i.toNat)) w) (OpX P (.slice t (.const (.slice (some ⟨b,o,none⟩) len cap)) (some (.const (.int k i))) none none) a K w) ():=
 AK (λq h=>(Pq t a b o len cap q k i h c d).op K w) rfl
@[go_sem] theorem oy(t a:TypeId)(b o len cap:Nat)(k:IntKind)(i:Int)(K:Value→Prop)(c:0≤i)(d:i≤len):PurX P (.slice t (.const (.slice (some ⟨b,o,none⟩) len cap)) (some (.const (.int k i))) none none) a K ()=OrK (AM P t) (λn=>K (.slice (some ⟨b,slo o cap i.toNat n,none⟩) (len-i.toNat) (cap-i.toNat))) (PurX P (.slice t (.const (.slice (some ⟨b,o,none⟩) len cap)) (some (.const (.int k i))) none none) a K ()) ():=
 AK (λq h=>(Pq t a b o len cap q k i h c d).pur K) rfl
@[go_sem] theorem mO(t a:TypeId)(b o len cap:Nat)(k k':IntKind)(i j:Int)(K:rD)(w:World)(c:0≤i)(d:i≤j)(e:j≤cap):OpX P (.slice t (.const (.slice (some ⟨b,o,none⟩) len cap)) (some (.const (.int k i))) (some (.const (.int k' j))) none) a K w=OrK (AM P t) (λn=>K (.slice (some ⟨b,slo o cap i.toNat n,none⟩) (j.toNat-i.toNat) (cap-i.toNat)) w) (OpX P (.slice t (.const (.slice (some ⟨b,o,none⟩) len cap)) (some (.const (.int k i))) (some (.const (.int k' j))) none) a K w) ():=
 AK (λq h=>(NQ t a b o len cap q k k' i j h c d e).op K w) rfl
@[go_sem] theorem pK(t a:TypeId)(b o len cap:Nat)(k k':IntKind)(i j:Int)(K:Value→Prop)(c:0≤i)(d:i≤j)(e:j≤cap):PurX P (.slice t (.const (.slice (some ⟨b,o,none⟩) len cap)) (some (.const (.int k i))) (some (.const (.int k' j))) none) a K ()=OrK (AM P t) (λn=>K (.slice (some ⟨b,slo o cap i.toNat n,none⟩) (j.toNat-i.toNat) (cap-i.toNat))) (PurX P (.slice t (.const (.slice (some ⟨b,o,none⟩) len cap)) (some (.const (.int k i))) (some (.const (.int k' j))) none) a K ()) ():=
 AK (λq h=>(NQ t a b o len cap q k k' i j h c d e).pur K) rfl
end
section
variable {P:Program}
abbrev AQ:=List (Int × Value × Nat)
def AE(a:IntKind)(l:AQ):Array MapEntry:=(l.map λx=>(⟨.int a x.1,x.2.1,x.2.2⟩:MapEntry)).toArray
def Bv:AQ→Int→Nat→Option (Nat × Value)
 | [],_,_=>none
 | x::l,k,i=>if k=x.1 then some (i,x.2.1) else Bv l k (i+1)
def BH:AQ→Int→Option Value
 | [],_=>none
 | x::l,k=>if k=x.1 then some x.2.1 else BH l k
def CK:AQ→Int→Value→Nat→AQ
 | [],k,v,c=>[(k,v,c)]
 | x::l,k,v,c=>if k=x.1 then(k,v,x.2.2)::l else x::CK l k v c
def CI:AQ→Int→AQ
 | [],_=>[]
 | x::l,k=>if k=x.1 then l else x::CI l k
theorem JP(l:AQ)(k:Int)(i:Nat):(Bv l k i).map (·.2)=BH l k:=by
 induction l generalizing i with
 | nil=>rfl
 | cons x l a=>unfold Bv BH;split<;>simp [a]
theorem UH(a b:IntKind)(l:AQ)(k:Int)(i:Nat):Instr.findNow (.int b) (.int a k) (l.map λx=>(⟨.int a x.1,x.2.1,x.2.2⟩:MapEntry)) i=some (Bv l k i):=by
 induction l generalizing i with
 | nil=>rfl
 | cons x l c =>
  simp only[List.map_cons,Instr.findNow,Instr.sameNow,Bv,if_true];by_cases h:k=x.1
  ·simp [h]
  ·have d:(k == x.1)=false:=by simpa using h
   simp [h,d,c]
theorem U3{l:AQ}{k:Int}{j n:Nat}{u:Value}(h:Bv l k j=some (n,u))(v:Value)(c:Nat):j≤n∧n-j<l.length∧CK l k v c=l.modify (n-j) λx=>(k,v,x.2.2):=by
 induction l generalizing j with
 | nil=>simp [Bv] at h
 | cons x l a =>
  unfold Bv at h;split at h
  ·rename_i b;simp at h;obtain⟨rfl,-⟩:=h;simp [CK,b]
  ·rename_i b;obtain⟨d,e,f⟩:=a h;refine⟨O,by simp;omega,?_⟩;have:n-j=(n-(j+1))+1:=O;rw[this];simp [CK,b,f]
theorem Le{l:AQ}{k:Int}{j n:Nat}{u:Value}(h:Bv l k j=some (n,u)):j≤n∧n-j<l.length∧CI l k=l.eraseIdx (n-j):=by
 induction l generalizing j with
 | nil=>simp [Bv] at h
 | cons x l a =>
  unfold Bv at h;split at h
  ·rename_i b;simp at h;obtain⟨rfl,-⟩:=h;simp [CI,b]
  ·rename_i b;obtain⟨c,d,e⟩:=a h;refine⟨O,by simp;omega,?_⟩;have:n-j=(n-(j+1))+1:=O;rw[this];simp [CI,b,e]
theorem Mb{l:AQ}{k:Int}{j:Nat}(h:Bv l k j=none)(v:Value)(c:Nat):CK l k v c=l++[(k,v,c)]∧CI l k=l:=by
 induction l generalizing j with
 | nil=>simp [CK,CI]
 | cons x l a =>
  unfold Bv at h;split at h
  ·simp at h
  ·rename_i b;simp [CK,CI,b,a h]
theorem ct{l:AQ}{k:Int}{j n:Nat}{u:Value}(h:Bv l k j=some (n,u)):∃c,l[n-j]?=some (k,u,c):=by
 induction l generalizing j with
 | nil=>simp [Bv] at h
 | cons x l a =>
  unfold Bv at h;split at h
  ·rename_i b;simp at h;obtain⟨rfl,rfl⟩:=h;exact⟨x.2.2,by simp [b]⟩
  ·obtain⟨c,d⟩:=a h;obtain⟨e,-,-⟩:=Le h;have:n-j=(n-(j+1))+1:=O;exact⟨c,by rw[this];simpa using d⟩
theorem du{α β:Type}(f:α→β)(l:List α)(n:Nat):(l.map f).eraseIdx n=(l.eraseIdx n).map f:=by
 induction l generalizing n with
 | nil=>rfl
 | cons x l a=>cases n<;>simp [a]
def Ck(P:Program)(t:TypeId):Option (IntKind × Value):=(P.underlying t).bind λ|.map k e=>(CP P k).bind λkk=>(AF P e).map λz=>(kk,z)|_=>none
theorem Gn{t:TypeId}{a:IntKind}{z:Value}(h:Ck P t=some (a,z)):∃k e,P.underlying t=some (.map k e)∧P.underlying k=some (.int a)∧AF P e=some z:=by
 unfold Ck at h;cases b:P.underlying t with
 | none=>rw[b] at h;simp at h
 | some d =>
  rw[b] at h;cases d<;>first|(rename_i k e;dsimp only at h)|skip
  all_goals first|(simp at h;done)|skip
  rename_i k e;cases c:CP P k with
  | none=>simp [c] at h
  | some f =>
  cases g:AF P e with
  | none=>simp [c,g] at h
  | some i =>
  simp [c,g] at h;obtain⟨rfl,rfl⟩:=h;unfold CP at c;cases j:P.underlying k with
  | none=>rw[j] at c;simp at c
  | some d =>
   rw[j] at c;cases d<;>simp at c;subst c;exact⟨k,e,rfl,j,g⟩
theorem Ip{k:TypeId}{a:IntKind}(h:P.underlying k=some (.int a))(b:Bool)(n:Int)(w:World):(Instr.checkKey b 10000 k (.int a n)).run P w=.ok () w:=by
 show(Instr.checkKey b (9999+1) k (.int a n)).run P w=.ok () w;unfold Instr.checkKey;simp [run_underlying h]
theorem GU{k:TypeId}{a:IntKind}(h:P.underlying k=some (.int a))(l:AQ)(n:Int)(w:World):(Instr.findKey k (.int a n) (AE a l).toList).run P w=.ok (Bv l n 0) w:=by
 unfold Instr.findKey AE;simp [run_underlying h,UH]
theorem E6{r c:Nat}{a:Array MapEntry}{w:World}(b:w.heap[r]?=some (.map a c)):(getObj r).run P w=.ok (.map a c) w:=by
 simp [getObj,Sem.run,b]
theorem H2{r c:Nat}{a:Array MapEntry}{o:Obj}{w:World}(b:w.heap[r]?=some (.map a c)):(setObj r o).run P w=.ok () (Ab w r o):=by
 simp [setObj,Sem.run,Ab,b]
theorem bM{t a:TypeId}(K:rD)(w:World):OpX P (.makeMap t none) a K w=K (.map (some w.heap.size)) (w.alloc (.map #[] 0)):=by
 exact Bc λρ b=>by simp [execOp,Ap,Instr.makeMap,newObj,Sem.run]
attribute [go_sem] bM
theorem gI{t a:TypeId}{b:IntKind}{z:Value}{r c:Nat}{l:AQ}{k:Int}{K:Value→World→Prop}{w:World}(d:Ck P t=some (b,z))(f:w.heap[r]?=some (.map (AE b l) c)):
  OpX P (.lookup t (.const (.map (some r))) (.const (.int b k)) false) a K w=K ((BH l k).getD z) w:=by
 obtain⟨g,e,h,i,j⟩:=Gn d;refine Bc λρ m=>?_;simp only[execOp,Ap,m.1,Instr.lookup];simp [run_underlying h,E6 f,Ip i,GU i,Eo j];rw[←JP l k 0];cases n:Bv l k 0<;>simp [Eo j]
def DV(l:AQ)(k:Int)(c:Nat):Nat:=if(BH l k).isSome then c else c+1
theorem put_ok{t a:TypeId}{b:IntKind}{z:Value}{r c:Nat}{l:AQ}{k:Int}{v:Value}{K:Value→World→Prop}{w:World}(d:Ck P t=some (b,z))(f:w.heap[r]?=some (.map (AE b l) c)):
  OpX P (.mapUpdate t (.const (.map (some r))) (.const (.int b k)) (.const v)) a K w=K undef (Ab w r (.map (AE b (CK l k v c)) (DV l k c))):=by
 obtain⟨g,e,h,j,m⟩:=Gn d;refine NX λρ o=>?_;simp only[execOp,Ap,o.1,Instr.mapUpdate];simp [run_underlying h,E6 f,Ip j,GU j];have p:=JP l k 0;cases q:Bv l k 0 with
 | none =>
  rw[q] at p;obtain⟨s,-⟩:=Mb q v c;simp [H2 f,DV,←p,s,AE]
 | some x =>
  obtain⟨n,u⟩:=x;rw[q] at p;obtain⟨-,y,s⟩:=U3 q v c;obtain⟨A,B⟩:=ct q;have C:((Option.map (λx=>x.key) (AE b l)[n]?).getD (.int b k))=.int b k:=by
   simp [AE] at B ⊢;simp [B]
  have D:(AE b l).modify n (λe=>{ key:=.int b k,val:=v,born:=e.born })=AE b (CK l k v c):=by
   rw[s];unfold AE;apply Array.ext';simp only[Array.toList_modify,Nat.sub_zero];apply List.ext_getElem?;intro i;simp only[List.getElem?_modify,List.getElem?_map];by_cases E:n=i<;>simp [E]<;>cases l[i]?<;>rfl
  simp [C,Instr.keyThatStays,Instr.sameBits];rw[D,H2 f];simp [DV,←p]
theorem cQ{t a:TypeId}{ts:Array TypeId}{b:IntKind}{z:Value}{r c:Nat}{l:AQ}{k:Int}{K:Value→World→Prop}{w:World}(d:Ck P t=some (b,z))(f:ts[0]?=some t)(g:w.heap[r]?=some (.map (AE b l) c)):
  OpX P (.call { callee:=.builtin .delete,args:=#[.const (.map (some r)),.const (.int b k)],argTypes:=ts }) a K w=K (.tuple #[]) (Ab w r (.map (AE b (CI l k)) c)):=by
 obtain⟨h,e,i,j,m⟩:=Gn d;refine Bc λρ o=>?_;simp only[execOp,Ap];simp [resolve,invoke,builtin,Builtin.delete_,o.1,f,run_underlying i,E6 g,Ip j,GU j];cases p:Bv l k 0 with
 | none =>
  obtain⟨-,q⟩:=Mb p .nilIface 0;simp [H2 g,q]
 | some x =>
  obtain⟨n,u⟩:=x;obtain⟨-,s,q⟩:=Le p;have v:(AE b l).eraseIdxIfInBounds n=AE b (CI l k):=by
   rw[q];unfold AE;simp only[Nat.sub_zero] at s ⊢;have y:n<((l.map λx=>(⟨.int b x.1,x.2.1,x.2.2⟩:MapEntry)).toArray).size:=by simpa using s
   simp only[Array.eraseIdxIfInBounds,y,dite_true];apply Array.ext';simp [du]
  simp [v,H2 g]
theorem dH{t a:TypeId}{ts:Array TypeId}{b:IntKind}{z:Value}{r c:Nat}{l:AQ}{K:Value→World→Prop}{w:World}(d:Ck P t=some (b,z))(f:ts[0]?=some t)(g:w.heap[r]?=some (.map (AE b l) c)):
  OpX P (.call { callee:=.builtin .len,args:=#[.const (.map (some r))],argTypes:=ts }) a K w=K (.int .i64 l.length) w:=by
 obtain⟨h,e,i,j,k⟩:=Gn d;refine Bc λρ m=>?_;simp only[execOp,Ap];simp [resolve,invoke,builtin,Builtin.len_,m.1,f,run_underlying i,E6 g,goInt,AE]
theorem jb{a:IntKind}{l b:AQ}(h:AE a l=AE a b):l=b:=by
 unfold AE at h;have h:=List.toArray_inj h
 induction l generalizing b with
 | nil=>cases b<;>simp at h ⊢
 | cons x l c =>
  cases b with
  | nil=>simp at h
  | cons y b =>
   simp only[List.map_cons,List.cons.injEq] at h;obtain⟨d,e⟩:=h;obtain⟨f,g,i⟩:=x;obtain⟨j,k,m⟩:=y;simp at d;obtain⟨rfl,rfl,rfl⟩:=d;rw[c (by rw[e]) e]
noncomputable def Du (a:IntKind) (x:Option Obj):Option (AQ × Nat):=open Classical in if h:∃p:AQ × Nat,x=some (.map (AE a p.1) p.2) then some h.choose else none
@[go_sem] theorem oR(a:IntKind)(l:AQ)(c:Nat):Du a (some (.map (AE a l) c))=some (l,c):=by
 unfold Du;have h:∃p:AQ × Nat,some (Obj.map (AE a l) c)=some (.map (AE a p.1) p.2):=⟨(l,c),rfl⟩;rw[dif_pos h];have:=h.choose_spec;generalize h.choose=p at this;simp at this;obtain⟨b,d⟩:=this;rw[jb b,d]
attribute [go_sem] Option.isSome_none Option.getD_some Option.getD_none
theorem FK{a:IntKind}{x:Option Obj}{p:AQ × Nat}(h:Du a x=some p):x=some (.map (AE a p.1) p.2):=by
 unfold Du at h;split at h
 ·rename_i b;simp at h;rw[←h];exact b.choose_spec
 ·simp at h
def C4(P:Program)(t:TypeId)(a:IntKind):Option Value:=(Ck P t).bind λp=>if p.1=a then some p.2 else none
theorem Ie{t:TypeId}{c:IntKind}{z:Value}(h:C4 P t c=some z):Ck P t=some (c,z):=by
 unfold C4 at h;cases d:Ck P t with
 | none=>rw[d] at h;simp at h
 | some p =>
  obtain⟨a,b⟩:=p;rw[d] at h;simp at h;rw[h.1,h.2]
@[go_sem] theorem nH(t a:TypeId)(b:IntKind)(r:Nat)(k:Int)(K:rD)(w:World):
  OpX P (.lookup t (.const (.map (some r))) (.const (.int b k)) false) a K w =
   OrK (C4 P t b) (λz=>OrK (Du b w.heap[r]?) (λp=>K ((BH p.1 k).getD z) w) (OpX P (.lookup t (.const (.map (some r))) (.const (.int b k)) false) a K w) ()) (OpX P (.lookup t (.const (.map (some r))) (.const (.int b k)) false) a K w) () :=
 AK (λz c=>AK (λp d=>gI (Ie c) (FK d)) rfl) rfl
@[go_sem] theorem kT(t a:TypeId)(b:IntKind)(r:Nat)(k:Int)(v:Value)(K:rD)(w:World):
  OpX P (.mapUpdate t (.const (.map (some r))) (.const (.int b k)) (.const v)) a K w =
   OrK (C4 P t b) (λ_=>OrK (Du b w.heap[r]?) (λp=>K undef (Ab w r (.map (AE b (CK p.1 k v p.2)) (DV p.1 k p.2)))) (OpX P (.mapUpdate t (.const (.map (some r))) (.const (.int b k)) (.const v)) a K w) ()) (OpX P (.mapUpdate t (.const (.map (some r))) (.const (.int b k)) (.const v)) a K w) () :=
 AK (λz c=>AK (λp d=>put_ok (Ie c) (FK d)) rfl) rfl
@[go_sem] theorem nY(t a b:TypeId)(c:IntKind)(r:Nat)(k:Int)(K:rD)(w:World):
  OpX P (.call { callee:=.builtin .delete,args:=#[.const (.map (some r)),.const (.int c k)],argTypes:=#[t,a] }) b K w =
   OrK (C4 P t c) (λ_=>OrK (Du c w.heap[r]?) (λp=>K (.tuple #[]) (Ab w r (.map (AE c (CI p.1 k)) p.2))) (OpX P (.call { callee:=.builtin .delete,args:=#[.const (.map (some r)),.const (.int c k)],argTypes:=#[t,a] }) b K w) ()) (OpX P (.call { callee:=.builtin .delete,args:=#[.const (.map (some r)),.const (.int c k)],argTypes:=#[t,a] }) b K w) () :=
 AK (λz d=>AK (λp e=>cQ (Ie d) rfl (FK e)) rfl) rfl
def F0(P:Program)(t:TypeId):Option IntKind:=(Ck P t).map (·.1)
theorem az{t:TypeId}{a:IntKind}(h:F0 P t=some a):∃z,Ck P t=some (a,z):=by
 unfold F0 at h;simp at h;exact h
@[go_sem] theorem oz(t ty:TypeId)(r:Nat)(K:rD)(w:World):
  OpX P (.call { callee:=.builtin .len,args:=#[.const (.map (some r))],argTypes:=#[t] }) ty K w =
   OrK (F0 P t) (λkk=>OrK (Du kk w.heap[r]?) (λp=>K (.int .i64 p.1.length) w) (OpX P (.call { callee:=.builtin .len,args:=#[.const (.map (some r))],argTypes:=#[t] }) ty K w) ()) (OpX P (.call { callee:=.builtin .len,args:=#[.const (.map (some r))],argTypes:=#[t] }) ty K w) () :=
 AK (λkk hk=>AK (λp hp=>by obtain⟨z,hz⟩:=az hk;exact dH hz rfl (FK hp)) rfl) rfl
end
section
variable {P:Program}
theorem F8{w w':World}{a:Option Nat}(h:w.grownBy w' a):Chg a.toList w w':=
 ⟨h.os,h.tape,h.output,h.size,λb c d=>h.block b c (by cases a<;>simp_all)⟩
def BO(P:Program)(t:TypeId):Option (TypeId × Nat × Nat):=
 (P.underlying t).bind fun
  | .slice e=>(P.info? e).bind λi=>i.zero.bind λz=>if z.cells.size=i.size∧0<i.size then some (e,i.size,i.bytes) else none
  | _=>none
theorem EA{t e:TypeId}{m a:Nat}(h:BO P t=some (e,m,a)):P.underlying t=some (.slice e)∧∃i z,P.info? e=some i∧i.zero=some z∧i.size=m∧i.bytes=a∧z.cells.size=m∧0<m:=by
 unfold BO at h;cases b:P.underlying t with
 | none=>rw[b] at h;simp at h
 | some d =>
  rw[b] at h;cases d<;>first|(rename_i c;dsimp only at h)|skip
  all_goals first|(simp at h;done)|skip
  rename_i c;cases f:P.info? c with
  | none=>simp [f] at h
  | some i =>
   cases g:i.zero with
   | none=>simp [f,g] at h
   | some z =>
    simp only[f,g,Option.bind_some] at h;split at h
    ·rename_i j;simp at h;obtain⟨rfl,rfl,rfl⟩:=h;exact⟨rfl,i,z,f,g,rfl,rfl,j.1,j.2⟩
    ·simp at h
def Bq(z:List Value):Nat→List Value
 | 0=>[]
 | n+1=>z++Bq z n
@[go_sem] theorem oE(z:List Value):Bq z 0=[]:=rfl
@[go_sem] theorem Hb(z:List Value)(n:Nat):Bq z (n+1)=z++Bq z n:=rfl
theorem Jc(z:List Value)(n:Nat):(Bq z n).length=n*z.length:=by
 induction n with
 | zero=>simp [Bq]
 | succ n a=>rw[Hb,rS,a,Nat.add_mul];omega
theorem WU(z:List Value)(n i:Nat)(h:i<n*z.length):(Bq z n)[i]?=z[i % z.length]?:=by
 induction n generalizing i with
 | zero=>omega
 | succ n a =>
  rw[Hb];by_cases b:i<z.length
  ·rw[rL b,Nat.mod_eq_of_lt b]
  ·rw[rK O,a (i-z.length) (by rw[Nat.add_mul] at h;omega)];rw[Nat.mod_eq_sub_mod (show i≥z.length by omega)]
theorem JC(z:Array Value)(n s:Nat)(a:z.size=s)(b:0<s):(Array.range (n*s)).map (λi=>z[i % z.size]!)=(Bq z.toList n).toArray:=by
 subst a;apply Array.ext_getElem?;intro i;have c:(Bq z.toList n).toArray[i]?=(Bq z.toList n)[i]?:=Z;rw[c];by_cases d:i<n*z.size
 ·have e:i % z.size<z.size:=Nat.mod_lt _ b;rw[WU _ _ _ (by rw[Array.length_toList];exact d)];simp [d,e]
 ·rw[Array.getElem?_eq_none (by simpa using d),List.getElem?_eq_none (by rw[Jc,Array.length_toList];omega)]
def tbs(P:Program)(t:TypeId):Option (TypeId × Nat × List Value):=
 (P.underlying t).bind fun
  | .slice e=>(P.info? e).bind λi=>i.zero.bind λz=>if z.cells.size=i.size∧0<i.size then some (e,i.size,z.cells.toList) else none
  | _=>none
theorem Hi{t e:TypeId}{m:Nat}{zs:List Value}(h:tbs P t=some (e,m,zs)):P.underlying t=some (.slice e)∧∃i z,P.info? e=some i∧i.zero=some z∧i.size=m∧z.cells.toList=zs∧z.cells.size=m∧0<m:=by
 unfold tbs at h;cases a:P.underlying t with
 | none=>rw[a] at h;simp at h
 | some d =>
  rw[a] at h;cases d<;>first|(rename_i b;dsimp only at h)|skip
  all_goals first|(simp at h;done)|skip
  rename_i b;cases c:P.info? b with
  | none=>simp [c] at h
  | some i =>
   cases f:i.zero with
   | none=>simp [c,f] at h
   | some z =>
    simp only[c,f,Option.bind_some] at h;split at h
    ·rename_i g;simp at h;obtain⟨rfl,rfl,rfl⟩:=h;exact⟨rfl,i,z,c,f,rfl,rfl,g.1,g.2⟩
    ·simp at h
def CA(m:Nat):Nat→Nat→List (Nat × Nat)
 | 0,_=>[]
 | n+1,o=>(o,m)::CA m n (o+m)
@[go_sem] theorem pQ(m o:Nat):CA m 0 o=[]:=rfl
@[go_sem] theorem mA(m n o:Nat):CA m (n+1) o=(o,m)::CA m n (o+m):=rfl
theorem Jh(m:Nat):∀(n o i:Nat) (x:Nat × Nat),(CA m n o)[i]?=some x→some (o+i*m,m)=some x
 | 0,o,i,x,h=>by simp [CA] at h
 | n+1,o,0,x,h=>by simpa [CA] using h
 | n+1,o,i+1,x,h=>by
  have:=Jh m n (o+m) i x (by simpa [CA] using h);rw[←this,Nat.add_mul];congr 2;omega
@[go_sem] theorem ov(t ty:TypeId)(n:Nat)(parts:List (Nat × Operand))(K:rD)(w:World)(hn:0<n)(hn2:n≤1000):
  OpX P (.buildSlice t n parts.toArray) ty K w=OrK ((tbs P t).bind λq=>if q.2.1≤1000 then(Br parts).bind λvs=>(CT (CA q.2.1 n 0) (Bq q.2.2 n).toArray vs).map λc=>(q.1,c) else none) (λr=>K (.slice (some ⟨w.heap.size,0,none⟩) n n) (w.alloc (.cells r.2 r.1))) (OpX P (.buildSlice t n parts.toArray) ty K w) ():=by
 refine AK (λr h=>?_) rfl;obtain⟨⟨e,m,zs⟩,hq,h⟩:=rP.1 h;dsimp only at h;split at h
 ·rename_i hm;obtain⟨vs,hv,h⟩:=rP.1 h;obtain⟨c,hf,rfl⟩:=Option.map_eq_some_iff.1 h;obtain⟨hu,i,z,hi,hz,hs,hzs,hzn,h0⟩:=Hi hq;subst hs;have hle:n*i.size≤1000*1000:=Nat.mul_le_mul hn2 hm;have hpos:0<n*i.size:=Nat.mul_pos hn h0;refine Bc λρ hg=>?_;have hfill:=HF (λj=>some (j*i.size,i.size)) (CA i.size n 0) (λj x hx=>by simpa using Jh _ _ _ _ _ hx) vs _ c hf;rw[←hzs,←JC z.cells n i.size hzn h0] at hfill;have hp:=Fx hg hv;have hr:=run_buildSlice (P:=P) w t e n (vs.toArray) c i z hu hi hz O O (by simpa using hfill);simp only[execOp,Ap,List.map_toArray,hp];rw[Sem.run_bind,hr];rfl
 ·simp at h
def tmk(P:Program)(t:TypeId):Option (TypeId × Nat × List Value × Nat):=(tbs P t).bind λq=>(Am P q.1).map λb=>(q.1,q.2.1,q.2.2,b)
theorem Ti{t a e:TypeId}{m b:Nat}{zs:List Value}{d f:IntKind}{l c:Int}{K:Value→World→Prop}{w:World}(g:tmk P t=some (e,m,zs,b))(j:0≤l)(k:l≤c)(n:c.toNat*m≤16777216)(o:(b:Int)*c≤281474976710656)(p:c≤9223372036854775807):
  OpX P (.makeSlice t (.const (.int d l)) (.const (.int f c))) a K w=K (.slice (some ⟨w.heap.size,0,none⟩) l.toNat c.toNat) (w.alloc (.cells (Bq zs c.toNat).toArray e)):=by
 obtain⟨⟨q,r,s⟩,u,h⟩:=rP.1 g;obtain⟨v,x,h⟩:=Option.map_eq_some_iff.1 h;simp only[Prod.mk.injEq] at h;obtain⟨rfl,rfl,rfl,rfl⟩:=h;obtain⟨y,i,z,A,B,C,D,E,F⟩:=Hi u;have G:i.bytes=v:=by
  unfold Am at x;rw[A] at x;simpa using x
 subst C;subst G;have H:=run_makeSlice (P:=P) (w:=w) t q i z y A B d f l c j k n o p;have I:madeCells z.cells (c.toNat*i.size)=(Bq s c.toNat).toArray:=by
  rw[←D,←JC z.cells c.toNat i.size E F];rfl
 rw[I] at H;refine Bc λρ J=>?_;simp [execOp,Ap,J.1,H]
theorem Iv{t a c:TypeId}{m:Nat}{b o d f g h i k:Nat}{cs:List Value}{x':Obj}{K:Value→World→Prop}{w:World}(l:AM P t=some m)(n:cs.length=min i d*m)(p:∀j u,cs[j]?=some u→As w.heap[g]? (h+j)=some u)(q:AV cs=true)(r:Ao w.heap[b]? o cs=some x'):
  OpX P (.call { callee:=.builtin .copy,args:=#[.const (.slice (some ⟨b,o,none⟩) d f),.const (.slice (some ⟨g,h,none⟩) i k)],argTypes:=#[t,a] }) c K w=K (.int .i64 (min i d:Nat)) (Ab w b x'):=by
 obtain⟨e,s,v⟩:=Dx l;have x:=run_firstCells_some (P:=P) w m (min i d) ⟨g,h,none⟩ i k cs n (λj u y=>by rw[CF,cell?_at];exact p j u y);have z:=Ik (P:=P) r q;refine Bc λρ A=>?_;have B:Nat.min i d=min i d:=rfl;simp [execOp,Ap,resolve,invoke,builtin,A.1,Builtin.copy_,run_underlying s,Bw v,Builtin.lenOf,goInt,B,x,z]
end
section
variable {P:Program} {α:Type}
attribute [go_sem] Nat.mul_one
def Bz:Option TypeId→TypeId→Bool
 | none,_=>true
 | some e,e'=>Nat.beq e e'
theorem Ib{e e':TypeId}(h:Bz (some e) e'=true):e'=e:=(Nat.eq_of_beq_eq_true h).symm
structure Sx (w:World) (e:Option TypeId) (f:α→List Value) (a:Option Addr) (l:List α):Prop where
 at_:l≠[]→∃b o c e' fr pre post,a=some ⟨b,o,none⟩∧w.heap[b]?=some (.cells c e' fr)∧Bz e e'=true∧c=(pre++l.flatMap f++post).toArray∧pre.length=o
theorem Sx.nil(w:World)(e:Option TypeId)(f:α→List Value)(a:Option Addr):Sx w e f a []:=⟨λh=>absurd rfl h⟩
theorem Sx.untag{w:World}{e:Option TypeId}{f:α→List Value}{a:Option Addr}{l:List α}(h:Sx w e f a l):Sx w none f a l:=
 ⟨λhl=>let ⟨b,o,c,e',fr,pre,post,h1,h2,_,h4⟩:=h.at_ hl;⟨b,o,c,e',fr,pre,post,h1,h2,rfl,h4⟩⟩
theorem Sx.chg{w w':World}{e:Option TypeId}{f:α→List Value}{a:Option Addr}{l:List α}{F:List Nat}(h:Sx w e f a l)(hc:Chg F w w')(hF:∀b o,a=some ⟨b,o,none⟩→l≠[]→b∉F):Sx w' e f a l:=
 ⟨λhl=>let ⟨b,o,c,e',fr,pre,post,h1,h2,h3,h4⟩:=h.at_ hl;⟨b,o,c,e',fr,pre,post,h1,hc.keep h2 (hF b o h1 hl),h3,h4⟩⟩
theorem Sx.chg0{w w':World}{e:Option TypeId}{f:α→List Value}{a:Option Addr}{l:List α}(h:Sx w e f a l)(b:Chg [] w w'):Sx w' e f a l:=h.chg b Z
theorem Sx.lt{w:World}{e:Option TypeId}{f:α→List Value}{a:Option Addr}{l:List α}(h:Sx w e f a l)(d:l≠[]){b o:Nat}(g:a=some ⟨b,o,none⟩):b<w.heap.size:=by
 obtain⟨i,j,c,k,n,p,q,r,s,_⟩:=h.at_ d;rw[g] at r;cases r;exact Aa s
theorem Sx.ne{w:World}{e:TypeId}{f:α→List Value}{a:Option Addr}{l:List α}(h:Sx w (some e) f a l){b o:Nat}(d:a=some ⟨b,o,none⟩)(g:l≠[]){i:Nat}{c:Array Value}{e':TypeId}{j:Nat × Nat}(k:w.heap[i]?=some (.cells c e' j))(n:Nat.beq e' e=false):b≠i:=by
 obtain⟨p,q,r,s,t,u,x,y,z,A,_⟩:=h.at_ g;rw[d] at y;cases y;rintro rfl;rw[k] at z;cases z;rw[Ib A] at n;simp at n
theorem Iu{f:α→List Value}{m:Nat}(a:∀x,(f x).length=m):∀(l:List α) (i:Nat) (x:α),l[i]?=some x→∃b c,l.flatMap f=b++f x++c∧b.length=i*m
 | [],i,x,h=>by simp at h
 | y::l,0,x,h=>by simp at h;subst h;exact⟨[],l.flatMap f,Z,Z⟩
 | y::l,i+1,x,h=>by
  obtain⟨b,c,d,g⟩:=Iu a l i x (by simpa using h);exact⟨f y++b,c,by simp [d],by rw[rS,a,g,Nat.add_mul];omega⟩
theorem AH{f:α→List Value}{m:Nat}(a:∀x,(f x).length=m)(l:List α):(l.flatMap f).length=l.length*m:=by
 induction l with
 | nil=>simp
 | cons x l b=>simp [a,b,Nat.add_mul];omega
theorem J3(pre xs post:List Value)(e:TypeId)(a:Nat × Nat)(o n:Nat)(b:pre.length=o)(c:xs.length=n):AT (some (.cells (pre++xs++post).toArray e a)) o n=some xs.toArray:=by
 subst b;subst c;rw[Fe,rG Z];simp [List.extract_toArray]
theorem CQ{x:Option Obj}{o n:Nat}{c:Array Value}(h:AT x o n=some c)(j:Nat)(a:j<n):As x (o+j)=c[j]?:=by
 cases x with
 | none=>simp [AT] at h
 | some x =>
  cases x with
  | cells b e d =>
   rw[Fe] at h;split at h
   ·rename_i g;cases h;rw[Cp,Array.getElem?_extract_of_lt O];simp [show o+j<b.size by omega]
   ·simp at h
  | _=>simp [AT] at h
theorem Sx.get{w:World}{e:Option TypeId}{f:α→List Value}{a:Option Addr}{l:List α}{m:Nat}(h:Sx w e f a l)(d:∀x,(f x).length=m){i:Nat}{x:α}(g:l[i]?=some x):
  ∃b o,a=some ⟨b,o,none⟩∧b<w.heap.size∧AT w.heap[b]? (o+i*m) m=some (f x).toArray:=by
 have j:l≠[]:=by rintro rfl;simp at g
 obtain⟨b,o,c,k,n,r,s,t,u,y,z,A⟩:=h.at_ j;refine⟨b,o,t,Aa u,?_⟩;obtain⟨p,q,B,C⟩:=Iu d l i x g;rw[u,z,B];have:r++(p++f x++q)++s=(r++p)++f x++(q++s):=Z;rw[this];exact J3 _ _ _ _ _ _ _ (by simp [A,C]) (d x)
theorem Sx.get1{w:World}{e:Option TypeId}{f:α→List Value}{g:α→Value}{a:Option Addr}{l:List α}(h:Sx w e f a l)(c:∀x,f x=[g x]){i:Nat}{x:α}(d:l[i]?=some x):
  ∃b o,a=some ⟨b,o,none⟩∧b<w.heap.size∧As w.heap[b]? (o+i)=some (g x):=by
 obtain⟨b,o,j,k,n⟩:=h.get (m:=1) (λx=>by simp [c]) d;refine⟨b,o,j,k,?_⟩;have:=CQ n 0 O;simp only[Nat.mul_one,Nat.add_zero] at this;rw[this,c];rfl
theorem Sx.sub{w:World}{e:Option TypeId}{f:α→List Value}{b o:Nat}{l:List α}{m:Nat}(h:Sx w e f (some ⟨b,o,none⟩) l)(hf:∀x,(f x).length=m)(i n:Nat)(a:Option Addr)(ha:n=0∨l.length≤i∨a=some ⟨b,o+i*m,none⟩):Sx w e f a ((l.drop i).take n):=by
 refine⟨λhl=>?_⟩;have hi:i<l.length∧n≠0:=by
  constructor
  ·apply Nat.lt_of_not_le;intro hle;apply hl;rw[List.drop_eq_nil_of_le hle];simp
  ·rintro rfl;simp at hl
 have ha:a=some ⟨b,o+i*m,none⟩:=by rcases ha with h|h|h<;>first|exact h|omega
 subst ha;have hl':l≠[]:=by rintro rfl;simp at hi
 obtain⟨b',o',c,e',fr,pre,post,h1,h2,h3,h4,h5⟩:=h.at_ hl';cases h1;refine⟨b,o+i*m,c,e',fr,pre++(l.take i).flatMap f,((l.drop i).drop n).flatMap f++post,rfl,h2,h3,?_,?_⟩
 ·rw[h4];congr 1;have e1:l.flatMap f=(l.take i).flatMap f++((l.drop i).take n).flatMap f++((l.drop i).drop n).flatMap f:=by
   rw[←List.flatMap_append,←List.flatMap_append,rJ,List.take_append_drop,List.take_append_drop]
  rw[e1];simp
 ·simp only[rS,h5,AH hf,List.length_take];rw[Nat.min_eq_left O]
theorem Sx.cell{w:World}{e:Option TypeId}{f:α→List Value}{b o:Nat}{l:List α}(h:Sx w e f (some ⟨b,o,none⟩) l):∀j u,(l.flatMap f)[j]?=some u→As w.heap[b]? (o+j)=some u:=by
 intro j u a;have d:l≠[]:=by rintro rfl;simp at a
 obtain⟨g,i,c,k,n,p,q,r,s,t,x,y⟩:=h.at_ d;cases r;rw[s,x,Cp];have z:=(rO.1 a).1;rw[List.getElem?_toArray,rJ,rK O,rL O];rw[←a];congr 1;omega
def Ox(base:Nat)(w:World)(e:TypeId)(m:Nat)(f:α→List Value)(v:Value)(l:List α):Prop:=w.ownsRow base e m v l.length (l.flatMap f)
section
variable {base:Nat} {w w':World} {e:TypeId} {m:Nat} {f:α→List Value} {v:Value} {l:List α}
theorem Ox.nil(base:Nat)(w:World)(e:TypeId)(m:Nat)(f:α→List Value):Ox base w e m f (.slice none 0 0) []:=World.ownsRow_nil w base e m
theorem Ox.form(h:Ox base w e m f v l):∃a c,v=.slice a l.length c∧l.length≤c∧Sx w (some e) f a l∧(∀b,some b=v.ownBlock→base≤b∧b<w.heap.size)∧(l≠[]→∃g,a=some ⟨g,0,none⟩∧base≤g∧g<w.heap.size):=by
 have d:∀b,some b=v.ownBlock→base≤b∧b<w.heap.size:=λb i=>h.lt b i.symm;obtain⟨j,h⟩:=h;rcases h with ⟨rfl,k⟩|⟨g,c,n,rfl,i,o,p,q,r,s⟩
 ·have:l=[]:=rQ k;subst this;exact⟨none,0,rfl,rH _,Sx.nil ..,by simp [Value.ownBlock],Z⟩
 ·refine⟨some ⟨g,0,none⟩,c,rfl,p,⟨λ_=>⟨g,0,n,e,(0,0),[],n.toList.drop (l.length*m),rfl,o,by simp [Bz],?_,rfl⟩⟩,d,λ_=>⟨g,rfl,i,Aa o⟩⟩;rw[←s];simp
theorem Ox.blk(h:Ox base w e m f v l)(a:l≠[]):∃b c d,v=.slice (some ⟨b,0,none⟩) l.length c∧l.length≤c∧base≤b∧w.heap[b]?=some (.cells (l.flatMap f++d).toArray e):=by
 obtain⟨i,h⟩:=h;rcases h with ⟨rfl,j⟩|⟨g,c,k,rfl,n,o,p,q,r,s⟩
 ·exact absurd (rQ j) a
 ·refine⟨g,c,k.toList.drop (l.length*m),rfl,p,n,?_⟩;rw[o,←s];simp
theorem Ox.chg{F:List Nat}(h:Ox base w e m f v l)(a:Chg F w w')(c:∀b,some b=v.ownBlock→b∉F):Ox base w' e m f v l:=by
 obtain⟨d,h⟩:=h;refine⟨d,?_⟩;rcases h with h|⟨g,i,j,rfl,k,n,o,p,q,r⟩
 ·exact .inl h
 ·exact .inr ⟨g,i,j,rfl,k,a.keep n (c g rfl),o,p,q,r⟩
theorem Ox.off(h:Ox base w e m f v l){t:Nat}{c:Array Value}{e':TypeId}{a:Nat × Nat}(b:w.heap[t]?=some (.cells c e' a))(d:Nat.beq e' e=false):v.ownBlock≠some t:=by
 obtain⟨i,j⟩:=h;rcases j with ⟨k,-⟩|⟨g,n,o,k,-,p,-⟩
 ·rw[k];simp [Value.ownBlock]
 ·rw[k];simp only[Value.ownBlock,ne_eq,Option.some.injEq];rintro rfl;rw[b] at p;simp only[Option.some.injEq,Obj.cells.injEq] at p;rw[p.2.1,Nat.beq_refl] at d;simp at d
theorem Ox.own_ge(h:Ox base w e m f v l):∀x∈v.ownBlock.toList,base≤x:=by
 obtain⟨a,b,c,-,-,d,-⟩:=h.form;intro x g;exact(d x (by cases i:v.ownBlock with|none=>rw[i] at g;simp at g|some y=>rw[i] at g;simp at g;rw[g])).1
theorem Ox.chg0(h:Ox base w e m f v l)(a:Chg [] w w'):Ox base w' e m f v l:=h.chg a Z
theorem Ox.low{F:List Nat}(h:Ox base w e m f v l)(a:Chg F w w')(c:∀x∈F,x<base):Ox base w' e m f v l:=
 h.chg a λb d g=>absurd (c b g) (by have:=h.lt b d.symm;omega)
theorem Ox.base_le(h:Ox base w e m f v l){a:Nat}(b:a≤base):Ox a w e m f v l:=by
 obtain⟨c,h⟩:=h;refine⟨c,?_⟩;rcases h with h|⟨g,d,i,j,k,n⟩
 ·exact .inl h
 ·exact .inr ⟨g,d,i,j,O,n⟩
theorem C2{w0:World}{F:List Nat}(h:Ox w0.heap.size w e m f v l)(a:Chg F w0 w)(b:Chg v.ownBlock.toList w w'):Chg F w0 w':=
 a.trans b λx c=>.inr (h.lt x (by cases d:v.ownBlock<;>simp_all)).1
theorem Ff{w0:World}{F:List Nat}{a:Nat}(h:Ox a w e m f v l)(b:w0.heap.size≤a)(c:Chg F w0 w)(d:Chg v.ownBlock.toList w w'):Chg F w0 w':=
 C2 (h.base_le b) c d
end
theorem C7{f:α→List Value}(a:∀x,AV (f x)=true)(l:List α):AV (l.flatMap f)=true:=by
 induction l with
 | nil=>rfl
 | cons x l b=>rw[List.flatMap_cons];simp only[AV,List.all_append,Bool.and_eq_true];exact⟨a x,b⟩
theorem Bd{t d e:TypeId}{m n base:Nat}{f:α→List Value}{v:Value}{l l2:List α}{a:Option Addr}{k c:Nat}{e':Option TypeId}{K:Value→World→Prop}{w:World}(p:BO P t=some (e,m,n))(q:∀x,(f x).length=m)(r:∀x,AV (f x)=true)(h:Ox base w e m f v l)(s:Sx w e' f a l2)(y:k=l2.length)(A:l.length+l2.length≤1000000000)(B:n≤100000)(C:base≤w.heap.size)(D:∀E w',Ox base w' e m f E (l++l2)→Chg v.ownBlock.toList w w'→(E.ownBlock=v.ownBlock∨E.ownBlock=some w.heap.size)→K E w'):
  OpX P (.call { callee:=.builtin .append,args:=#[.const v,.const (.slice a k c)],argTypes:=#[t,t] }) d K w:=by
 subst y;have F:(1000000000:Nat)≤maxLen:=by simp [maxLen]
 by_cases G:l2=[]
 ·subst G;rw[List.append_nil] at D;cases a with
  | some a =>
   obtain⟨H,i,z,I,J,L,M,N,Q⟩:=EA p;have R:=run_append_own_at (P:=P) w base t d e i z m n H I J L M N Q v l.length _ h a 0 c [] Z Z Z O (by
    have:=Nat.mul_le_mul (show l.length+0≤1000000000 by simp at A;omega) B;omega) C
   obtain⟨E,w',R,S,T,_,U⟩:=R;rw[Bc (v:=E) (w':=w') λρ V=>by simp [execOp,Ap,resolve,invoke,builtin,V.1,R]];exact D _ _ (by unfold Ox;rw[List.append_nil] at S;exact S) (F8 T) U
  | none =>
   obtain⟨H,i,z,I,J,L,M,N,Q⟩:=EA p;have R:(Builtin.append_ #[t,t] d #[v,.slice none 0 c]).run P w=.ok v w:=by
    rcases h.2 with ⟨rfl,W⟩|⟨g,X,Y,rfl,y,V,W,F,hs'',htk⟩
    ·have:l=[]:=rQ W;subst this;simp [Builtin.append_,run_underlying H,Go.sizeOf,typeInfo,I,Builtin.lenOf,Builtin.firstCells]
    ·have X:∀a:Addr,(storeCells a []).run P w=.ok () w:=λa=>by simp [storeCells]
     simp [Builtin.append_,run_underlying H,Go.sizeOf,typeInfo,I,Builtin.lenOf,Builtin.firstCells,W,X]
   rw[Bc (v:=v) (w':=w) λρ V=>by simp [execOp,Ap,resolve,invoke,builtin,V.1,R]];exact D _ _ h (sg _ _) (.inl rfl)
 ·obtain⟨b,o,Y,y,F,W,X,h1,S,T,U,h5⟩:=s.at_ G;subst h1;obtain⟨H,i,z,I,J,L,M,N,Q⟩:=EA p;have p:∀j u,(l2.flatMap f)[j]?=some u→w.cell? ((⟨b,o,none⟩:Addr).add j)=some u:=by
   intro j u s;rw[CF,cell?_at,S,U,Cp];have G:=(rO.1 s).1;rw[List.getElem?_toArray,rJ,rK O,rL O];rw[←s];congr 1;omega
  obtain⟨E,w',R,T,Y,_,y⟩:=run_append_own_at (P:=P) w base t d e i z m n H I J L M N Q v l.length _ h ⟨b,o,none⟩ l2.length c (l2.flatMap f) (AH q l2) p (λu H=>List.all_eq_true.1 (C7 r l2) u H) O (Nat.le_trans (Nat.mul_le_mul A B) O) C;rw[Bc (v:=E) (w':=w') λρ V=>by simp [execOp,Ap,resolve,invoke,builtin,V.1,R]];refine D E w' ?_ (F8 Y) y;unfold Ox;rw[List.flatMap_append,rS];exact T
theorem Sx.built{w:World}{e:TypeId}{f:α→List Value}{l:List α}{c:List Value}{b:Nat}(h:w.heap[b]?=some (.cells c.toArray e))(a:c=l.flatMap f):Sx w (some e) f (some ⟨b,0,none⟩) l:=
 ⟨λ_=>⟨b,0,_,e,(0,0),[],[],rfl,h,by simp [Bz],by simp [a],rfl⟩⟩
theorem Ox.built{w:World}{base:Nat}{e:TypeId}{m:Nat}{f:α→List Value}{l:List α}{c:List Value}{b n cap:Nat}(h:w.heap[b]?=some (.cells c.toArray e (0,0)))(a:∀x,(f x).length=m)(d:base≤b)(g:n=l.length)(i:cap=n)(j:n≤1000000000)(k:c=l.flatMap f):Ox base w e m f (.slice (some ⟨b,0,none⟩) n cap) l:=by
 subst g;subst i;subst k;have o:(1000000000:Nat)≤maxLen:=by simp [maxLen]
 exact⟨AH a l,.inr ⟨b,l.length,_,rfl,d,h,rH _,O,by simp [AH a],List.take_of_length_le (by rw[AH a];exact rH _)⟩⟩
theorem Cd{β:Type}{l:List β}{k:Nat}(h:k<l.length):l.take (k+1)=l.take k++[l[k]]:=by rw[List.take_add_one,rI h];rfl
theorem jW(pre xs a post:List Value)(o:Nat)(b:pre.length=o)(c:a.length=xs.length):spl (pre++xs++post).toArray o a=(pre++a++post).toArray:=by
 subst b;unfold spl;simp [c]
theorem Cw(pre xs a post:List Value)(e:TypeId)(o:Nat)(b:pre.length=o)(c:a.length=xs.length):Ao (some (.cells (pre++xs++post).toArray e (0,0))) o a=some (.cells (pre++a++post).toArray e):=by
 rw[EX,rG (by simp;omega),jW pre xs a post o b c]
theorem Gy{f:α→List Value}{m:Nat}(a:∀x,(f x).length=m):∀(l:List α) (i:Nat) (x y:α),l[i]?=some x→∃b c,l.flatMap f=b++f x++c∧b.length=i*m∧(l.set i y).flatMap f=b++f y++c
 | [],i,x,y,h=>by simp at h
 | z::l,0,x,y,h=>by simp at h;subst h;exact⟨[],l.flatMap f,Z,Z,Z⟩
 | z::l,i+1,x,y,h=>by
  obtain⟨b,c,d,g,j⟩:=Gy a l i x y (by simpa using h);exact⟨f z++b,c,by simp [d],by rw[rS,a,g,Nat.add_mul];omega,by simp [j]⟩
theorem Ox.put{base:Nat}{w:World}{e:TypeId}{m:Nat}{f:α→List Value}{v:Value}{l:List α}(h:Ox base w e m f v l)(a:∀x,(f x).length=m){i:Nat}(b:i<l.length)(y:α):
  ∃g c d,v=.slice (some ⟨g,0,none⟩) l.length c∧base≤g∧g<w.heap.size∧Ao w.heap[g]? (i*m) (f y)=some d∧Ox base (Ab w g d) e m f v (l.set i y):=by
 obtain⟨j,h⟩:=h;rcases h with ⟨rfl,k⟩|⟨g,c,n,rfl,o,p,q,r,s,t⟩
 ·omega
 ·obtain⟨u,z,A,B,C⟩:=Gy a l i l[i] y (by simp [b]);have D:n=(u++f l[i]++(z++n.toList.drop (l.length*m))).toArray:=by
   have E:n.toList=l.flatMap f++n.toList.drop (l.length*m):=by rw[←t];simp
   apply Array.ext';rw[A] at E;simpa using E
  have F:=Cw u (f l[i]) (f y) (z++n.toList.drop (l.length*m)) e (i*m) B (by simp [a]);rw[←D] at F;refine⟨g,c,_,rfl,o,Aa p,(by rw[p];exact F),?_⟩;refine⟨by simp [AH a],.inr ⟨g,c,_,Z,o,Aw _ _ _ _ rfl (Aa p),by simpa using q,r,?_,?_⟩⟩
  ·have:=congrArg Array.size D;simp [a] at this;simp [a];omega
  ·have G:(u++f y++z).length=(l.set i y).length*m:=by rw[←C,AH a]
   show(u++f y++(z++n.toList.drop (l.length*m))).take _=_;rw[C,←rJ,List.take_append_of_le_length O,List.take_of_length_le O]
theorem Li{f:α→List Value}{z:α}{zs:List Value}(a:f z=zs)(n:Nat):Bq zs n=(List.replicate n z).flatMap f:=by
 induction n with
 | zero=>rfl
 | succ n b=>rw[Hb,List.replicate_succ,List.flatMap_cons,a,b]
theorem DJ{t a e:TypeId}{m b base:Nat}{zs:List Value}{f:α→List Value}(z:α){n:Nat}{K:Value→World→Prop}{w:World}(d:tmk P t=some (e,m,zs,b))(g:∀x,(f x).length=m)(h:f z=zs)(i:n≤100000)(j:m≤100)(k:b≤100000)(o:base≤w.heap.size)(p:∀w',w'=w.alloc (.cells (Bq zs n).toArray e)→Ox base w' e m f (.slice (some ⟨w.heap.size,0,none⟩) n n) (List.replicate n z)→K (.slice (some ⟨w.heap.size,0,none⟩) n n) w'):
  OpX P (.makeSlice t (.const (.int .i64 n)) (.const (.int .i64 n))) a K w:=by
 have q:n*m≤100000*100:=Nat.mul_le_mul i j;have r:(b:Int)*(n:Int)≤100000*100000:=by
  have:=Nat.mul_le_mul k i;rw[←Int.natCast_mul];omega
 rw[Ti d O (Int.le_refl _) (by simpa using Nat.le_trans q O) O O];simp only[Int.toNat_natCast];refine p _ rfl (Ox.built (c:=Bq zs n) (heap_alloc_new _ _ _ rfl) g o Z rfl O (Li h n))
theorem Iy{t a e:TypeId}{m b base:Nat}{zs:List Value}{f:α→List Value}{n:Int}{K:Value→World→Prop}{w:World}(c:tmk P t=some (e,m,zs,b))(d:zs.length=m)(g:0≤n)(h:n≤100000)(i:m≤100)(j:b≤100000)(o:base≤w.heap.size)(p:∀w',w'=w.alloc (.cells (Bq zs n.toNat).toArray e)→Ox base w' e m f (.slice (some ⟨w.heap.size,0,none⟩) 0 n.toNat) []→K (.slice (some ⟨w.heap.size,0,none⟩) 0 n.toNat) w'):
  OpX P (.makeSlice t (.const (.int .i64 0)) (.const (.int .i64 n))) a K w:=by
 obtain⟨k,rfl⟩:=Int.eq_ofNat_of_zero_le g;have q:k*m≤100000*100:=Nat.mul_le_mul O i;have r:(b:Int)*(k:Int)≤100000*100000:=by
  have:=Nat.mul_le_mul j (show k≤100000 by omega);rw[←Int.natCast_mul];omega
 have s:(1000000000:Nat)≤maxLen:=by simp [maxLen]
 rw[Ti c (Int.le_refl _) O (by simpa using Nat.le_trans q O) O O];exact p _ rfl (World.ownsRow_made w _ _ o (by simp;omega) (by simp [Jc,d]))
theorem TX{t d i e:TypeId}{m base:Nat}{f:α→List Value}{v:Value}{l l2:List α}{a:Option Addr}{k c:Nat}{e':Option TypeId}{K:Value→World→Prop}{w:World}(n:AM P t=some m)(p:∀x,(f x).length=m)(q:∀x,AV (f x)=true)(h:Ox base w e m f v l)(r:Sx w e' f a l2)(s:k=l2.length)(y:l2.length=l.length)(z:∀w',Ox base w' e m f v l2→Chg v.ownBlock.toList w w'→K (.int .i64 l2.length) w'):
  OpX P (.call { callee:=.builtin .copy,args:=#[.const v,.const (.slice a k c)],argTypes:=#[t,d] }) i K w:=by
 subst s;obtain⟨A,B,C⟩:=Dx n;by_cases D:l2=[]
 ·subst D;have E:l=[]:=rQ y.symm;subst E;obtain⟨F,G,rfl,_⟩:=h.form;have H:∀a:Addr,(storeCells a []).run P w=.ok () w:=λa=>by simp [storeCells]
  have I:((execOp (λ|.const v=>v|.global g=>.pointer (some ⟨g,0,none⟩)|.func f=>.func (.func f) #[] #[]|.tmp _=>undef) (Ap (.call { callee:=.builtin .copy,args:=#[.const (.slice F 0 G),.const (.slice a 0 c)],argTypes:=#[t,d] }) i)).run P w)=.ok (.value (.int .i64 0)) w:=by
   have J:∀a:Addr,(loadCells a 0).run P w=.ok #[] w:=λa=>by simp [loadCells,loadCellsFrom]
   cases a<;>cases F<;>simp [execOp,Ap,resolve,invoke,builtin,Builtin.copy_,run_underlying B,Bw C,Builtin.lenOf,goInt,Builtin.firstCells,H,J]
  rw[Bc (v:=.int .i64 0) (w':=w) λρ L=>by
   have J:∀a:Addr,(loadCells a 0).run P w=.ok #[] w:=λa=>by simp [loadCells,loadCellsFrom]
   cases a<;>cases F<;>simp [execOp,Ap,resolve,invoke,builtin,L.1,Builtin.copy_,run_underlying B,Bw C,Builtin.lenOf,goInt,Builtin.firstCells,H,J]]
  exact z w h (sg _ _)
 ·obtain⟨b,o,M,N,Q,R,S,T,U,V,W,X⟩:=r.at_ D;subst T;have Y:=h;obtain⟨s,h⟩:=h;rcases h with ⟨rfl,A⟩|⟨g,G,E,rfl,d,L,i,I,B,C⟩
  ·exact absurd (rQ O) D
  ·have F:E.toList=l.flatMap f++E.toList.drop (l.length*m):=by rw[←C];simp
   have H:=Cw [] (l.flatMap f) (l2.flatMap f) (E.toList.drop (l.length*m)) e 0 rfl (by rw[AH p,AH p,y]);rw[List.nil_append,←F] at H;have J:min l2.length l.length=l2.length:=O;rw[Iv (cs:=l2.flatMap f) (x':=_) n (by rw[AH p,J]) ?_ (C7 q l2) (by rw[L];exact H)]
   ·rw[J];refine z _ ⟨AH p l2,.inr ⟨g,G,_,by rw[y],d,Aw _ _ _ _ rfl (Aa L),O,I,?_,?_⟩⟩ ((sg _ _).set _ _ (by simp [Value.ownBlock]))
    ·have:=congrArg List.length F;simp [AH p] at this;simp [AH p,y];omega
    ·simp [AH p]
   ·intro j u r;rw[U,W,Cp];have M:=(rO.1 r).1;rw[List.getElem?_toArray,rJ,rK O,rL O];rw[←r];congr 1;omega
end
end Lyc
namespace Lyc
open Go Go.ChangeShapes Go.WideShapes Go.ChangeAt Go.RowKit Go.Deep
def CJ(n:Int):List Value:=[.int .i64 n]
theorem iD(n:Int):(CJ n).length=1:=rfl
theorem WS(n:Int):AV (CJ n)=true:=rfl
section
variable {α:Type}
theorem Sx.of_sla{w:World}{a:Option Addr}{len cap m:Nat}{f:α→List Value}{g:Nat→α}(hf:∀x,(f x).length=m)(hm:0<m)(h:SlA w (.slice a len cap) len m λi=>f (g i)):Sx w none f a ((List.range len).map g):=by
 obtain⟨a',cap',hv,h⟩:=h;rw[Value.slice.injEq] at hv;obtain⟨rfl,-,-⟩:=hv;refine⟨λhl=>?_⟩;have hlen:0<len:=by
  cases len with
  | zero=>simp at hl
  | succ n=>omega
 obtain⟨b,o,ha,hb,h0⟩:=h 0 hlen;subst ha;cases hc:w.heap[b]? with
 | none=>rw[hc] at h0;simp [AT] at h0
 | some x =>
  cases x with
  | cells c e fr =>
   have key:∀n,n≤len→(c.toList.drop o).take (n*m)=((List.range n).map g).flatMap f∧(n=0∨o+n*m≤c.size):=by
    intro n
    induction n with
    | zero=>intro _;simp
    | succ n ih =>
     intro hn;obtain⟨ih,-⟩:=ih O;obtain⟨b',o',ha',-,h1⟩:=h n O;cases ha';rw[hc,Fe] at h1;split at h1
     ·rename_i hle;have e1:(c.toList.drop (o+n*m)).take m=f (g n):=by
       have h2:=Option.some.inj h1;have h3:=congrArg Array.toList h2;simp at h3;exact h3
      refine⟨?_,.inr (by rw[Nat.add_mul];omega)⟩;rw[Nat.add_mul,Nat.one_mul,List.take_add,ih,List.drop_drop,e1,List.range_succ];simp
     ·simp at h1
   obtain⟨k1,k2⟩:=key len (rH _);have k2:o+len*m≤c.size:=by rcases k2 with h|h<;>omega
   refine⟨b,o,c,e,fr,c.toList.take o,c.toList.drop (o+len*m),rfl,hc,rfl,?_,by simp;omega⟩;apply Array.ext';rw[←k1];simp only[rJ];rw[←List.drop_drop,List.take_append_drop,List.take_append_drop]
  | _=>rw[hc] at h0;simp [AT] at h0
end
section
variable {H:Type} {enc:TypeId × Value→H} {P:Program} {w:World} {base:Nat} {held:Bool}
structure IRow where
 a:Option Addr
 cap:Nat
 zs:List Int
def IRow.f(r:IRow):List Value:=[.slice r.a r.zs.length r.cap]
end
section
variable {H:Type} {enc:TypeId × Value→H} {P:Program} {w:World} {base:Nat} {spare:Nat→Bool} {held:Bool}
theorem jc{α:Type}{t e:TypeId}{m d:Nat}{cs:List Value}{x:DataW H × List MemPlace}(f:α→List Value)(ok:α→Prop)(p:P.underlying t=some (.slice e))(q:P.cellsOf e=m)(r:0<m)(s:∀x,(f x).length=m)(u:∀(n:Nat) (cs:List Value) (y:DataW H × List MemPlace),DataW.trod enc P w base spare held n e cs=some y→∃x,cs=f x∧ok x)(h:DataW.trod enc P w base spare held d t cs=some x):
  ∃(a:Option Addr) (l:List α) (cap:Nat),cs=[.slice a l.length cap]∧Sx w none f a l∧l.length≤cap∧l.length≤maxLen∧∀x∈l,ok x:=by
 rcases open_slice p h with v|⟨a,len,cap,k,n,D,z,A,B,C,E,F,G,I⟩
 ·exact⟨none,[],0,v.1,Sx.nil _ _ _ _,Z,Z,Z⟩
 ·have J:len≤k:=by rw[F];split<;>omega
  have K:∀i,i<len→∃x,ok x∧∀j,j<m→w.cell? (a.add (i*m+j))=(f x)[j]?:=by
   intro i L;obtain⟨M,N,Q⟩:=I i O;obtain⟨x,rfl,G⟩:=u _ _ _ Q;obtain⟨_,R,S⟩:=World.cells?_some N;rw[q] at S;refine⟨x,G,λj T=>?_⟩;rw[←Go.Deep.add_add];exact S j T
  cases len with
  | zero=>exact⟨some a,[],cap,A,Sx.nil _ _ _ _,Z,Z,Z⟩
  | succ len =>
   obtain⟨U,V,-⟩:=K 0 O
   let β:={ x:α // ok x }
   letI:Inhabited β:=⟨⟨U,V⟩⟩
   obtain⟨g,W⟩:=YD (w:=w) (a:=a) (len:=len+1) (cap:=cap) (λx:β=>f x.1) r (λx=>s x.1) (λi I=>let ⟨x,G,N⟩:=K i I;⟨⟨x,G⟩,N⟩);have X:=Sx.of_sla (f:=λx:β=>f x.1) (λx=>s x.1) r W;refine⟨some a,((List.range (len+1)).map g).map Subtype.val,cap,by simpa using A,⟨λhl=>?_⟩,by simp;omega,by simp;omega,?_⟩
   ·obtain⟨b,o,c,Y,d,p,v,z,B,C,E,F⟩:=X.at_ (by simp [List.range_succ]);exact⟨b,o,c,Y,d,p,v,z,B,C,by rw[E];simp only[List.flatMap_map],F⟩
   ·intro x G;obtain⟨y,-,rfl⟩:=List.mem_map.1 G;exact y.2
theorem ib{α:Type}{b:Nat}{t e:TypeId}{v:Value}{d:DataW H}{p:List MemPlace}{m:Nat}(f:α→List Value)(ok:α→Prop)(c:P.underlying t=some (.slice e))(g:P.cellsOf e=m)(i:0<m)(j:∀x,(f x).length=m)(k:∀(n:Nat) (cs:List Value) (y:DataW H × List MemPlace),DataW.trod enc P w base spare held n e cs=some y→∃x,cs=f x∧ok x)(o:Value.okWide P w .any b t v)(h:DataW.Trod enc P w base spare held t v d p):
  ∃(a:Option Addr) (l:List α) (q:Nat),v=.slice a l.length q∧Sx w none f a l∧l.length≤q∧l.length≤maxLen∧∀x∈l,ok x:=by
 obtain⟨r,h⟩:=h;obtain⟨s,u,z,rfl⟩:=okWide_slice c o;obtain⟨a,l,q,A,B⟩:=jc f ok c g i j k h;simp only[Value.cells,List.cons.injEq,Value.slice.injEq,and_true] at A;obtain⟨rfl,rfl,rfl⟩:=A;exact⟨_,l,_,rfl,B⟩
theorem WO{k:IntKind}{t:TypeId}{a:Nat}{cs:List Value}{x:DataW H × List MemPlace}(b:P.underlying t=some (.int k))(h:DataW.trod enc P w base spare held a t cs=some x):∃n,cs=[.int k n]∧k.min≤n∧n≤k.max:=by
 obtain⟨n,c,-,d⟩:=DataW.trod_int b h;simp only[Lit.wf,Bool.and_eq_true,decide_eq_true_eq] at d;exact⟨n,c,d⟩
theorem Lm{t:TypeId}{a:Nat}{cs:List Value}{x:DataW H × List MemPlace}{b:Array Field}(c:P.underlying t=some (.struct b))(h:DataW.trod enc P w base spare held a t cs=some x)(i:Nat)(f:Field)(d:b[i]?=some f){ft off sz:Nat}(e:f.type=ft)(g:f.offset=off)(j:P.cellsOf ft=sz):
  ∃n y,DataW.trod enc P w base spare held n ft ((cs.drop off).take sz)=some y:=by
 obtain⟨k,n,-,-,-,l,m⟩:=DataW.trod_struct c h;have:=m i f d;have o:=(Array.getElem?_eq_some_iff.1 d).1;rw[rI O] at this;subst e;subst g;subst j;exact⟨n,_,this⟩
theorem Qn{l p:List Value}{o k:Nat}(h:(l.drop o).take k=p):l.drop o=p++l.drop (o+k):=by
 rw[←h,←List.drop_drop,List.take_append_drop]
end
end Lyc
namespace Lyc
open Go
def Ag(M:World→Prop)(w:WK M):Prop:=M w.drew
@[go_sem] theorem ln(M:World→Prop)(w:World):Ag M w=M w.drew:=rfl
theorem eU{P:Program}{f:FuncId}{a:Func}{K:Value→World→Prop}{w:World}(b:List Value)(d:Fy)(g:P.follows .mixedOrders=true)(i:P.funcs[f]?=some a)(j:a.body.isSome=true)(k:(wfc a.ntmps (a.body.getD .skip) && Nat.ble a.ntmps DK)=true)(l:Nat.ble b.length a.ntmps=true){X:Prop}(m:X=tr P true d (a.body.getD .skip) 0 (Kp P a.results.toList K) (HL b) w)(h:X):
  Calls P f b.toArray w (Ac K):=by
 cases n:a.body with
 | none=>rw[n] at j;simp at j
 | some c =>
  have e:a.body.getD .skip=c:=by rw[n];rfl
  rw[e] at k m;simp only[Bool.and_eq_true] at k;exact eA g i n k.1 (Nat.le_of_ble_eq_true k.2) (Nat.le_of_ble_eq_true l) (m ▸ h)
end Lyc
namespace Go.Proofs.YtnpkidnbhlepkaaGreat
open Lyc Go Go.Proofs.Tryz
theorem mixed:prog.follows .mixedOrders=true:=by kernel_rfl
@[go_sem] def xH (a:Value) (k:rD) (w:WK k):Prop:=OpX Tryz.prog (.nilCheck (.const a)) 0 k w
@[go_sem] def xM (a:Value) (k:rD) (w:WK k):Prop:=PurX Tryz.prog (.nilCheck (.const a)) 0 (fun v=>k v w) ()
@[go_sem] def xQ (op:Op) (t:TypeId) (k:rD) (w:WK k):Prop:=OpX Tryz.prog op t k w
@[go_sem] def xV (a b:Value) (s u t:TypeId) (k:rD) (w:WK k):Prop:=OpX Tryz.prog (.call { callee:=.builtin .append,args:=#[.const a,.const b],argTypes:=#[s,u] }) t k w
@[go_sem] def xL(t:TypeId)(a:Value)(k:Value→World→Prop)(w:WK k):Prop:=OpX prog (.load t (.const a)) t k w
@[go_sem] def xS(t:TypeId)(a b:Value)(r:World→Prop)(w:WK r):Prop:=OpX prog (.store t (.const a) (.const b)) 0 (λ_=>r) w
@[go_sem] def xF(t:TypeId)(a:Value)(i:Nat)(k:Value→World→Prop)(w:WK k):Prop:=OpX prog (.fieldAddr t (.const a) i) 0 k w
@[go_sem] def xI(t:TypeId)(a b:Value)(k:Value→World→Prop)(w:WK k):Prop:=OpX prog (.indexAddr t (.const a) (.const b)) 0 k w
@[go_sem] def xB(t:TypeId)(a:Value)(k:Value→World→Prop)(w:WK k):Prop:=OpX prog (.box t (.const a)) 0 k w
@[go_sem] def xA(t:TypeId)(k:Value→World→Prop)(w:WK k):Prop:=OpX prog (.alloc t) 0 k w
@[go_sem] def xE(a:Value)(i:Nat)(t:TypeId)(k:Value→World→Prop)(w:WK k):Prop:=OpX prog (.extract (.const a) i) t k w
@[go_sem] def xN(t:TypeId)(a:Value)(k:Value→World→Prop)(w:WK k):Prop:=OpX prog (.unOp .not t (.const a)) t k w
@[go_sem] def xC(f:FuncId)(l:List Operand)(ts:List TypeId)(t:TypeId)(k:Value→World→Prop)(w:WK k):Prop:=OpX prog (.call { callee:=.value (.func f),args:=l.toArray,argTypes:=ts.toArray }) t k w
@[go_sem] def xU(a:Value)(t:TypeId)(k:Value→World→Prop)(w:WK k):Prop:=OpX prog (.call { callee:=.builtin .len,args:=#[.const a],argTypes:=#[t] }) 3 k w
@[go_sem] def xO(c:BinOp)(t:TypeId)(a b:Value)(k:Value→World→Prop)(w:WK k):Prop:=BinX prog c t a b k w
@[go_sem] def xK(b:BinOp)(t:TypeId)(a:Value)(k:Value→World→Prop)(w:WK k):Prop:=BinN prog b t a k w
@[go_sem] def xW(v:Value)(A B:World→Prop)(w:WK2 A B):Prop:=BrW v (A w) (B w) ()
@[go_sem] def qP(c:BinOp)(t:TypeId)(a b:Value)(k:Value→World→Prop)(w:WK k):Prop:=PurB prog c t a b (λv=>k v w) ()
@[go_sem] def qR(c:BinOp)(t:TypeId)(a b:Value)(k:Value→World→Prop)(w:WK k):Prop:=RdB prog c t a b (λv=>k v w) w
@[go_sem] def qL(t:TypeId)(a:Value)(k:Value→World→Prop)(w:WK k):Prop:=RdX prog (.load t (.const a)) t (λv=>k v w) w
@[go_sem] def qZ(t:TypeId)(a v:Value)(w:World):Prop:=Yld prog (.load t (.const a)) t v w
@[go_sem] def qF(t:TypeId)(a:Value)(i:Nat)(k:Value→World→Prop)(w:WK k):Prop:=PurX prog (.fieldAddr t (.const a) i) 0 (λv=>k v w) ()
@[go_sem] def xP(a:Op)(t:TypeId)(k:Value→World→Prop)(w:WK k):Prop:=PurX prog a t (λv=>k v w) ()
@[go_sem] def xR(a:Op)(t:TypeId)(k:Value→World→Prop)(w:WK k):Prop:=RdX prog a t (λv=>k v w) w
@[go_sem] def xT(A B:World→Prop)(w:WK2 A B):Prop:=A w∧B w
@[go_sem] def xD(t:TypeId)(a:Value)(k:Value→World→Prop)(w:WK k):Prop:=LdR prog t a k w
abbrev Lk(n:FuncId)(a:Array Value)(f:(Value→World→Prop)→World→Prop):Prop:=
 ∀{R:Value→World→Prop} {w:World},(∀K:Value→World→Prop,(∀v b,R v b→K v b)→f K w)→Calls prog n a w (Ac R)
theorem lk{n:FuncId}{a:Func}{f:(Value→World→Prop)→World→Prop}(b:List Value)(c:Fy)(d:prog.funcs[n]?=some a)(e:(a.body.isSome && (wfc a.ntmps (a.body.getD .skip) && Nat.ble a.ntmps DK) && Nat.ble b.length a.ntmps)=true:=by kernel_rfl)(g:∀(K:rD) (w:World),f K w=tr prog true c (a.body.getD .skip) 0 (Kp prog a.results.toList K) (HL b) w:=by intro _ _;kernel_rfl):Lk n b.toArray f:=by
 intro R w h;rw[Bool.and_eq_true,Bool.and_eq_true] at e;exact eU b c mixed d e.1.1 e.1.2 e.2 (g R w) (h R λ_ _ h=>h)
theorem bd{n:FuncId}{a:Func}(b:prog.funcs[n]?=some a)(c:(a.body.isNone || a.name == "runtime.NumGoroutine")=false:=by kernel_rfl):Ad prog n:=by
 rw[Bool.or_eq_false_iff] at c;exact⟨a,b,c.1,c.2⟩
end Go.Proofs.YtnpkidnbhlepkaaGreat
namespace Lyc
theorem sn{p q:Prop}(k:q)(h:p=q:=by simp -dsimp (disch:=first|omega|(simp only[go_sem,seval];try omega))only[go_sem,seval];exact rfl):p:=h▸k
theorem so{p:Prop}(h:p:=by simp -dsimp (disch:=first|omega|(simp only[go_sem,seval];try omega))only[go_sem,seval]):p:=h
theorem sq{a:Prop}(b:a){p q:Prop}(k:q)(h:a→p=q:=by intro b;simp -dsimp (disch:=first|omega|(simp only[go_sem,seval];try omega))only[go_sem,seval,b];exact rfl):p:=h b▸k
theorem LC1{a:Prop}(b:a){p:Prop}(h:a→p:=by intro b;simp -dsimp (disch:=first|omega|(simp only[go_sem,seval];try omega))only[go_sem,seval,b]):p:=h b
theorem sr{a b:Prop}(c:a)(fb:b){p q:Prop}(k:q)(h:a→b→p=q:=by intro c fb;simp -dsimp (disch:=first|omega|(simp only[go_sem,seval];try omega))only[go_sem,seval,c,fb];exact rfl):p:=h c fb▸k
theorem LC2{a b:Prop}(c:a)(fb:b){p:Prop}(h:a→b→p:=by intro c fb;simp -dsimp (disch:=first|omega|(simp only[go_sem,seval];try omega))only[go_sem,seval,c,fb]):p:=h c fb
theorem LX3{a b c:Prop}(d:a)(fb:b)(fc:c){p q:Prop}(k:q)(h:a→b→c→p=q:=by intro d fb fc;simp -dsimp (disch:=first|omega|(simp only[go_sem,seval];try omega))only[go_sem,seval,d,fb,fc];exact rfl):p:=h d fb fc▸k
theorem LC3{a b c:Prop}(d:a)(fb:b)(fc:c){p:Prop}(h:a→b→c→p:=by intro d fb fc;simp -dsimp (disch:=first|omega|(simp only[go_sem,seval];try omega))only[go_sem,seval,d,fb,fc]):p:=h d fb fc
theorem LX4{a b c d:Prop}(e:a)(fb:b)(fc:c)(f:d){p q:Prop}(k:q)(h:a→b→c→d→p=q:=by intro e fb fc f;simp -dsimp (disch:=first|omega|(simp only[go_sem,seval];try omega))only[go_sem,seval,e,fb,fc,f];exact rfl):p:=h e fb fc f▸k
theorem LC4{a b c d:Prop}(e:a)(fb:b)(fc:c)(f:d){p:Prop}(h:a→b→c→d→p:=by intro e fb fc f;simp -dsimp (disch:=first|omega|(simp only[go_sem,seval];try omega))only[go_sem,seval,e,fb,fc,f]):p:=h e fb fc f
open Go
section
variable {P:Program}
def FX(P:Program):List Field→Option (List (Nat × Nat))
 | []=>some []
 | f::fs=>if f.name = "_" then none else(Ae P f.type).bind λk=>(Al P f.type).bind λb=>bif b then none else if k=8∨k=9∨k=3 then(FX P fs).map ((f.offset,k)::·) else none
def BI(P:Program)(t:TypeId):Option (List (Nat × Nat)):=
 (P.underlying t).bind λ|.struct a=>if P.stoodInHeld t || P.eqGuardType P.depth t then none else FX P a.toList|_=>none
end
end Lyc
