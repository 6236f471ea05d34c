/- Helpers of this claim, part 5: engine, translated functions, contracts, plain laws. -/
import Derived.Test.YtelplojmbjnplaaGreatB4
import Derived.Test.YtelplojmbjnplaaGreatB1
import Derived.Lib.AppendStr
import Derived.Test.YtelplojmbjnplaaGreatRows
import Derived.Test.YtelplojmbjnplaaGreatB0
import Derived.Lib.SmallJoins
import Derived.Test.YtelplojmbjnplaaGreatB2
set_option linter.unusedSimpArgs false
set_option linter.unusedVariables false
namespace Lyc
open Go
def Ky.small (k:Ky):Prop:=-1000≤k.n∧k.n≤1000
def Kst.small (S:Kst):Prop:=∀k∈S.ks,k.small
theorem Kst.flush_small {S:Kst} (h:S.small):S.flush.small:=by
 unfold flush
 split
 ·exact h
 ·intro k hk
  rcases List.mem_append.1 hk with hk|hk
  ·exact h k hk
  ·simp at hk;subst hk;exact⟨by show(-1000:Int)≤0;decide,by show(0:Int)≤1000;decide⟩
theorem Kst.tell_small {S:Kst} (h:S.small) {m:Int × Int} (hm:-1000≤m.2∧m.2≤1000):(S.tell m).small:=by
 intro k hk
 rcases List.mem_append.1 hk with hk|hk
 ·exact flush_small h k hk
 ·simp at hk;subst hk;exact hm
theorem Kst.look_small {S:Kst} (h:S.small) {l:List UInt8} {ms:List (Int × Int)} (hm:∀m∈ms,-1000≤m.2∧m.2≤1000) (b:UInt8):(S.look l ms b).small:=by
 unfold look
 split
 ·exact h
 ·rename_i i _
  refine tell_small h ?_
  rw[List.getD_eq_getElem?_getD]
  cases hg:ms[i]? with
  | none=>exact⟨by decide,by decide⟩
  | some m=>exact hm m (List.mem_of_getElem? hg)
theorem Kst.step_small {S:Kst} (h:S.small) (b:UInt8):(S.step b).small:=by
 unfold step
 split
 ·split
  ·exact h
  ·exact look_small (S:={ S with pre:=false }) h (by decide) b
 split
 ·exact flush_small h
 split
 ·exact h
 ·exact look_small h (by decide) b
theorem Tg (cop pre:Bool) (l:List UInt8):(BV cop pre l).small:=by
 refine Kst.flush_small ?_
 suffices ∀(l:List UInt8) (S:Kst),S.small→(S.feed l).small from this l _ (by intro k hk;simp at hk)
 intro l
 induction l with
 | nil=>intro S h;exact h
 | cons b l ih=>intro S h;exact ih _ (Kst.step_small h b)
theorem ZN (cop pre:Bool) (l:List UInt8):(BV cop pre l).ks.length≤2*l.length+1:=by
 have h1:=Kst.feed_ks l ⟨cop,pre,[],[]⟩
 have h2:=(Kst.feed ⟨cop,pre,[],[]⟩ l).flush_ks
 simp only[List.length_nil,Nat.zero_add] at h1
 unfold BV
 omega
end Lyc
namespace Go.Proofs.YtelplojmbjnplaaGreat
open Lyc Go
inductive KRun (S:Ss):List Ky→Ss→List (List UInt8 × Value)→Prop
 | nil:KRun S [] S []
 | snoc {ks:List Ky} {k:Ky} {S1 S2:Ss} {vs:List (List UInt8 × Value)} {word:List UInt8} {v:Value}:KRun S ks S1 vs→KRel S1 k S2 word v→KRun S (ks++[k]) S2 (vs++[(word,v)])
theorem KRun.len {S S':Ss} {ks:List Ky} {vs:List (List UInt8 × Value)} (h:KRun S ks S' vs):vs.length=ks.length:=by
 induction h with
 | nil=>rfl
 | snoc _ _ ih=>simp [ih]
def EAt (o:Nat→Prop) (w:World) (j:Nat) (p:List UInt8 × Value) (x:Option (TypeId × Value)):Prop :=
 (p.2=.nilIface∧x=none)∨∃c b b2,p.2=AR c∧c≠0∧x=some (203,.pointer (some ⟨b,0,none⟩))∧¬o b∧¬o b2∧w.heap[b]?=some (.cells #[.iface 206 (.pointer (some ⟨b2,0,none⟩)),.int .i64 j] 205)∧w.heap[b2]?=some (.cells #[AR c,.string (Ao p.1)] 208)
theorem EAt.trn {o o':Nat→Prop} {w w':World} {j:Nat} {p:List UInt8 × Value} {x:Option (TypeId × Value)} (h:EAt o w j p x) (ht:Trn o o' w w'):EAt o' w' j p x:=by
 rcases h with h|⟨c,b,b2,h1,h2,h3,h4,h5,h6,h7⟩
 ·exact .inl h
 ·exact .inr ⟨c,b,b2,h1,h2,h3,fun h=>(ht.grow b h).elim h4 fun h=>by have:=Aa h6;omega,fun h=>(ht.grow b2 h).elim h5 fun h=>by have:=Aa h7;omega,ht.keep h6 h4,ht.keep h7 h5⟩
theorem EAt.chg0 {o:Nat→Prop} {w w':World} {j:Nat} {p:List UInt8 × Value} {x:Option (TypeId × Value)} (h:EAt o w j p x) (hc:Chg [] w w'):EAt o w' j p x:=by
 rcases h with h|⟨c,b,b2,h1,h2,h3,h4,h5,h6,h7⟩
 ·exact .inl h
 ·exact .inr ⟨c,b,b2,h1,h2,h3,h4,h5,hc.keep h6 (by simp),hc.keep h7 (by simp)⟩
theorem EAt.app {base:Nat} {o:Nat→Prop} {w w':World} {j:Nat} {p:List UInt8 × Value} {x:Option (TypeId × Value)} {v:Value} {xs:List (Option (TypeId × Value))} (h:EAt o w j p x) (ho:Ox base w 31 1 erF v xs) (hc:Chg v.ownBlock.toList w w'):EAt o w' j p x:=by
 rcases h with h|⟨c,b,b2,h1,h2,h3,h4,h5,h6,h7⟩
 ·exact .inl h
 ·exact .inr ⟨c,b,b2,h1,h2,h3,h4,h5,hc.keep h6 (fun hm=>ho.off h6 rfl (by simpa using hm)),hc.keep h7 (fun hm=>ho.off h7 rfl (by simpa using hm))⟩
theorem _root_.Lyc.Trn.priv {o o':Nat→Prop} {w w' w'':World} {F:List Nat} (h:Trn o o' w w') (hc:Chg F w' w'') (hF:∀x∈F,w.heap.size≤x):Trn o o' w w'':=by
 obtain⟨G,hg,hG⟩:=h.chg
 exact Trn.low (F:=G++F) ((hg.mono fun x hx=>.inl (List.mem_append_left _ hx)).trans hc fun x hx=>.inl (List.mem_append_right _ hx)) (fun x hx=>(List.mem_append.1 hx).elim (fun h=>.inl (hG x h)) fun h=>.inr (hF x h)) h.grow
section
variable {base:Nat} {w w' w'':World} {s:Nat} {S:Ss} {lim:Int}
theorem UI (h:SsAt base w s S) (ok:S.ok lim) (hbase:base≤w.heap.size) (hlim:lim≤900000000000000) (l:List UInt8) (hl:l.length≤2000):Calls Tryz.prog 27 #[.pointer (some ⟨s,0,none⟩),.string (Ao l)] w
  (Ac fun v w'=>∃S' vs,SsAt base w' s S'∧S'.ok (lim+5000)∧Trn (S.own s) (S'.own s) w w'∧KRun { S with cop:=(BV S.cop S.pre l).cop,pre:=(BV S.cop S.pre l).pre } (BV S.cop S.pre l).ks S' vs ∧
   ((∀p∈vs,p.2=.nilIface)→v=.nilIface)∧(∀word c,vs=[(word,AR c)]→∃b b2,v=.iface 203 (.pointer (some ⟨b,0,none⟩))∧w'.heap[b]?=some (.cells #[.iface 206 (.pointer (some ⟨b2,0,none⟩)),.int .i64 0] 205)∧w'.heap[b2]?=some (.cells #[AR c,.string (Ao word)] 208))):=by
 have hb:=h.hb
 have hkl:=ZN S.cop S.pre l
 have hks:=Tg S.cop S.pre l
 apply ZM
 intro K hK
 unfold LB
 simp -dsimp (disch:=first|omega|(simp only[go_sem,seval];try omega))only[go_sem,seval,hb]
 refine OpX.call aZ rfl (Calls.ret (Xj hb l hl) ?_)
 rintro v w1 ⟨hko,hb1,hc1⟩
 generalize BV S.cop S.pre l=Q at *
 obtain⟨A1,T1⟩:=h.self hc1 hb1
 obtain⟨ak,ck,rfl,-,hks1,-,hkf⟩:=hko.form
 have hz1:=hc1.size
 simp -dsimp (disch:=first|omega|(simp only[go_sem,seval];try omega))only[go_sem,seval]
 obtain⟨S0,hS0⟩:∃S0:Ss,S0={ S with cop:=Q.cop,pre:=Q.pre }:=⟨_,rfl⟩
 have A1:SsAt base w1 s S0:=by rw[hS0];exact A1
 have T1:Trn (S.own s) (S0.own s) w w1:=by rw[hS0];exact T1
 have ok0:S0.ok lim:=by rw[hS0];exact⟨ok.w0,ok.w1,ok.h0,ok.h1,ok.win,ok.cur,ok.back0,ok.back1,ok.few,ok.dis0,ok.dis1⟩
 rw[←hS0] at hK
 refine Loop2.st (fun q:Nat × Option Addr × Nat × List (Option (TypeId × Value))=>.slice q.2.1 q.2.2.2.length q.2.2.1) (fun q=>.int .i64 (q.1:Int)) (fun q w'=>q.1≤Q.ks.length∧∃S1 vs,SsAt base w' s S1∧S1.ok (lim+q.1)∧Trn (S0.own s) (S1.own s) w1 w'∧KRun S0 (Q.ks.take q.1) S1 vs∧q.2.2.2.length=q.1 ∧
  Ox w1.heap.size w' 31 1 erF (.slice q.2.1 q.2.2.2.length q.2.2.1) q.2.2.2∧(∀b,some b=(Value.slice q.2.1 q.2.2.2.length q.2.2.1).ownBlock→¬S1.own s b)∧∀j p x,vs[j]?=some p→q.2.2.2[j]?=some x→EAt (S1.own s) w' j p x) (fun q=>Q.ks.length-q.1) (0,none,0,[]) rfl rfl
  ⟨Nat.zero_le _,S0,[],A1,by simpa using ok0,Trn.refl _ _,.nil,rfl,Ox.nil _ _ _ _ _,by simp [Value.ownBlock],by simp⟩ ?_
 rintro next ⟨i,a5,c5,xs⟩ wi hn ⟨hi,S1,vs,A,okS,T,run,hxl,ho,hno,hE⟩
 dsimp only at hi okS run hxl ho hno hE ⊢
 have hzi:=T.size
 simp -dsimp (disch:=first|omega|(simp only[go_sem,seval];try omega))only[go_sem,seval]
 refine BrW.dec (fun g=>?_) (fun g=>?_)
 ·have hi':i<Q.ks.length:=by omega
  have hx:Q.ks[i]?=some Q.ks[i]:=List.getElem?_eq_getElem hi'
  have hsm:=hks _ (List.getElem_mem hi')
  have ht:=Cs hi'
  have hsk:Sx wi (some 138) Ky.cells ak Q.ks:=by
   obtain⟨F,hc,hF⟩:=T.chg
   refine hks1.chg hc fun b o e hne hm=>?_
   obtain⟨g9,e9,h9,-⟩:=hkf hne
   rw[e9] at e
   cases e
   have hlt:S0.own s=S.own s:=by rw[hS0];rfl
   have h8:=hF _ hm
   rw[hlt] at h8
   have:=h.lt _ h8
   omega
  generalize Q.ks[i]=k at *
  have e1:(i:Int)+1=((i+1:Nat):Int):=by omega
  obtain⟨b,o,rfl,hbl,hcell⟩:=hsk.get Ky.len hx
  simp only[Ky.cells] at hcell
  simp -dsimp (disch:=first|omega|(simp only[go_sem,seval];try omega))only[go_sem,seval,hcell]
  have ha0:Chg [] wi (wi.alloc (.cells #[.int .i64 k.kind,.int .i64 k.n,.string (Ao k.s)] 138)):=by(repeat (first|exact Chg.refl _ _|apply Chg.drew|apply Chg.alloc|(refine Chg.set ?_ _ _ (by first|(left;simp;done)|(right;omega)))))
  generalize wi.alloc (.cells #[.int .i64 k.kind,.int .i64 k.n,.string (Ao k.s)] 138)=w2 at *
  have hz2:=ha0.size
  refine OpX.call TD rfl (Calls.ret (Yb (A.chg0 ha0) okS (by omega) (by omega) k hsm) ?_)
  rintro v w3 ⟨word,v',rfl,S2,A3,ok3,T3,hv',hrel⟩
  have T03:Trn (S1.own s) (S2.own s) wi w3:=(Trn.of0 ha0 fun _ h=>.inl h).trans T3
  have hz3:=T3.size
  have run3:KRun S0 (Q.ks.take (i+1)) S2 (vs++[(word,v')]):=by rw[ht];exact .snoc run hrel
  have hvl:vs.length=i:=by rw[run.len,List.length_take];omega
  have ok3:S2.ok (lim+(i+1:Nat)):=ok3.mono (by omega)
  have ho3:Ox w1.heap.size w3 31 1 erF (.slice a5 xs.length c5) xs:=by
   obtain⟨F,hc,hF⟩:=T03.chg
   exact ho.chg hc fun b hb hm=>hno b hb (hF b hm)
  have hno3:∀b,some b=(Value.slice a5 xs.length c5).ownBlock→¬S2.own s b:=fun b hb h9=>(T03.grow b h9).elim (hno b hb) fun h9=>by
   obtain⟨-,-,-,-,-,hown,-⟩:=ho.form
   have:=(hown b hb).2
   omega
  have hE3:∀j p x,vs[j]?=some p→xs[j]?=some x→EAt (S2.own s) w3 j p x:=fun j p x hj hx=>(hE j p x hj hx).trn T03
  have hnext:∀(x:Option (TypeId × Value)) (w4:World),Chg [] w3 w4→EAt (S2.own s) w4 i (word,v') x→OpX Tryz.prog (.buildSlice 134 1 #[(0,.const (erV x))]) 134 (fun t33=>OpX Tryz.prog (.call { callee:=.builtin .append,args:=#[.const (.slice a5 xs.length c5),.const t33],argTypes:=#[134,134] }) 134 fun t34=>xO .add 3 (.int .i64 i) (.int .i64 1) fun t35=>next t34 t35) w4:=by
   intro x w4 hc4 hx4
   have hsl:∃w5,(OpX Tryz.prog (.buildSlice 134 1 #[(0,.const (erV x))]) 134 (fun t33=>OpX Tryz.prog (.call { callee:=.builtin .append,args:=#[.const (.slice a5 xs.length c5),.const t33],argTypes:=#[134,134] }) 134 fun t34=>xO .add 3 (.int .i64 i) (.int .i64 1) fun t35=>next t34 t35) w4=OpX Tryz.prog (.call { callee:=.builtin .append,args:=#[.const (.slice a5 xs.length c5),.const (.slice (some ⟨w4.heap.size,0,none⟩) 1 1)],argTypes:=#[134,134] }) 134 (fun t34=>xO .add 3 (.int .i64 i) (.int .i64 1) fun t35=>next t34 t35) w5)∧Chg [] w4 w5∧w5.heap[w4.heap.size]?=some (.cells #[erV x] 31):=by
    cases x with
    | none =>
     simp only[erV]
     refine⟨w4.alloc (.cells #[.nilIface] 31),?_,by(repeat (first|exact Chg.refl _ _|apply Chg.drew|apply Chg.alloc|(refine Chg.set ?_ _ _ (by first|(left;simp;done)|(right;omega))))),(by simp -dsimp (disch:=first|omega|(simp only[go_sem,seval];try omega))only[go_sem,seval])⟩
     simp -dsimp (disch:=first|omega|(simp only[go_sem,seval];try omega))only[go_sem,seval]
    | some p =>
     simp only[erV]
     refine⟨w4.alloc (.cells #[.iface p.1 p.2] 31),?_,by(repeat (first|exact Chg.refl _ _|apply Chg.drew|apply Chg.alloc|(refine Chg.set ?_ _ _ (by first|(left;simp;done)|(right;omega))))),(by simp -dsimp (disch:=first|omega|(simp only[go_sem,seval];try omega))only[go_sem,seval])⟩
     simp -dsimp (disch:=first|omega|(simp only[go_sem,seval];try omega))only[go_sem,seval]
   obtain⟨w5,e5,hc5,h5⟩:=hsl
   rw[e5]
   clear e5
   have hc35:=hc4.trans0 hc5
   have hz5:=hc35.size
   have hsa:Sx w5 (some 31) erF (some ⟨w4.heap.size,0,none⟩) [x]:=Sx.built (c:=erF x) h5 (by simp)
   refine Bz PN M6 Ni (ho3.chg0 hc35) hsa rfl (by rw[List.length_singleton];omega) (by omega) (by omega) ?_
   intro v6 w6 ho6 hc6 hown6
   obtain⟨a6,c6,rfl,-⟩:=ho6.form
   simp -dsimp (disch:=first|omega|(simp only[go_sem,seval];try omega))only[go_sem,seval,e1]
   have hge6:∀x∈(Value.slice a5 xs.length c5).ownBlock.toList,w1.heap.size≤x:=(ho3.chg0 hc35).own_ge
   have hc36:Chg (Value.slice a5 xs.length c5).ownBlock.toList w3 w6:=(hc35.mono (by simp)).trans hc6 (fun x hx=>.inl hx)
   refine hn (i+1,a6,c6,xs++[x]) _ ⟨by dsimp only;omega,S2,vs++[(word,v')],A3.chg hc36 (fun x hx=>hno3 x (by simpa [eq_comm] using hx)),ok3,(T.trans T03).priv hc36 hge6,run3,by simp [hxl],ho6,?_,?_⟩ (by dsimp only;omega)
   ·intro b hb
    rcases hown6 with e|e
    ·exact hno3 b (by rw[←e];exact hb)
    ·have hb:some b=(Value.slice a6 (xs++[x]).length c6).ownBlock:=hb
     rw[e] at hb
     cases hb
     intro h9
     have:=A3.lt _ h9
     omega
   ·intro j p y hj hy
    dsimp only at hy
    rcases Nat.lt_trichotomy j i with h9|h9|h9
    ·rw[List.getElem?_append_left (by omega)] at hj
     rw[List.getElem?_append_left (by omega)] at hy
     exact((hE3 j p y hj hy).chg0 hc35).app (ho3.chg0 hc35) hc6
    ·subst h9
     rw[List.getElem?_append_right (by omega),hvl,Nat.sub_self] at hj
     rw[List.getElem?_append_right (by omega),hxl,Nat.sub_self] at hy
     simp only[List.getElem?_cons_zero,Option.some.injEq] at hj hy
     subst hj hy
     exact(hx4.chg0 hc5).app (ho3.chg0 hc35) hc6
    ·rw[List.getElem?_eq_none (by simp;omega)] at hj
     cases hj
  rcases hv' with rfl|⟨c,hc0,rfl⟩
  ·simp -dsimp (disch:=first|omega|(simp only[go_sem,seval];try omega))only[go_sem,seval]
   refine OpX.call OQ rfl (Calls.ret (YK w3 (Ao word)) ?_)
   rintro v w4 ⟨rfl,rfl⟩
   refine OpX.call Nc rfl (Calls.ret (Yy w4 i) ?_)
   rintro v w5 ⟨rfl,rfl⟩
   exact hnext none w5 (Chg.refl _ _) (.inl ⟨rfl,rfl⟩)
  ·simp -dsimp (disch:=first|omega|(simp only[go_sem,seval];try omega))only[go_sem,seval]
   refine OpX.call OQ rfl (Calls.ret (TI w3 _ _ (Ao word)) ?_)
   rintro v w4 ⟨rfl,h4,hc4⟩
   refine OpX.call Nc rfl (Calls.ret (Yq w4 _ _ i) ?_)
   rintro v w5 ⟨rfl,h5,hc5⟩
   have hlt:=A3.lt
   have hz4:=hc4.size
   exact hnext (some (_,_)) w5 (hc4.trans0 hc5) (.inr ⟨c,_,_,rfl,hc0,rfl,fun h=>by have:=hlt _ h;omega,fun h=>by have:=hlt _ h;omega,h5,hc5.keep h4 (by simp)⟩)
 ·have hil:i=Q.ks.length:=by omega
  subst hil
  rw[List.take_length] at run
  obtain⟨a9,c9,e9,-,hs3,-,-⟩:=ho.form
  simp only[Value.slice.injEq] at e9
  obtain⟨rfl,-,rfl⟩:=e9
  refine OpX.call V8 rfl (Calls.ret (XZ hs3 (by omega)) ?_)
  rintro v w2 ⟨hc2,hj⟩
  have hvl:=run.len
  refine hK _ _ ⟨S1,vs,A.chg0 hc2,okS.mono (by omega),(T1.trans T).chg0 hc2,run,fun hall=>?_,fun word c he=>?_⟩
  ·have hk0:Bn xs=[]:=by
    unfold Bn
    rw[List.filter_eq_nil_iff]
    intro x hx
    obtain⟨j,hj,e⟩:=List.mem_iff_getElem.1 hx
    have hjv:j<vs.length:=by omega
    rcases hE j vs[j] x (List.getElem?_eq_getElem hjv) (by rw[List.getElem?_eq_getElem hj,e]) with ⟨-,e2⟩|⟨c,b,b2,h1,-⟩
    ·rw[e2];simp
    ·rw[hall _ (List.getElem_mem hjv)] at h1;cases h1
   rw[hk0] at hj
   rcases hj with ⟨-,rfl⟩|⟨p,h9,-⟩|⟨h9,-⟩
   ·rfl
   ·cases h9
   ·simp at h9
  ·subst he
   simp only[List.length_singleton] at hvl
   obtain⟨x,rfl⟩:∃x,xs=[x]:=by
    cases xs with
    | nil=>simp at hxl;omega
    | cons x l =>
     cases l with
     | nil=>exact⟨x,rfl⟩
     | cons y l=>simp at hxl;omega
   rcases hE 0 (word,AR c) x rfl rfl with ⟨e2,-⟩|⟨c',b,b2,h1,h2,rfl,h4,h5,h6,h7⟩
   ·cases e2
   ·simp only[AR,Value.iface.injEq,Value.int.injEq,true_and] at h1
    subst h1
    rcases hj with ⟨h9,-⟩|⟨p,h9,rfl⟩|⟨h9,-⟩
    ·cases h9
    ·cases h9
     exact⟨b,b2,rfl,hc2.keep h6 (by simp),hc2.keep h7 (by simp)⟩
    ·simp [Bn] at h9
end
section
variable {base:Nat} {w w' w'':World} {s:Nat} {S:Ss} {lim:Int}
theorem R3 (h:SsAt base w s S) (ok:S.ok lim) (hbase:base≤w.heap.size) (win pane:Int) (l:List UInt8) (hl:l.length≤2000):Calls Tryz.prog 28 #[.pointer (some ⟨s,0,none⟩),.int .i64 win,.int .i64 pane,.string (Ao l)] w
  (Ac fun v w'=>(v=AR 12∧w'=w∧∀W,S.get win=some W→pane∉W.pts.map (·.id))∨(v=.nilIface∧∃W p q b,S.get win=some W∧p∈W.pts∧p.id=pane∧q.ent=p.ent∧q.W=p.W∧q.H=p.H∧(q.M.S,q.T.kept,q.T.E)=({ (BG (p.M.S,p.T.kept,p.T.E) [l]).1 with gone:=[] },(BG (p.M.S,p.T.kept,p.T.E) [l]).2.1,(BG (p.M.S,p.T.kept,p.T.E) [l]).2.2) ∧
   (S.back≤0→b=0)∧({ W with pts:=Bl W.pts q }:Wn).ok∧({ S with wins:=Bh S.wins { W with pts:=Bl W.pts q },back:=b }:Ss).ok (lim+1)∧SsAt base w' s { S with wins:=Bh S.wins { W with pts:=Bl W.pts q },back:=b }∧Trn (S.own s) (({ S with wins:=Bh S.wins { W with pts:=Bl W.pts q },back:=b }:Ss).own s) w w')):=by
 apply V7
 intro K hK
 unfold Oj
 refine OpX.call DX rfl (Calls.ret (Fo h win) ?_)
 rintro v w1 ⟨rfl,rfl⟩
 cases hg:S.get win with
 | none =>
  simp only[B0,Option.map_none,Option.getD_none]
  refine OpX.call GL rfl (Calls.ret (Qj w1 pane) ?_)
  rintro v w2 ⟨rfl,rfl⟩
  simp -dsimp (disch:=first|omega|(simp only[go_sem,seval];try omega))only[go_sem,seval]
  refine OpX.call BZ rfl (Calls.ret (Cb _ 12) ?_)
  rintro v w2 ⟨rfl,rfl⟩
  exact hK _ _ (.inl ⟨rfl,rfl,fun W h=>by rw[hg] at h;cases h⟩)
 | some W =>
  simp only[B0,Option.map_some,Option.getD_some]
  obtain⟨hWm,hWn⟩:=Ss.get_mem hg
  have hA:=h.each W hWm
  obtain⟨wok,wR,wnew,wn⟩:=ok.win W hWm
  refine OpX.call GL rfl (Calls.ret (IG hA pane) ?_)
  rintro v w2 ⟨rfl,rfl⟩
  cases hf:W.pts.find? fun p=>p.ent.1 == pane with
  | none =>
   simp only[Option.map_none,Option.getD_none]
   simp -dsimp (disch:=first|omega|(simp only[go_sem,seval];try omega))only[go_sem,seval]
   refine OpX.call BZ rfl (Calls.ret (Cb _ 12) ?_)
   rintro v w2 ⟨rfl,rfl⟩
   refine hK _ _ (.inl ⟨rfl,rfl,fun V hV=>?_⟩)
   rw[hg] at hV
   cases hV
   intro hm
   obtain⟨p,hp,e⟩:=List.mem_map.1 hm
   have:=List.find?_eq_none.1 hf p hp
   simp [Pt.ent] at this
   exact this e
  | some p =>
   simp only[Option.map_some,Option.getD_some]
   obtain⟨hp,hpi⟩:=It hf
   have hP:=hA.each p hp
   simp -dsimp (disch:=first|omega|(simp only[go_sem,seval];try omega))only[go_sem,seval]
   refine OpX.gen fun w3 hw3=>?_
   have hc3:Chg [] w2 w3:=by rw[hw3];(repeat (first|exact Chg.refl _ _|apply Chg.drew|apply Chg.alloc|(refine Chg.set ?_ _ _ (by first|(left;simp;done)|(right;omega)))))
   have hsa:Sx w3 (some 9) bsF (some ⟨w2.heap.size,0,none⟩) [l]:=Sx.built (c:=bsF l) (by rw[hw3];simp only[bsF];simp -dsimp (disch:=first|omega|(simp only[go_sem,seval];try omega))only[go_sem,seval]) (by simp)
   clear hw3
   have hz3:=hc3.size
   have hP3:=hP.chg0 hc3
   have hlt:∀x∈p.t::p.T.s::p.M.blk,x<w2.heap.size:=by
    intro x hx
    simp only[List.mem_cons] at hx
    refine hP.lt x ?_
    rcases hx with rfl|rfl|hx
    ·exact .inl rfl
    ·exact .inr (.inl rfl)
    ·exact .inr (.inr (.inl hx))
   refine OpX.call aB rfl (Calls.ret (VS hP3.1 (by omega) hsa (by simp;omega) (fun b o e hne hm=>by cases e;have:=hlt _ hm;omega) 1 (by simp)) ?_)
   rintro v w4 ⟨M',G',k,E,hT,hfed,hroom,hlist,hc4,hrows,hgrow⟩
   obtain⟨q,hq⟩:∃q:Pt,q={ p with T:={ p.T with kept:=k,E:=E },M:=M',G:=G' }:=⟨_,rfl⟩
   have hPq:BR base w4 q:=by rw[hq];exact⟨hT,hrows⟩
   have hqe:q.ent=p.ent:=by rw[hq];rfl
   have Tq:Trn p.own q.own w2 w4:=by
    refine Trn.of ((hc3.mono (by simp)).trans hc4 fun x hx=>.inl hx) (fun x hx=>?_) (fun x hx=>?_)
    ·simp only[List.cons_append,List.mem_cons,List.mem_append] at hx
     rcases hx with rfl|rfl|hx|rfl|hx
     ·exact .inl rfl
     ·exact .inr (.inl rfl)
     ·exact .inr (.inr (.inl hx))
     ·exact .inr (.inr (.inr (.inl rfl)))
     ·exact .inr (.inr (.inr (.inr (.inl hx))))
    ·rw[hq] at hx
     exact(hgrow x hx).imp id fun h=>by omega
   have hfq:(q.M.S,q.T.kept,q.T.E)=({ (BG (p.M.S,p.T.kept,p.T.E) [l]).1 with gone:=[] },(BG (p.M.S,p.T.kept,p.T.E) [l]).2.1,(BG (p.M.S,p.T.kept,p.T.E) [l]).2.2):=by rw[hq];exact hfed
   have hqW:q.W=p.W:=by rw[hq]
   have hqH:q.H=p.H:=by rw[hq]
   clear hq
   obtain⟨A1,T1⟩:=hA.turn hp hqe Tq hPq hbase
   have wok1:({ W with pts:=Bl W.pts q }:Wn).ok:=⟨wok.lay,wok.act,by dsimp only;rw[Ji];exact wok.has,fun r hr x hx=>by
    rcases Iz hr with rfl|⟨hr,-⟩
    ·rw[hqW,hqH]
     exact wok.size p hp x (by rw[show p.id=r.id from(congrArg Prod.fst hqe).symm];exact hx)
    ·exact wok.size r hr x hx⟩
   obtain⟨A2,T2⟩:=h.turn (V:={ W with pts:=Bl W.pts q }) hWm rfl rfl rfl T1 A1 hbase
   have ok2:=ok.put (V:={ W with pts:=Bl W.pts q }) hWm rfl wok1 rfl (by show W.L.newest≤_;omega)
   obtain⟨W2,hg2⟩:=Ss.get_cur ok2
   have hW2:=ok2.win W2 (Ss.get_mem hg2).1
   refine OpX.call JX rfl (Calls.ret (PR A2 hg2 hW2.1 0 ok.back0 ok.back1 (by decide) (by decide)) ?_)
   rintro v w5 ⟨b,b0,b1,b2,A3,T3⟩
   have ok3:({ S with wins:=Bh S.wins { W with pts:=Bl W.pts q },back:=b }:Ss).ok (lim+1):=⟨ok2.w0,ok2.w1,ok2.h0,ok2.h1,ok2.win,ok2.cur,b0,b1,ok2.few,ok2.dis0,ok2.dis1⟩
   exact hK _ _ (.inr ⟨rfl,W,p,q,b,hg,hp,hpi,hqe,hqW,hqH,hfq,fun hb=>b2 (by show S.back+0≤0;omega),wok1,ok3,A3,T2.trans T3⟩)
end
theorem H4 {it m c:Nat} {l:AG} {w:World} (hit:w.heap[it]?=some (.mapIter (some m) c #[] c)) (hlt:∀x∈l,ebo x<c) (hnd:(l.map ebo).Nodup) (I:AG→World→Prop) (h0:I [] w)
  (hI:∀done w1 w2,I done w1→Chg [it] w1 w2→I done w2) (hM:∀done w1,I done w1→w1.heap[m]?=some (.map (Au .i64 l) c)) {B:Value→(World→Prop)→World→Prop} {E:World→Prop}
  (hE:∀done w1,(∀x,x∈l→ebo x∈done.map ebo)→I done w1→E w1)
  (hB:∀done y w1 (next:World→Prop),I done w1→y∈l→ebo y∉done.map ebo→(∀w2,I (done++[y]) w2→(∃G,Chg G w1 w2∧it∉G)→next w2)→B (.tuple #[.int .i64 y.1,y.2.1]) next w1) :
  Loop0 (fun next=>OpX Tryz.prog (.next (.const (.pointer (some ⟨it,0,none⟩))) false) 0 fun t24=>xE t24 0 4 fun t25=>xW t25 (OpX Tryz.prog (.entry (.const (.pointer (some ⟨it,0,none⟩)))) 0 fun t26=>B t26 next) E) w:=by
 have hborn:∀x∈(Au .i64 l).toList,x.born<c:=by
  intro x hx
  obtain⟨y,hy,rfl⟩:=Gz hx
  exact hlt y hy
 refine Loop0.st (fun(done:AG) w1=>(∀x∈done,x∈l)∧(done.map ebo).Nodup∧I done w1∧w1.heap[it]?=some (.mapIter (some m) c (done.map ebo).toArray c)) (fun done=>l.length-done.length) [] ⟨by simp,by simp,h0,hit⟩ ?_
 rintro next done w1 hn ⟨hd,hdn,hi,hit⟩
 have hm1:=hM _ _ hi
 refine NA hit hm1 hborn (fun hover=>?_) (fun e he hne w2 hw2=>?_)
 ·simp -dsimp (disch:=first|omega|(simp only[go_sem,seval];try omega))only[go_sem,seval]
  refine hE done w1 (fun x hx=>?_) hi
  have:=hover ⟨.int .i64 x.1,x.2.1,x.2.2⟩ (by simp only[Au,List.mem_map];exact⟨x,hx,rfl⟩)
  simpa [ebo] using this
 ·obtain⟨y,hyl,rfl⟩:=Gz he
  have hnd':ebo y∉done.map ebo:=by simpa [ebo] using hne
  have hit2:w2.heap[it]?=some (.mapIter (some m) c (done.map ebo).toArray c):=by rcases hw2 with rfl|rfl<;>exact hit
  have hc2:Chg [] w1 w2:=by rcases hw2 with rfl|rfl;exact Chg.refl _ _;exact(Chg.refl _ _).drew
  have hl2:=Aa hit2
  have hc3:Chg [it] w1 (Ab w2 it (.mapIter (some m) c ((done.map ebo).toArray.push y.2.2) c)):=(hc2.mono (by simp)).set _ _ (by simp)
  have hi3:=hI _ _ _ hi hc3
  have hit3:(Ab w2 it (.mapIter (some m) c ((done.map ebo).toArray.push y.2.2) c)).heap[it]?=some (.mapIter (some m) c ((done.map ebo).toArray.push y.2.2) c):=Ar _ _ _ _ rfl hl2
  generalize Ab w2 _ _=w3 at hc3 hi3 hit3 ⊢
  have hm3:=hM _ _ hi3
  simp -dsimp (disch:=first|omega|(simp only[go_sem,seval];try omega))only[go_sem,seval]
  rw[KN (e:=⟨.int .i64 y.1,y.2.1,y.2.2⟩) hit3 hm3 he (by rw[NV];exact hnd)]
  have hdl:done.length<l.length:=by
   have h1:(done.map ebo++[ebo y]).Nodup:=by
    rw[List.nodup_append]
    exact⟨hdn,by simp,by intro a ha b hb;simp at hb;subst hb;rintro rfl;exact hnd' ha⟩
   have h2:=List.Nodup.length_le_of_subset h1 (l₂:=l.map ebo) (by
    intro a ha
    rcases List.mem_append.1 ha with ha|ha
    ·obtain⟨z,hz,rfl⟩:=List.mem_map.1 ha
     exact List.mem_map.2 ⟨z,hd z hz,rfl⟩
    ·simp at ha;subst ha;exact List.mem_map.2 ⟨y,hyl,rfl⟩)
   simp at h2;omega
  refine hB done y w3 next hi3 hyl hnd' fun w4 hi4 hc4=>?_
  obtain⟨G,hc4,hG⟩:=hc4
  have hit4:=hc4.keep hit3 hG
  refine hn (done++[y]) _ ⟨?_,?_,hi4,?_⟩ (by simp;omega)
  ·intro x hx
   rcases List.mem_append.1 hx with hx|hx
   ·exact hd x hx
   ·simp at hx;subst hx;exact hyl
  ·rw[List.map_append,List.nodup_append]
   exact⟨hdn,by simp,by intro a ha b hb;simp at hb;subst hb;rintro rfl;exact hnd' ha⟩
  ·rw[hit4];simp [ebo]
def ro (φ:Nat→Rc) (W:Wn):Wn:={ W with L:={ W.L with R:=φ W.born } }
def upd (φ:Nat→Rc) (b:Nat) (R:Rc):Nat→Rc:=fun x=>if x=b then R else φ x
def Ss.ro (S:Ss) (φ:Nat→Rc):Ss:={ S with wins:=S.wins.map (Go.Proofs.YtelplojmbjnplaaGreat.ro φ) }
section
variable {base:Nat} {w w' w'':World} {s:Nat} {S:Ss} {lim:Int}
theorem FG (φ:Nat→Rc):∀l:List Wn,(l.map (ro φ)).map Wn.ent=l.map Wn.ent:=fun l=>by rw[List.map_map];rfl
theorem Jb {φ:Nat→Rc}:∀{l:List Wn},(∀W∈l,W.L.R=φ W.born)→l.map (ro φ)=l
 | [],_=>rfl
 | W::l,h=>by
  have h1:=h W (by simp)
  rw[List.map_cons,Jb (fun V hV=>h V (by simp [hV]))]
  unfold ro
  rw[←h1]
theorem Ss.ro_own (S:Ss) (φ:Nat→Rc) (s:Nat):(S.ro φ).own s=S.own s:=by
 funext x
 refine propext ⟨?_,?_⟩
 ·rintro(h|h|h|⟨W,hW,h⟩)
  ·exact .inl h
  ·exact .inr (.inl h)
  ·exact .inr (.inr (.inl h))
  ·obtain⟨V,hV,rfl⟩:=List.mem_map.1 hW
   exact .inr (.inr (.inr ⟨V,hV,h⟩))
 ·rintro(h|h|h|⟨W,hW,h⟩)
  ·exact .inl h
  ·exact .inr (.inl h)
  ·exact .inr (.inr (.inl h))
  ·exact .inr (.inr (.inr ⟨Go.Proofs.YtelplojmbjnplaaGreat.ro φ W,List.mem_map.2 ⟨W,hW,rfl⟩,h⟩))
theorem SsAt.ro1 {φ:Nat→Rc} {R:Rc} {W:Wn} (h:SsAt base w s (S.ro φ)) (hids:(S.wins.map (·.n)).Nodup) (hbnd:(S.wins.map (·.born)).Nodup) (hW:W∈S.wins) (hc:Chg [W.lb] w w') (hL:LAt w' W.lb { W.L with R:=R }) (hbase:base≤w.heap.size) :
  SsAt base w' s (S.ro (upd φ W.born R))∧Trn (S.own s) (S.own s) w w':=by
 have hWm:ro φ W∈(S.ro φ).wins:=List.mem_map.2 ⟨W,hW,rfl⟩
 have hA:=h.each _ hWm
 have hne:=hA.ne
 obtain⟨A1,T1⟩:=hA.laid (L:={ W.L with R:=R }) (act:=W.active) hc (fun x hx=>by simp at hx;subst hx;exact .inr (.inl rfl)) hL (hc.keep hA.hb (by simp;exact hne.1)) (fun x hx=>.inl hx) hbase
 obtain⟨A2,T2⟩:=h.turn hWm (V:={ W with L:={ W.L with R:=R } }) rfl rfl rfl T1 A1 hbase
 have e:Bh (S.wins.map (ro φ)) { W with L:={ W.L with R:=R } }=S.wins.map (ro (upd φ W.born R)):=by
  unfold Bh
  rw[List.map_map]
  apply List.map_congr_left
  intro V hV
  simp only[Function.comp,ro,upd]
  by_cases hb:V.born=W.born
  ·have:=Dn hbnd hV hW hb
   subst this
   simp
  ·have hn:V.n≠W.n:=fun e=>hb (by rw[Dn hids hV hW e])
   exact(if_neg hn).trans (by rw[if_neg hb])
 have e2:({ S.ro φ with wins:=Bh (S.ro φ).wins { W with L:={ W.L with R:=R } } }:Ss)=S.ro (upd φ W.born R):=by
  unfold Ss.ro
  dsimp only
  rw[e]
 rw[e2] at A2 T2
 rw[Ss.ro_own,Ss.ro_own] at T2
 exact⟨A2,T2⟩
theorem KW (w:World) (x y:Int):Calls Tryz.prog 23 #[.int .i64 x,.int .i64 y] w (Ac fun v w'=>v=.bool (decide (1≤x∧x≤200∧2≤y∧y≤60))∧w'=w):=by
 apply U0
 intro K hK
 unfold P0
 refine Join1.cut (fun v w'=>v=.bool (decide (1≤x∧x≤200∧2≤y∧y≤60))∧w'=w) ?_ (fun v w' h=>hK _ _ h)
 simp -dsimp (disch:=first|omega|(simp only[go_sem,seval];try omega))only[go_sem,seval]
 refine BrW.dec (fun g1=>?_) (fun g1=>⟨congrArg Value.bool (decide_eq_false (by omega)).symm,rfl⟩)
 simp -dsimp (disch:=first|omega|(simp only[go_sem,seval];try omega))only[go_sem,seval]
 refine BrW.dec (fun g2=>?_) (fun g2=>⟨congrArg Value.bool (decide_eq_false (by omega)).symm,rfl⟩)
 simp -dsimp (disch:=first|omega|(simp only[go_sem,seval];try omega))only[go_sem,seval]
 refine BrW.dec (fun g3=>?_) (fun g3=>⟨congrArg Value.bool (decide_eq_false (by omega)).symm,rfl⟩)
 simp -dsimp (disch:=first|omega|(simp only[go_sem,seval];try omega))only[go_sem,seval]
 exact congrArg Value.bool (decide_eq_decide.2 ⟨fun h=>by omega,fun h=>by omega⟩)
theorem Xf (h:SsAt base w s S) (ok:S.ok lim) (hbase:base≤w.heap.size) (x y:Int):Calls Tryz.prog 29 #[.pointer (some ⟨s,0,none⟩),.int .i64 x,.int .i64 y] w
  (Ac fun v w'=>(¬(1≤x∧x≤200∧2≤y∧y≤60)∧v=AR 1∧w'=w)∨(1≤x∧x≤200∧2≤y∧y≤60∧(
   (v=AR 19∧SsAt base w' s S∧Trn (S.own s) (S.own s) w w') ∨
   (v=.nilIface∧∃wl,SsAt base w' s { S with w:=x,h:=y,wins:=wl }∧({ S with w:=x,h:=y,wins:=wl }:Ss).ok lim∧Trn (S.own s) (({ S with w:=x,h:=y,wins:=wl }:Ss).own s) w w'∧wl.map (·.n)=S.wins.map (·.n)∧∀V∈wl,∃W∈S.wins,V.n=W.n∧V.L.root=W.L.root∧V.active=W.active)))):=by
 apply Ud
 intro K hK
 unfold Ns
 refine OpX.call O1 rfl (Calls.ret (KW w x y) ?_)
 rintro v w1 ⟨rfl,rfl⟩
 by_cases hmay:1≤x∧x≤200∧2≤y∧y≤60
 ·rw[decide_eq_true hmay]
  obtain⟨x1,x2,y1,y2⟩:=hmay
  have hb:=h.hb
  have hm:=h.hm
  have hltS:=h.lt
  simp -dsimp (disch:=first|omega|(simp only[go_sem,seval];try omega))only[go_sem,seval,hb]
  rw[Hj F4.1 hm]
  have hca:Chg [] w1 (w1.alloc (.mapIter (some S.m) S.mc #[] S.mc)):=AA _ _
  have hit:(w1.alloc (.mapIter (some S.m) S.mc #[] S.mc)).heap[w1.heap.size]?=some (.mapIter (some S.m) S.mc #[] S.mc):=Lyc.heap_alloc_new _ _ _ rfl
  have hltb:∀z∈S.wins.map Wn.ent,ebo z<S.mc:=by
   intro z hz
   obtain⟨W,hW,rfl⟩:=List.mem_map.1 hz
   exact h.born W hW
  have hebo:(S.wins.map Wn.ent).map ebo=S.wins.map (·.born):=by rw[List.map_map];rfl
  have hndb:((S.wins.map Wn.ent).map ebo).Nodup:=by rw[hebo];exact h.bnd
  generalize w1.alloc (.mapIter (some S.m) S.mc #[] S.mc)=wa at hca hit ⊢
  have hza:=hca.size
  obtain⟨it,hite⟩:∃it,it=w1.heap.size:=⟨_,rfl⟩
  rw[←hite] at hit ⊢
  have hito:¬S.own s it:=fun h9=>by have:=hltS _ h9;omega
  have hR0:∀W∈S.wins,W.L.R=⟨0,0,S.w,S.h-1⟩:=fun W hW=>(ok.win W hW).2.1
  have hR1:(⟨0,0,x,y-1⟩:Rc).ok:=⟨Int.le_refl _,Int.le_refl _,x1,by dsimp only;omega,by dsimp only;omega,by dsimp only;omega⟩
  have h0:SsAt base wa s (S.ro fun _=>⟨0,0,S.w,S.h-1⟩):=by
   unfold Ss.ro
   rw[Jb hR0]
   exact h.chg0 hca
  refine H4 hit hltb hndb (fun done w'=>∃φ,SsAt base w' s (S.ro φ)∧Trn (S.own s) (S.own s) w1 w'∧(∀W∈S.wins,W.born∈done.map ebo→φ W.born=⟨0,0,x,y-1⟩)∧∀W∈S.wins,W.L.root.fits (φ W.born)=true∧(φ W.born).ok)
   ⟨_,h0,Trn.of0 hca (fun _ h=>.inl h),by simp,fun W hW=>let ⟨a,b,c,d⟩:=ok.win W hW;⟨by rw[←b];exact a.lay.fits,by rw[←b];exact a.lay.R⟩⟩ ?_ ?_ ?_ ?_
  ·rintro done wi wj ⟨φ,A,T,f1,f2⟩ hc
   exact⟨φ,A.chg hc (fun z hz=>by simp at hz;subst hz;rw[Ss.ro_own];exact hito),T.priv hc (by simp;omega),f1,f2⟩
  ·rintro done wi ⟨φ,A,T,f1,f2⟩
   have:=A.hm
   rw[show(S.ro φ).wins=S.wins.map (ro φ) from rfl,FG] at this
   exact this
  ·rintro done wi hall ⟨φ,A,T,f1,f2⟩
   have hzi:=T.size
   have hbi:=A.hb
   have lbi:=Aa hbi
   have hall1:∀W∈S.wins,φ W.born=⟨0,0,x,y-1⟩:=fun W hW=>f1 W hW (hall W.ent (List.mem_map.2 ⟨W,hW,rfl⟩))
   dsimp only[Ss.ro] at hbi
   simp -dsimp (disch:=first|omega|(simp only[go_sem,seval];try omega))only[go_sem,seval,hbi]
   refine DI (F:=OpX _ _ _ _) fun wj hwj=>?_
   have hcj:Chg [s] wi wj:=by rw[hwj];exact(Chg.refl _ _).set _ _ (by simp)
   have hbj:wj.heap[s]?=some (.cells #[.int .i64 x,.int .i64 y,.int .i64 S.room,.map (some S.m),.int .i64 S.cur,.bool S.cop,.bool S.pre,.int .i64 S.back,S.tv,.int .i64 S.dis] 81):=by rw[hwj];exact Ar _ _ _ _ rfl lbi
   clear hwj
   obtain⟨A2,T2⟩:=A.self hcj hbj
   have T12:Trn (S.own s) (({ S with w:=x,h:=y,wins:=S.wins.map (ro φ) }:Ss).own s) w1 wj:=(show Trn (S.own s) ((S.ro φ).own s) w1 wi by rw[Ss.ro_own];exact T).trans T2
   have A2:SsAt base wj s { S with w:=x,h:=y,wins:=S.wins.map (ro φ) }:=A2
   have hm2:=A2.hm
   dsimp only at hm2
   rw[FG] at hm2
   have hzj:=T12.size
   rw[Hj F4.1 hm2]
   have hcb:Chg [] wj (wj.alloc (.mapIter (some S.m) S.mc #[] S.mc)):=AA _ _
   have hit2:(wj.alloc (.mapIter (some S.m) S.mc #[] S.mc)).heap[wj.heap.size]?=some (.mapIter (some S.m) S.mc #[] S.mc):=Lyc.heap_alloc_new _ _ _ rfl
   generalize wj.alloc (.mapIter (some S.m) S.mc #[] S.mc)=wb at hcb hit2 ⊢
   have hzb:=hcb.size
   obtain⟨it2,hite2⟩:∃it2,it2=wj.heap.size:=⟨_,rfl⟩
   rw[←hite2] at hit2 ⊢
   refine H4 hit2 hltb hndb (fun done w'=>∃wl,SsAt base w' s { S with w:=x,h:=y,wins:=wl }∧¬(({ S with w:=x,h:=y,wins:=wl }:Ss).own s it2)∧it2<w'.heap.size∧Trn (S.own s) (({ S with w:=x,h:=y,wins:=wl }:Ss).own s) w1 w'∧wl.map Wn.ent=S.wins.map Wn.ent ∧
    ∀V∈wl,∃W∈S.wins,V.n=W.n∧V.L.root=W.L.root∧V.active=W.active∧V.L.newest=W.L.newest∧V.L.R=⟨0,0,x,y-1⟩∧V.L.ok∧(∀i,i∈V.pts.map (·.id)↔i∈V.L.root.ids)∧(V.born∈done.map ebo→V.ok))
    ⟨S.wins.map (ro φ),A2.chg0 hcb,fun h9=>by have:=A2.lt _ h9;omega,Aa hit2,T12.chg0 hcb,FG _ _,fun V hV=>?_⟩ ?_ ?_ ?_ ?_
   ·obtain⟨W,hW,rfl⟩:=List.mem_map.1 hV
    obtain⟨a,b,c,d⟩:=ok.win W hW
    obtain⟨e1,e2⟩:=f2 W hW
    exact⟨W,hW,rfl,rfl,rfl,rfl,hall1 W hW,⟨a.lay.ok,e2,e1,a.lay.nd,a.lay.new,a.lay.few⟩,a.has,fun h9=>by simp at h9⟩
   ·rintro done wi2 wj2 ⟨wl,B1,B2,B2',B3,B4,B5⟩ hc
    exact⟨wl,B1.chg hc (fun z hz=>by simp at hz;subst hz;exact B2),B2,by have:=hc.size;omega,B3.priv hc (by simp;omega),B4,B5⟩
   ·rintro done wi2 ⟨wl,B1,B2,B2',B3,B4,B5⟩
    have:=B1.hm
    dsimp only at this
    rw[B4] at this
    exact this
   ·rintro done2 wi2 hall2 ⟨wl,B1,B2,B2',B3,B4,B5⟩
    have hn:wl.map (·.n)=S.wins.map (·.n):=by
     have:=congrArg (List.map (·.1)) B4
     simpa [Wn.ent,Function.comp_def] using this
    refine hK _ _ (.inr ⟨x1,x2,y1,y2,.inr ⟨rfl,wl,B1,⟨x1,x2,y1,y2,fun V hV=>?_,by rw[hn];exact ok.cur,ok.back0,ok.back1,ok.few,ok.dis0,ok.dis1⟩,B3,hn,fun V hV=>?_⟩⟩)
    ·obtain⟨W,hW,e1,e2,e3,e4,e5,e6,e7,e8⟩:=B5 V hV
     obtain⟨a,b,c,d⟩:=ok.win W hW
     exact⟨e8 (hall2 V.ent (by rw[←B4];exact List.mem_map.2 ⟨V,hV,rfl⟩)),e5,by rw[e4];exact c,by rw[e1];exact d⟩
    ·obtain⟨W,hW,e1,e2,e3,-⟩:=B5 V hV
     exact⟨W,hW,e1,e2,e3⟩
   ·rintro done2 z wi2 next2 ⟨wl,B1,B2,B2',B3,B4,B5⟩ hz hznew hnext
    rw[←B4] at hz
    obtain⟨V,hV,rfl⟩:=List.mem_map.1 hz
    obtain⟨W,hW,e1,e2,e3,e4,e5,e6,e7,e8⟩:=B5 V hV
    have hAV:=B1.each V hV
    have hz3:=B3.size
    dsimp only[Wn.ent]
    simp -dsimp (disch:=first|omega|(simp only[go_sem,seval];try omega))only[go_sem,seval]
    refine OpX.call E3 rfl (Calls.ret (Fa hAV e6 (fun i hi=>(e7 i).1 hi) (by omega)) ?_)
    rintro v wi3 ⟨pts,tc,C1,C2,C3,C4⟩
    have hact:V.active∈V.L.root.ids:=by rw[e2,e3];exact(ok.win W hW).1.act
    obtain⟨D1,D2⟩:=B1.turn (V:={ V with pts:=pts,tc:=tc }) hV rfl rfl rfl C4 C1 (by omega)
    have D2:Trn (({ S with w:=x,h:=y,wins:=wl }:Ss).own s) (({ S with w:=x,h:=y,wins:=Bh wl { V with pts:=pts,tc:=tc } }:Ss).own s) wi2 wi3:=D2
    refine hnext _ ⟨Bh wl { V with pts:=pts,tc:=tc },D1,fun h9=>(D2.grow _ h9).elim B2 fun h9=>by omega,by have:=D2.size;omega,B3.trans D2,by exact(Hy Wn.ent (V:={ V with pts:=pts,tc:=tc }) hV B1.ids rfl rfl).trans B4,fun U hU=>?_⟩ ?_
    ·rcases Eh hU with rfl|⟨hU,hne⟩
     ·exact⟨W,hW,e1,e2,e3,e4,e5,e6,C2,fun _=>⟨e6,hact,C2,C3⟩⟩
     ·obtain⟨W',hW',g1,g2,g3,g4,g5,g6,g7,g8⟩:=B5 U hU
      refine⟨W',hW',g1,g2,g3,g4,g5,g6,g7,fun h9=>g8 ?_⟩
      rw[List.map_append,List.mem_append] at h9
      rcases h9 with h9|h9
      ·exact h9
      ·simp [ebo,Wn.ent] at h9
       exact absurd (by rw[Dn B1.bnd hU hV h9]) hne
    ·obtain⟨F,hc,hF⟩:=D2.chg
     exact⟨F,hc,fun h9=>B2 (hF _ h9)⟩
  ·rintro done z wi next ⟨φ,A,T,f1,f2⟩ hz hznew hnext
   obtain⟨W,hW,rfl⟩:=List.mem_map.1 hz
   have hzi:=T.size
   obtain⟨wok,wR,wnew,wn⟩:=ok.win W hW
   have hAW:=A.each (ro φ W) (List.mem_map.2 ⟨W,hW,rfl⟩)
   have hWb:=hAW.hb
   obtain⟨e1,e2⟩:=f2 W hW
   dsimp only[ro] at hWb
   dsimp only[Wn.ent]
   simp -dsimp (disch:=first|omega|(simp only[go_sem,seval];try omega))only[go_sem,seval,hWb]
   refine OpX.call Om rfl (Calls.ret (KR (L:={ W.L with R:=φ W.born }) hAW.lay ⟨wok.lay.ok,e2,e1,wok.lay.nd,wok.lay.new,wok.lay.few⟩ x (y-1) x1 x2 (by omega) (by omega)) ?_)
   rintro v wj (⟨hf,rfl,hL,hc⟩|⟨hf,rfl,hc⟩)
   ·simp -dsimp (disch:=first|omega|(simp only[go_sem,seval];try omega))only[go_sem,seval]
    obtain⟨A2,T2⟩:=A.ro1 h.ids h.bnd hW hc hL (by omega)
    refine hnext _ ⟨_,A2,T.trans T2,fun V hV hb=>?_,fun V hV=>?_⟩ ?_
    ·unfold upd
     split
     ·rfl
     ·rename_i hne
      refine f1 V hV ?_
      rw[List.map_append,List.mem_append] at hb
      rcases hb with hb|hb
      ·exact hb
      ·simp [ebo,Wn.ent] at hb;exact absurd hb hne
    ·unfold upd
     split
     ·rename_i he
      rw[Dn h.bnd hV hW he]
      exact⟨hf,hR1⟩
     ·exact f2 V hV
    ·obtain⟨F,hc9,hF⟩:=T2.chg
     exact⟨F,hc9,fun h9=>hito (hF _ h9)⟩
   ·unfold AR
    have A2:=A.chg0 hc
    have T2:=T.chg0 hc
    have hbj:=A2.hb
    have hmj:=A2.hm
    dsimp only[Ss.ro] at hbj hmj
    rw[FG] at hmj
    simp -dsimp (disch:=first|omega|(simp only[go_sem,seval];try omega))only[go_sem,seval,hbj]
    rw[Hj F4.1 hmj]
    have hcb:Chg [] wj (wj.alloc (.mapIter (some S.m) S.mc #[] S.mc)):=AA _ _
    have hit2:(wj.alloc (.mapIter (some S.m) S.mc #[] S.mc)).heap[wj.heap.size]?=some (.mapIter (some S.m) S.mc #[] S.mc):=Lyc.heap_alloc_new _ _ _ rfl
    have hltj:=A2.lt
    rw[Ss.ro_own] at hltj
    generalize wj.alloc (.mapIter (some S.m) S.mc #[] S.mc)=wb at hcb hit2 ⊢
    have hzb:=hcb.size
    have hzj:=T2.size
    obtain⟨it2,hite2⟩:∃it2,it2=wj.heap.size:=⟨_,rfl⟩
    rw[←hite2] at hit2 ⊢
    have hito2:¬S.own s it2:=fun h9=>by have:=hltj _ h9;omega
    refine H4 hit2 hltb hndb (fun done w'=>∃φ,SsAt base w' s (S.ro φ)∧Trn (S.own s) (S.own s) w1 w'∧(∀W∈S.wins,W.born∈done.map ebo→φ W.born=⟨0,0,S.w,S.h-1⟩)∧∀W∈S.wins,W.L.root.fits (φ W.born)=true∧(φ W.born).ok)
     ⟨φ,A2.chg0 hcb,T2.chg0 hcb,by simp,f2⟩ ?_ ?_ ?_ ?_
    ·rintro done2 wi2 wj2 ⟨ψ,B1,B2,g1,g2⟩ hc9
     exact⟨ψ,B1.chg hc9 (fun z hz=>by simp at hz;subst hz;rw[Ss.ro_own];exact hito2),B2.priv hc9 (by simp;omega),g1,g2⟩
    ·rintro done2 wi2 ⟨ψ,B1,B2,g1,g2⟩
     have:=B1.hm
     rw[show(S.ro ψ).wins=S.wins.map (ro ψ) from rfl,FG] at this
     exact this
    ·rintro done2 wi2 hall ⟨ψ,B1,B2,g1,g2⟩
     refine OpX.call BZ rfl (Calls.ret (Cb _ 19) ?_)
     rintro v w9 ⟨rfl,rfl⟩
     have eS:S.ro ψ=S:=by
      unfold Ss.ro
      rw[Jb fun V hV=>by rw[hR0 V hV,g1 V hV (hall V.ent (List.mem_map.2 ⟨V,hV,rfl⟩))]]
     rw[eS] at B1
     exact hK _ _ (.inr ⟨x1,x2,y1,y2,.inl ⟨rfl,B1,B2⟩⟩)
    ·rintro done2 z2 wi2 next2 ⟨ψ,B1,B2,g1,g2⟩ hz2 hznew2 hnext2
     obtain⟨V,hV,rfl⟩:=List.mem_map.1 hz2
     obtain⟨vok,vR,vnew,vn⟩:=ok.win V hV
     have hz9:=B2.size
     have hAV:=B1.each (ro ψ V) (List.mem_map.2 ⟨V,hV,rfl⟩)
     have hVb:=hAV.hb
     have hSb:=B1.hb
     obtain⟨k1,k2⟩:=g2 V hV
     have q0:=ok.w0
     have q1:=ok.w1
     have q2:=ok.h0
     have q3:=ok.h1
     dsimp only[ro] at hVb
     dsimp only[Ss.ro] at hSb
     dsimp only[Wn.ent]
     simp -dsimp (disch:=first|omega|(simp only[go_sem,seval];try omega))only[go_sem,seval,hVb,hSb]
     have hcd:Chg [] wi2 wi2.drew:=(Chg.refl _ _).drew
     refine OpX.call Om rfl (Calls.ret (KR (L:={ V.L with R:=ψ V.born }) (hAV.lay.chg0 hcd) ⟨vok.lay.ok,k2,k1,vok.lay.nd,vok.lay.new,vok.lay.few⟩ S.w (S.h-1) q0 q1 (by omega) (by omega)) ?_)
     rintro v wj2 (⟨hf2,rfl,hL2,hc2⟩|⟨hf2,rfl,hc2⟩)
     ·obtain⟨C1,C2⟩:=(B1.chg0 hcd).ro1 h.ids h.bnd hV hc2 hL2 (by show base≤wi2.heap.size;omega)
      have C2:Trn (S.own s) (S.own s) wi2 wj2:=(Trn.of0 hcd fun _ h=>.inl h).trans C2
      refine hnext2 _ ⟨_,C1,B2.trans C2,fun U hU hb=>?_,fun U hU=>?_⟩ ?_
      ·unfold upd
       split
       ·rfl
       ·rename_i hne
        refine g1 U hU ?_
        rw[List.map_append,List.mem_append] at hb
        rcases hb with hb|hb
        ·exact hb
        ·simp [ebo,Wn.ent] at hb;exact absurd hb hne
      ·unfold upd
       split
       ·rename_i he
        rw[Dn h.bnd hU hV he]
        exact⟨by rw[←vR];exact vok.lay.fits,by rw[←vR];exact vok.lay.R⟩
       ·exact g2 U hU
      ·obtain⟨F,hc9,hF⟩:=C2.chg
       exact⟨F,hc9,fun h9=>hito2 (hF _ h9)⟩
     ·have:=vok.lay.fits
      rw[vR,hf2] at this
      cases this
 ·rw[decide_eq_false hmay]
  simp -dsimp (disch:=first|omega|(simp only[go_sem,seval];try omega))only[go_sem,seval]
  refine OpX.call BZ rfl (Calls.ret (Cb _ 1) ?_)
  rintro v w2 ⟨rfl,rfl⟩
  exact hK _ _ (.inl ⟨hmay,rfl,rfl⟩)
end
structure Ev where
 kind:Int
 win:Int
 pane:Int
 s:List UInt8
 w:Int
 h:Int
def Ev.val (e:Ev):Value:=.agg #[.int .i64 e.kind,.int .i64 e.win,.int .i64 e.pane,.string (Ao e.s),.int .i64 e.w,.int .i64 e.h]
inductive DRel (S:Ss) (e:Ev) (S':Ss) (v:Value) (w':World):Prop
 | long:2000<e.s.length→v=AR 16→S'=S→DRel S e S' v w'
 | keys (vs:List (List UInt8 × Value)):e.s.length≤2000→e.kind=1→KRun { S with cop:=(BV S.cop S.pre e.s).cop,pre:=(BV S.cop S.pre e.s).pre } (BV S.cop S.pre e.s).ks S' vs→((∀p∈vs,p.2=.nilIface)→v=.nilIface) →
   (∀word c,vs=[(word,AR c)]→∃b b2,v=.iface 203 (.pointer (some ⟨b,0,none⟩))∧w'.heap[b]?=some (.cells #[.iface 206 (.pointer (some ⟨b2,0,none⟩)),.int .i64 0] 205)∧w'.heap[b2]?=some (.cells #[AR c,.string (Ao word)] 208))→DRel S e S' v w'
 | outN:e.s.length≤2000→e.kind=2→v=AR 12→S'=S→(∀W,S.get e.win=some W→e.pane∉W.pts.map (·.id))→DRel S e S' v w'
 | outY (W:Wn) (p q:Pt) (b:Int):e.s.length≤2000→e.kind=2→v=.nilIface→S.get e.win=some W→p∈W.pts→p.id=e.pane→q.ent=p.ent→q.W=p.W→q.H=p.H →
   (q.M.S,q.T.kept,q.T.E)=({ (BG (p.M.S,p.T.kept,p.T.E) [e.s]).1 with gone:=[] },(BG (p.M.S,p.T.kept,p.T.E) [e.s]).2.1,(BG (p.M.S,p.T.kept,p.T.E) [e.s]).2.2)→(S.back≤0→b=0)→S'={ S with wins:=Bh S.wins { W with pts:=Bl W.pts q },back:=b }→DRel S e S' v w'
 | sizeA:e.s.length≤2000→e.kind=3→¬(1≤e.w∧e.w≤200∧2≤e.h∧e.h≤60)→v=AR 1→S'=S→DRel S e S' v w'
 | sizeN:e.s.length≤2000→e.kind=3→(1≤e.w∧e.w≤200∧2≤e.h∧e.h≤60)→v=AR 19→S'=S→DRel S e S' v w'
 | sizeY (wl:List Wn):e.s.length≤2000→e.kind=3→(1≤e.w∧e.w≤200∧2≤e.h∧e.h≤60)→v=.nilIface→S'={ S with w:=e.w,h:=e.h,wins:=wl }→wl.map (·.n)=S.wins.map (·.n)→(∀V∈wl,∃W∈S.wins,V.n=W.n∧V.L.root=W.L.root∧V.active=W.active)→DRel S e S' v w'
 | kind:e.s.length≤2000→e.kind≠1→e.kind≠2→e.kind≠3→v=AR 18→S'=S→DRel S e S' v w'
section
variable {base:Nat} {w w' w'':World} {s:Nat} {S:Ss} {lim:Int}
theorem Mx (h:SsAt base w s S) (ok:S.ok lim) (hbase:base≤w.heap.size) (hlim:lim≤800000000000000) (e:Ev):Calls Tryz.prog 9 #[.pointer (some ⟨s,0,none⟩),e.val] w
  (Ac fun v w'=>∃S',SsAt base w' s S'∧S'.ok (lim+5000)∧Trn (S.own s) (S'.own s) w w'∧DRel S e S' v w'):=by
 obtain⟨W,hg⟩:=S.get_cur ok
 apply Qk
 intro K hK
 unfold Kc
 unfold Ev.val
 simp -dsimp (disch:=first|omega|(simp only[go_sem,seval];try omega))only[go_sem,seval]
 refine OpX.gen fun w1 hw1=>?_
 have hc1:Chg [] w w1:=by rw[hw1];(repeat (first|exact Chg.refl _ _|apply Chg.drew|apply Chg.alloc|(refine Chg.set ?_ _ _ (by first|(left;simp;done)|(right;omega)))))
 have ae:w1.heap[w.heap.size]?=some (.cells #[.int .i64 e.kind,.int .i64 e.win,.int .i64 e.pane,.string (Ao e.s),.int .i64 e.w,.int .i64 e.h] 34):=by rw[hw1];simp -dsimp (disch:=first|omega|(simp only[go_sem,seval];try omega))only[go_sem,seval]
 clear hw1
 have h1:=h.chg0 hc1
 have hz1:=hc1.size
 have T1:Trn (S.own s) (S.own s) w w1:=.of0 hc1 fun _ h=>.inl h
 refine OpX.call Hc rfl (Calls.ret (I5 h1) ?_)
 rintro v w2 ⟨rfl,rfl⟩
 refine OpX.call DX rfl (Calls.ret (Fo h1 S.cur) ?_)
 rintro v w3 ⟨rfl,rfl⟩
 rw[hg]
 simp only[B0,Option.map_some,Option.getD_some]
 simp -dsimp (disch:=first|omega|(simp only[go_sem,seval];try omega))only[go_sem,seval,ae]
 refine BrW.dec (fun g=>?_) (fun g=>?_)
 ·refine OpX.call BZ rfl (Calls.ret (Cb _ 16) ?_)
  rintro v w4 ⟨rfl,rfl⟩
  exact hK _ _ ⟨S,h1,ok.mono (by omega),T1,.long (by omega) rfl rfl⟩
 have hlen:e.s.length≤2000:=by omega
 simp -dsimp (disch:=first|omega|(simp only[go_sem,seval];try omega))only[go_sem,seval,ae]
 refine BrW.dec (fun g1=>?_) (fun g1=>?_)
 ·simp -dsimp (disch:=first|omega|(simp only[go_sem,seval];try omega))only[go_sem,seval,ae]
  refine OpX.call ZQ rfl (Calls.ret (UI h1 ok (by omega) (by omega) e.s hlen) ?_)
  rintro v w4 ⟨S',vs,A,ok',T,run,e1,e2⟩
  exact hK _ _ ⟨S',A,ok',T1.trans T,.keys vs hlen g1 run e1 e2⟩
 simp -dsimp (disch:=first|omega|(simp only[go_sem,seval];try omega))only[go_sem,seval,ae]
 refine BrW.dec (fun g2=>?_) (fun g2=>?_)
 ·simp -dsimp (disch:=first|omega|(simp only[go_sem,seval];try omega))only[go_sem,seval,ae]
  refine OpX.call XN rfl (Calls.ret (R3 h1 ok (by omega) e.win e.pane e.s hlen) ?_)
  rintro v w4 (⟨rfl,rfl,hno⟩|⟨rfl,W',p,q,b,e1,e2,e3,e4,e5,e6,e7,e8,e9,ok',A,T⟩)
  ·exact hK _ _ ⟨S,h1,ok.mono (by omega),T1,.outN hlen g2 rfl rfl hno⟩
  ·exact hK _ _ ⟨_,A,ok'.mono (by omega),T1.trans T,.outY W' p q b hlen g2 rfl e1 e2 e3 e4 e5 e6 e7 e8 rfl⟩
 simp -dsimp (disch:=first|omega|(simp only[go_sem,seval];try omega))only[go_sem,seval,ae]
 refine BrW.dec (fun g3=>?_) (fun g3=>?_)
 ·simp -dsimp (disch:=first|omega|(simp only[go_sem,seval];try omega))only[go_sem,seval,ae]
  refine OpX.call RN rfl (Calls.ret (Xf h1 ok (by omega) e.w e.h) ?_)
  rintro v w4 (⟨hm,rfl,rfl⟩|⟨x1,x2,y1,y2,⟨rfl,A,T⟩|⟨rfl,wl,A,ok',T,hn,hwl⟩⟩)
  ·exact hK _ _ ⟨S,h1,ok.mono (by omega),T1,.sizeA hlen g3 hm rfl rfl⟩
  ·exact hK _ _ ⟨S,A,ok.mono (by omega),T1.trans T,.sizeN hlen g3 ⟨x1,x2,y1,y2⟩ rfl rfl⟩
  ·exact hK _ _ ⟨_,A,ok'.mono (by omega),T1.trans T,.sizeY wl hlen g3 ⟨x1,x2,y1,y2⟩ rfl rfl hn hwl⟩
 ·refine OpX.call BZ rfl (Calls.ret (Cb _ 18) ?_)
  rintro v w4 ⟨rfl,rfl⟩
  exact hK _ _ ⟨S,h1,ok.mono (by omega),T1,.kind hlen g1 g2 g3 rfl rfl⟩
structure Ss.fresh (S:Ss) (x y room:Int):Prop where
 w:S.w=x
 h:S.h=y
 room:S.room=room
 cur:S.cur=1
 cop:S.cop=false
 pre:S.pre=false
 back:S.back=0
 typed:S.typed=[]
 wins:∃V,S.wins=[V]∧V.n=1∧V.active=1∧∃t,V.L.root=.pane t 1
theorem NT (w:World) (x y room:Int):Calls Tryz.prog 8 #[.int .i64 x,.int .i64 y,.int .i64 room] w
  (Ac fun v w'=>(¬(1≤x∧x≤200∧2≤y∧y≤60)∧v=.pointer none∧w'=w)∨((1≤x∧x≤200∧2≤y∧y≤60)∧∃s S,v=.pointer (some ⟨s,0,none⟩)∧SsAt w.heap.size w' s S∧S.ok 1∧S.fresh x y room∧Chg [] w w')):=by
 apply WL
 intro K hK
 unfold Nk
 refine OpX.call O1 rfl (Calls.ret (KW w x y) ?_)
 rintro v w1 ⟨rfl,rfl⟩
 by_cases hmay:1≤x∧x≤200∧2≤y∧y≤60
 ·rw[decide_eq_true hmay]
  obtain⟨x1,x2,y1,y2⟩:=hmay
  simp -dsimp (disch:=first|omega|(simp only[go_sem,seval];try omega))only[go_sem,seval]
  refine OpX.gen fun w2 hw2=>?_
  have hc2:Chg [] w1 w2:=by rw[hw2];(repeat (first|exact Chg.refl _ _|apply Chg.drew|apply Chg.alloc|(refine Chg.set ?_ _ _ (by first|(left;simp;done)|(right;omega)))))
  have hz2:w2.heap.size=w1.heap.size+2:=by rw[hw2];simp -dsimp (disch:=first|omega|(simp only[go_sem,seval];try omega))only[go_sem,seval]
  have am:w2.heap[w1.heap.size]?=some (.map #[] 0):=by rw[hw2];simp -dsimp (disch:=first|omega|(simp only[go_sem,seval];try omega))only[go_sem,seval]
  have ab:w2.heap[w1.heap.size+1]?=some (.cells #[.int .i64 x,.int .i64 y,.int .i64 room,.map (some w1.heap.size),.int .i64 1,.bool false,.bool false,.int .i64 0,.slice none 0 0,.int .i64 0] 81):=by rw[hw2];simp -dsimp (disch:=first|omega|(simp only[go_sem,seval];try omega))only[go_sem,seval]
  clear hw2
  have ezs:(w1.alloc (Obj.map #[] 0)).heap.size=w1.heap.size+1:=by simp -dsimp (disch:=first|omega|(simp only[go_sem,seval];try omega))only[go_sem,seval]
  refine OpX.call Nz rfl (Calls.ret (LA w2 x (y-1) room x1 x2 (by omega) (by omega)) ?_)
  rintro v w3 ⟨V0,rfl,hV,vok,v1,v2,v3,v4,v5,hc3⟩
  have am3:=hc3.keep am (by simp)
  have ab3:=hc3.keep ab (by simp)
  obtain⟨S0,hS0⟩:∃S0:Ss,S0=⟨x,y,room,w1.heap.size,0,[],1,false,false,0,[],.slice none 0 0,0⟩:=⟨_,rfl⟩
  have A0:SsAt w1.heap.size w2 (w1.heap.size+1) S0:=by
   rw[hS0]
   exact⟨ab,am,by simp,by simp,by simp,Ox.nil _ _ _ _ _,by omega,by dsimp only;omega,by simp,by simp,by simp⟩
  have hlf:Bs ([]:AG) 1=none:=rfl
  have hpc:Dd ([]:AG) 1 0=0+1:=rfl
  have am3':w3.heap[w1.heap.size]?=some (.map (Au .i64 []) 0):=am3
  rw[ezs]
  simp -dsimp (disch:=first|omega|(simp only[go_sem,seval];try omega))only[go_sem,seval,ab3,am3',HM hlf,hpc]
  obtain⟨V,hVe⟩:∃V:Wn,V={ V0 with n:=1,born:=0 }:=⟨_,rfl⟩
  have hV':WnAt w2.heap.size w3 V:=by rw[hVe];exact⟨hV.hb,hV.lay,hV.hm,hV.each,hV.apart,hV.ids,hV.lo⟩
  have vok':V.ok:=by rw[hVe];exact⟨vok.lay,vok.act,vok.has,vok.size⟩
  obtain⟨A1,T1⟩:=A0.addWin hc3 (hV'.base_le (by omega)) (fun x hx=>hV'.lo x hx) (by rw[hVe,hS0]) (by rw[hS0];simp) (by omega)
  subst hS0
  rw[show V.ent=((1:Int),Value.pointer (some ⟨V0.b,0,none⟩),0) by rw[hVe];rfl] at A1 T1
  refine hK _ _ (.inr ⟨⟨x1,x2,y1,y2⟩,w1.heap.size+1,_,rfl,A1,⟨x1,x2,y1,y2,fun W hW=>?_,?_,Int.le_refl _,by show(0:Int)≤1000;decide,by simp,Int.le_refl _,by show(0:Int)≤1;decide⟩,⟨rfl,rfl,rfl,rfl,rfl,rfl,rfl,rfl,V,rfl,by rw[hVe],by rw[hVe];exact v1,by rw[hVe];exact v5⟩,?_⟩)
  ·simp only[List.nil_append,List.mem_singleton] at hW
   subst hW
   exact⟨vok',by rw[hVe];exact v3,by rw[hVe];dsimp only;omega,by rw[hVe];dsimp only;decide⟩
  ·simp [hVe]
  ·exact T1.base hc2 A0.lo
 ·rw[decide_eq_false hmay]
  simp -dsimp (disch:=first|omega|(simp only[go_sem,seval];try omega))only[go_sem,seval]
  exact hK _ _ (.inl ⟨hmay,rfl,rfl⟩)
end
def evF (e:Ev):List Value:=[.int .i64 e.kind,.int .i64 e.win,.int .i64 e.pane,.string (Ao e.s),.int .i64 e.w,.int .i64 e.h]
theorem NM (e:Ev):(evF e).length=6:=rfl
theorem Gq {l l':List Int} (h:CA l) (h':CA l') (hp:l.Perm l'):l=l' :=
 List.Perm.eq_of_pairwise (fun a b _ _ h1 h2=>by omega) h h' hp
def DF (n m k:Int):Int:=k+(n.tmod m+m).tmod m
theorem NO {n m k:Int} (h:0<m):k≤DF n m k∧DF n m k<m+k:=by
 have h1:=Int.lt_tmod_of_pos n h
 have h2:=Int.tmod_nonneg m (show 0≤n.tmod m+m by omega)
 have h3:=Int.tmod_lt_of_pos (n.tmod m+m) h
 unfold DF
 omega
theorem KRun.one {S S':Ss} {k:Ky} {vs:List (List UInt8 × Value)} (h:KRun S [k] S' vs):∃word v,KRel S k S' word v∧vs=[(word,v)]:=by
 generalize hk:[k]=ks at h
 cases h with
 | nil=>cases hk
 | @snoc ks' k' S1 S2 vs' word v run rel =>
  cases ks' with
  | nil =>
   simp only[List.nil_append,List.cons.injEq,and_true] at hk
   subst hk
   generalize hn:([]:List Ky)=q at run
   cases run with
   | nil=>exact⟨word,v,rel,rfl⟩
   | snoc run2 rel2=>simp at hn
  | cons z l=>simp at hk
end Go.Proofs.YtelplojmbjnplaaGreat
namespace Lyc
open Go
section
variable {P:Program}
theorem RI (l:List UInt8):Go.Lib.strCells (Ao l)=l.flatMap Bw:=by rw[OK];rfl
theorem YL {t u ty e:TypeId} {base:Nat} {v:Value} {l m:List UInt8} {K:Value→World→Prop} {w:World} (ht:BF P t=some (e,1,1)) (hz:(P.info? e).bind (·.zero)=some (.int .u8 0)) (hu:Ag P u=some 3) (h:Ox base w e 1 Bw v l) (hlen:l.length+m.length≤1000000000) (hbase:base≤w.heap.size)
  (hK:∀v' w',Ox base w' e 1 Bw v' (l++m)→Chg v.ownBlock.toList w w'→K v' w') :
  OpX P (.call { callee:=.builtin .append,args:=#[.const v,.const (.string (Ao m))],argTypes:=#[t,u] }) ty K w:=by
 obtain⟨h1,i,z,h2,h3,h4,h5,h6,-⟩:=Fs ht
 rw[h2] at hz
 have hz:i.zero=some (.int .u8 0):=hz
 have hx:=h
 unfold Ox at hx
 have hm:(1000000000:Nat)≤maxLen:=by simp [maxLen]
 obtain⟨v',w',hr,hown,hgr,-⟩:=Go.Lib.run_append_own_string (P:=P) w base t u ty e i h1 (Fb hu) h2 hz h4 h5 v l.length _ hx (Ao m) (by rw[Gv];omega) (by rw[Gv];omega) hbase
 rw[Ba (v:=v') (w':=w') fun ρ hg=>by simp [execOp,An,resolve,invoke,builtin,hg.1,hr]]
 refine hK v' w' ?_ (IA hgr)
 unfold Ox
 rw[List.length_append,List.flatMap_append,←RI m]
 rw[Gv] at hown
 exact hown
end
end Lyc
namespace Go.Proofs.YtelplojmbjnplaaGreat
open Lyc Go
def AL (n:Nat):List UInt8:=if h:n<10 then[UInt8.ofNat (48+n)] else AL (n / 10)++[UInt8.ofNat (48+n % 10)]
termination_by n
theorem Ic:∀(k n:Nat),n<10 ^ (k+1)→(AL n).length≤k+1
 | 0,n,h=>by
  rw[AL,dif_pos (by simpa using h)]
  simp
 | k+1,n,h=>by
  rw[AL]
  split
  ·simp
  ·have:=Ic k (n / 10) (by rw[Nat.div_lt_iff_lt_mul (by decide)];rw[Nat.pow_succ] at h;exact h)
   simp only[List.length_append,List.length_singleton]
   omega
structure DM (w0:World) (t3 t4:Nat) (w:World) (l:List UInt8):Prop where
 chg:Chg [t3] w0 w
 h3:∃v,w.heap[t3]?=some (.cells #[v] 161)∧Ox w0.heap.size w 5 1 Bw v l
theorem Yu {w0:World} {t3 t4:Nat} (l3:t3<w0.heap.size) (n34:t3≠t4) (h4:w0.heap[t4]?=some (.cells #[.func (.func 84) #[] #[.pointer (some ⟨t4,0,none⟩),.pointer (some ⟨t3,0,none⟩)]] 147)) :
  ∀(n k:Nat) (w:World) (l:List UInt8),DM w0 t3 t4 w l→n<10 ^ (k+1)→n≤9223372036854775807→l.length+k≤100000000→Calls Tryz.prog 84 #[.int .i64 n,.pointer (some ⟨t4,0,none⟩),.pointer (some ⟨t3,0,none⟩)] w (Ac fun _ w'=>DM w0 t3 t4 w' (l++AL n)):=by
 intro n
 induction n using Nat.strongRecOn with
 | _ n ih =>
  intro k w l h hk hn hl
  have h4w:=h.chg.keep h4 (by simp;exact fun e=>n34 e.symm)
  apply Xn
  intro K hK
  unfold KH
  refine Join0.cut (fun w'=>DM w0 t3 t4 w' (if n<10 then l else l++AL (n / 10))) ?_ ?_
  ·simp -dsimp (disch:=first|omega|(simp only[go_sem,seval];try omega))only[go_sem,seval]
   refine BrW.dec (fun g=>?_) (fun g=>?_)
   ·have hlt:n / 10<n:=by omega
    obtain⟨j,rfl⟩:∃j,k=j+1:=by
     cases k with
     | zero=>omega
     | succ j=>exact⟨j,rfl⟩
    have hq:=ih (n / 10) hlt j w l h (by rw[Nat.div_lt_iff_lt_mul (by decide)];rw[Nat.pow_succ] at hk;exact hk) (by omega) (by omega)
    have eq:(n:Int).tdiv 10=((n / 10:Nat):Int):=rfl
    simp -dsimp (disch:=first|omega|(simp only[go_sem,seval];try omega))only[go_sem,seval,h4w,eq]
    refine OpX.callV (us:=[]) (cs:=[.pointer (some ⟨t4,0,none⟩),.pointer (some ⟨t3,0,none⟩)]) LL (C7 [_]) (Calls.ret hq ?_)
    rintro v w1 h1
    rw[if_neg (by omega)]
    exact h1
   ·rw[if_pos (by omega)]
    exact h
  ·intro w1 h1
   obtain⟨v,a3,o3⟩:=h1.h3
   obtain⟨a,c,rfl,-,-,-,-⟩:=o3.form
   have em:(n:Int).tmod 10=((n % 10:Nat):Int):=rfl
   have hmod:n % 10<10:=Nat.mod_lt _ (by decide)
   simp -dsimp (disch:=first|omega|(simp only[go_sem,seval];try omega))only[go_sem,seval,a3,em]
   have hdl:=Ic k n hk
   have hdn:(if n<10 then l else l++AL (n / 10))++[UInt8.ofNat (48+n % 10)]=l++AL n:=by
    conv=>rhs;rw[AL]
    split
    ·rename_i h9;rw[Nat.mod_eq_of_lt h9]
    ·rw[List.append_assoc]
   have hql:(if n<10 then l else l++AL (n / 10)).length≤100000100:=by
    have:=congrArg List.length hdn
    simp only[List.length_append,List.length_singleton] at this
    omega
   have hbv:((UInt8.ofNat (48+n % 10)).toNat:Int)=48+((n % 10:Nat):Int):=by
    rw[UInt8.toNat_ofNat']
    omega
   generalize (if n<10 then l else l++AL (n / 10))=q at *
   refine OpX.gen fun w2 hw2=>?_
   have hc2:Chg [] w1 w2:=by rw[hw2];(repeat (first|exact Chg.refl _ _|apply Chg.drew|apply Chg.alloc|(refine Chg.set ?_ _ _ (by first|(left;simp;done)|(right;omega)))))
   have hsa:Sx w2 (some 5) Bw (some ⟨w1.heap.size,0,none⟩) [UInt8.ofNat (48+n % 10)]:=Sx.built (c:=Bw (UInt8.ofNat (48+n % 10))) (by rw[hw2];simp only[Bw];rw[hbv];simp -dsimp (disch:=first|omega|(simp only[go_sem,seval];try omega))only[go_sem,seval]) (by simp)
   clear hw2
   have hz:=h1.chg.size
   have hz2:=hc2.size
   refine Bz Ie My Pb (o3.chg0 hc2) hsa rfl (by rw[List.length_singleton];omega) (by omega) (by omega) ?_
   intro v4 w4 ho4 hc4 hown4
   have a34:=hc4.keep (hc2.keep a3 (by simp)) (fun hm=>by have:=o3.own_ge _ hm;omega)
   have l34:=Aa a34
   obtain⟨a9,c9,rfl,-⟩:=ho4.form
   simp -dsimp (disch:=first|omega|(simp only[go_sem,seval];try omega))only[go_sem,seval,a34]
   rw[hdn] at ho4
   refine hK _ _ ⟨((h1.chg.trans0 hc2).trans hc4 (fun x hx=>.inr (o3.own_ge x hx))).set _ _ (by simp),_,Ar _ _ _ _ rfl l34,?_⟩
   rw[hdn]
   exact ho4.low ((Chg.refl [t3] _).set _ _ (by simp)) (by simp;exact l3)
theorem HW (w:World) (n:Int) (h0:0≤n) (h1:n≤9223372036854775807):Calls Tryz.prog 42 #[.int .i64 n] w (Ac fun v w'=>v=.string (Ao (AL n.toNat))∧Chg [] w w'):=by
 obtain⟨m,rfl⟩:=Int.eq_ofNat_of_zero_le h0
 apply Yp
 intro K hK
 unfold OR
 simp -dsimp (disch:=first|omega|(simp only[go_sem,seval];try omega))only[go_sem,seval]
 refine OpX.gen fun w1 hw1=>?_
 have hc1:Chg [] w w1:=by rw[hw1];(repeat (first|exact Chg.refl _ _|apply Chg.drew|apply Chg.alloc|(refine Chg.set ?_ _ _ (by first|(left;simp;done)|(right;omega)))))
 have hz1:w1.heap.size=w.heap.size+2:=by rw[hw1];simp -dsimp (disch:=first|omega|(simp only[go_sem,seval];try omega))only[go_sem,seval]
 have a3:w1.heap[w.heap.size]?=some (.cells #[.slice none 0 0] 161):=by rw[hw1];simp -dsimp (disch:=first|omega|(simp only[go_sem,seval];try omega))only[go_sem,seval]
 have a4:w1.heap[w.heap.size+1]?=some (.cells #[.func (.func 84) #[] #[.pointer (some ⟨w.heap.size+1,0,none⟩),.pointer (some ⟨w.heap.size,0,none⟩)]] 147):=by rw[hw1];simp -dsimp (disch:=first|omega|(simp only[go_sem,seval];try omega))only[go_sem,seval]
 clear hw1
 have hd:=Yu (w0:=w1) (t3:=w.heap.size) (t4:=w.heap.size+1) (by omega) (by omega) a4 m 18 w1 [] ⟨Chg.refl _ _,_,a3,Ox.nil _ _ _ _ _⟩ (by omega) (by omega) (by simp)
 refine OpX.callV (us:=[]) (cs:=[.pointer (some ⟨w.heap.size+1,0,none⟩),.pointer (some ⟨w.heap.size,0,none⟩)]) LL (C7 [_]) (Calls.ret hd ?_)
 rintro v w2 ⟨hc2,v3,b3,o3⟩
 obtain⟨a9,c9,rfl,-,hs9,-,-⟩:=o3.form
 rw[List.nil_append] at b3 hs9
 simp -dsimp (disch:=first|omega|(simp only[go_sem,seval];try omega))only[go_sem,seval,b3]
 rw[Ij (by kernel_rfl) (by kernel_rfl) hs9]
 exact hK _ _ ⟨rfl,hc1.trans hc2 (by simp)⟩
theorem Jl (w:World) {e:Option TypeId} {a:Option Addr} {ls:List (List UInt8)} (hs:Sx w e bsF a ls) (cap:Nat) (hn:ls.length≤8) (hlen:∀p∈ls,p.length≤10000):Calls Tryz.prog 41 #[.slice a ls.length cap] w (Ac fun v w'=>v=.string (Ao ls.flatten)∧Chg [] w w'):=by
 have hsum:∀l:List (List UInt8),(∀p∈l,p.length≤10000)→l.flatten.length≤10000*l.length:=by
  intro l
  induction l with
  | nil=>simp
  | cons x l ih =>
   intro h
   have h1:=h x (by simp)
   have h2:=ih fun p hp=>h p (by simp [hp])
   simp only[List.flatten_cons,List.length_append,List.length_cons]
   omega
 apply SO
 intro K hK
 unfold Ng
 simp -dsimp (disch:=first|omega|(simp only[go_sem,seval];try omega))only[go_sem,seval]
 refine Loop2.st (fun q:Nat=>.int .i64 ((ls.take q).flatten.length:Int)) (fun q=>.int .i64 (q:Int)) (fun q w'=>q≤ls.length∧w'=w) (fun q=>ls.length-q) 0 rfl rfl ⟨by simp,rfl⟩ ?_
 rintro next i wi hn1 ⟨hi,rfl⟩
 have hti:=hsum (ls.take i) fun p hp=>hlen p (List.mem_of_mem_take hp)
 rw[List.length_take] at hti
 simp -dsimp (disch:=first|omega|(simp only[go_sem,seval];try omega))only[go_sem,seval]
 refine BrW.dec (fun g=>?_) (fun g=>?_)
 ·have hi':i<ls.length:=by omega
  obtain⟨b,o,rfl,hbl,hcell⟩:=hs.get1 (g:=fun l=>.string (Ao l)) (fun _=>rfl) (List.getElem?_eq_getElem hi')
  have hpl:=hlen _ (List.getElem_mem hi')
  have e1:(i:Int)+1=((i+1:Nat):Int):=by omega
  have ht:(ls.take (i+1)).flatten.length=(ls.take i).flatten.length+ls[i].length:=by rw[Cs hi',List.flatten_append];simp
  generalize ls[i]=x at *
  have e2:((ls.take i).flatten.length:Int)+(x.length:Int)=((ls.take (i+1)).flatten.length:Int):=by rw[ht];omega
  simp -dsimp (disch:=first|omega|(simp only[go_sem,seval];try omega))only[go_sem,seval,hcell,e1,e2]
  exact hn1 (i+1) _ ⟨by omega,rfl⟩ (by omega)
 have hil:i=ls.length:=by omega
 subst hil
 rw[List.take_length] at hti ⊢
 refine HD (f:=Bw) (base:=wi.heap.size) WN rfl (by omega) (by omega) (by decide) (by decide) (Nat.le_refl _) ?_
 intro w1 hw1 ho1
 have hc1:Chg [] wi w1:=by rw[hw1];(repeat (first|exact Chg.refl _ _|apply Chg.drew|apply Chg.alloc|(refine Chg.set ?_ _ _ (by first|(left;simp;done)|(right;omega)))))
 clear hw1
 generalize (((ls.flatten.length:Nat):Int)).toNat=cp at ho1 ⊢
 simp -dsimp (disch:=first|omega|(simp only[go_sem,seval];try omega))only[go_sem,seval]
 refine Loop2.st (fun q:Nat × Option Addr × Nat=>.slice q.2.1 (ls.take q.1).flatten.length q.2.2) (fun q=>.int .i64 (q.1:Int)) (fun q w'=>q.1≤ls.length∧Chg [] wi w'∧Ox wi.heap.size w' 5 1 Bw (.slice q.2.1 (ls.take q.1).flatten.length q.2.2) (ls.take q.1).flatten) (fun q=>ls.length-q.1) (0,some ⟨wi.heap.size,0,none⟩,cp) rfl rfl ⟨Nat.zero_le _,hc1,ho1⟩ ?_
 rintro next2 ⟨i,a2,c2⟩ wj hn2 ⟨hi,hc,ho⟩
 dsimp only at hi hc ho ⊢
 have htj:=hsum (ls.take i) fun p hp=>hlen p (List.mem_of_mem_take hp)
 rw[List.length_take] at htj
 simp -dsimp (disch:=first|omega|(simp only[go_sem,seval];try omega))only[go_sem,seval]
 refine BrW.dec (fun g=>?_) (fun g=>?_)
 ·have hi':i<ls.length:=by omega
  obtain⟨b,o,rfl,hbl,hcell⟩:=(hs.chg0 hc).get1 (g:=fun l=>.string (Ao l)) (fun _=>rfl) (List.getElem?_eq_getElem hi')
  have hpl:=hlen _ (List.getElem_mem hi')
  have e1:(i:Int)+1=((i+1:Nat):Int):=by omega
  have ht:(ls.take (i+1)).flatten=(ls.take i).flatten++ls[i]:=by rw[Cs hi',List.flatten_append];simp
  generalize ls[i]=x at *
  simp -dsimp (disch:=first|omega|(simp only[go_sem,seval];try omega))only[go_sem,seval,hcell]
  refine YL Ie (by kernel_rfl) (by kernel_rfl) ho (by omega) (by have:=hc.size;omega) ?_
  intro v3 w3 ho3 hc3
  rw[←ht] at ho3
  obtain⟨a9,c9,rfl,-⟩:=ho3.form
  simp -dsimp (disch:=first|omega|(simp only[go_sem,seval];try omega))only[go_sem,seval,e1]
  exact hn2 (i+1,a9,c9) _ ⟨by dsimp only;omega,hc.trans hc3 (fun y hy=>.inr (ho.own_ge y hy)),ho3⟩ (by dsimp only;omega)
 ·have hil:i=ls.length:=by omega
  subst hil
  rw[List.take_length] at ho ⊢
  obtain⟨a9,c9,e9,-,hs9,-,-⟩:=ho.form
  simp only[Value.slice.injEq] at e9
  obtain⟨rfl,-,rfl⟩:=e9
  rw[Ij (by kernel_rfl) (by kernel_rfl) hs9]
  exact hK _ _ ⟨rfl,hc⟩
def BD (ks:List Int) (cur:Int):List UInt8:=(ks.map fun k=>[32]++AL k.toNat++(if k=cur then[42] else[])).flatten
def Bu (ks:List Int) (cur:Int) (cop:Bool) (back hands:Int):List UInt8 :=
 BD ks cur++(if cop then[32,99,111,112,121,32]++AL back.toNat else[])++(if 0<hands then[32,104,97,110,100,115,32]++AL hands.toNat else[])
theorem EN {n:Int} (h:n≤9223372036854775807):(AL n.toNat).length≤19:=Ic 18 _ (by omega)
theorem HY (cur:Int):∀ks:List Int,(∀k∈ks,1≤k∧k≤9)→(BD ks cur).length≤30*ks.length
 | [],_=>by simp [BD]
 | k::ks,h=>by
  have h1:=HY cur ks fun x hx=>h x (by simp [hx])
  have h2:=EN (n:=k) (by have:=h k (by simp);omega)
  have h3:(if k=cur then[42] else([]:List UInt8)).length≤1:=by split<;>simp
  have e:BD (k::ks) cur=([32]++AL k.toNat++(if k=cur then[42] else[]))++BD ks cur:=rfl
  rw[e]
  generalize (if k=cur then[42] else([]:List UInt8))=m at *
  simp only[List.length_append,List.length_cons,List.length_nil]
  omega
section
variable {base:Nat} {w w':World} {s:Nat} {S:Ss} {lim:Int}
theorem Rx (w:World) (n:Int):Calls Tryz.prog 14 #[.pointer none,.int .i64 n] w (Ac fun v w'=>v=.string (Ao [])∧w'=w):=by
 apply Lg
 intro K hK
 unfold IB
 simp -dsimp (disch:=first|omega|(simp only[go_sem,seval];try omega))only[go_sem,seval]
 exact hK _ _ ⟨rfl,rfl⟩
theorem E8 (h:SsAt base w s S) (ok:S.ok lim) (hands:Int) (hh:hands≤9223372036854775807):Calls Tryz.prog 14 #[.pointer (some ⟨s,0,none⟩),.int .i64 hands] w
  (Ac fun v w'=>∃ks,ks.Perm (S.wins.map (·.n))∧CA ks∧v=.string (Ao (Bu ks S.cur S.cop S.back hands))∧Chg [] w w'):=by
 have hlen:=h.len ok
 apply Lg
 intro K hK
 unfold IB
 simp -dsimp (disch:=first|omega|(simp only[go_sem,seval];try omega))only[go_sem,seval]
 refine OpX.call Md rfl (Calls.ret (K1 h (by omega)) ?_)
 rintro v w1 ⟨ks,k1,k2,ko,hc1⟩
 obtain⟨a,cap,rfl,-,hs,-,-⟩:=ko.form
 have hkl:ks.length≤9:=by rw[k1.length_eq,List.length_map];exact hlen
 have hkb:∀k∈ks,1≤k∧k≤9:=fun k hk=>by
  obtain⟨W,hW,e⟩:=List.mem_map.1 (k1.mem_iff.1 hk)
  have:=(ok.win W hW).2.2.2
  omega
 simp -dsimp (disch:=first|omega|(simp only[go_sem,seval];try omega))only[go_sem,seval]
 refine Loop2.st (fun q:Nat=>.string (Ao (BD (ks.take q) S.cur))) (fun q=>.int .i64 (q:Int)) (fun q w'=>q≤ks.length∧Chg [] w w'∧Chg [] w1 w') (fun q=>ks.length-q) 0 rfl rfl ⟨by simp,hc1,Chg.refl _ _⟩ ?_
 rintro next i wi hn ⟨hi,hc,hci⟩
 have hsl:=HY S.cur (ks.take i) fun k hk=>hkb k (List.mem_of_mem_take hk)
 rw[List.length_take] at hsl
 have hA:=h.chg0 hc
 simp -dsimp (disch:=first|omega|(simp only[go_sem,seval];try omega))only[go_sem,seval]
 refine BrW.dec (fun g=>?_) (fun g=>?_)
 ·have hi':i<ks.length:=by omega
  obtain⟨b,o,rfl,hbl,hcell⟩:=(hs.chg0 hci).get1 (g:=fun n=>.int .i64 n) (fun _=>rfl) (List.getElem?_eq_getElem hi')
  have hkm:=hkb _ (List.getElem_mem hi')
  have e1:(i:Int)+1=((i+1:Nat):Int):=by omega
  have ht:BD (ks.take (i+1)) S.cur=[BD (ks.take i) S.cur,[32],AL ks[i].toNat,if ks[i]=S.cur then[42] else[]].flatten:=by unfold BD;rw[Cs hi',List.map_append,List.flatten_append];simp only[List.map_cons,List.map_nil,List.flatten_cons,List.flatten_nil,List.append_nil,List.append_assoc]
  generalize ks[i]=x at *
  simp -dsimp (disch:=first|omega|(simp only[go_sem,seval];try omega))only[go_sem,seval,hcell]
  refine Join1.cut (fun v w'=>v=.string (Ao (if x=S.cur then[42] else[]))∧w'=wi) ?_ ?_
  ·refine OpX.call Hc rfl (Calls.ret (I5 hA) ?_)
   rintro v w2 ⟨rfl,rfl⟩
   simp -dsimp (disch:=first|omega|(simp only[go_sem,seval];try omega))only[go_sem,seval]
   refine BrW.dec (fun g=>?_) (fun g=>?_)
   ·rw[if_pos g];exact⟨rfl,rfl⟩
   ·rw[if_neg g];exact⟨rfl,rfl⟩
  ·rintro v w2 ⟨rfl,rfl⟩
   refine OpX.call IV rfl (Calls.ret (HW w2 x (by omega) (by omega)) ?_)
   rintro v w3 ⟨rfl,hc3⟩
   have hdl:=EN (n:=x) (by omega)
   simp -dsimp (disch:=first|omega|(simp only[go_sem,seval];try omega))only[go_sem,seval]
   refine OpX.gen fun w4 hw4=>?_
   have hc4:Chg [] w3 w4:=by rw[hw4];(repeat (first|exact Chg.refl _ _|apply Chg.drew|apply Chg.alloc|(refine Chg.set ?_ _ _ (by first|(left;simp;done)|(right;omega)))))
   have hsa:Sx w4 (some 9) bsF (some ⟨w3.heap.size,0,none⟩) [BD (ks.take i) S.cur,[32],AL x.toNat,if x=S.cur then[42] else[]]:=Sx.built (c:=bsF (BD (ks.take i) S.cur)++bsF [32]++bsF (AL x.toNat)++bsF (if x=S.cur then[42] else[])) (by rw[hw4];simp only[bsF];simp -dsimp (disch:=first|omega|(simp only[go_sem,seval];try omega))only[go_sem,seval];rfl) (by simp)
   clear hw4
   have hall:∀p∈([BD (ks.take i) S.cur,[32],AL x.toNat,if x=S.cur then[42] else[]]:List (List UInt8)),p.length≤10000:=by
    intro p hp
    simp only[List.mem_cons,List.not_mem_nil,or_false] at hp
    rcases hp with rfl|rfl|rfl|rfl
    ·omega
    ·simp
    ·omega
    ·split<;>simp
   refine OpX.call Jm rfl (Calls.ret (Jl w4 hsa 4 (by simp) hall) ?_)
   rintro v w5 ⟨rfl,hc5⟩
   rw[←ht]
   simp -dsimp (disch:=first|omega|(simp only[go_sem,seval];try omega))only[go_sem,seval,e1]
   exact hn (i+1) _ ⟨by omega,((hc.trans0 hc3).trans0 hc4).trans0 hc5,((hci.trans0 hc3).trans0 hc4).trans0 hc5⟩ (by omega)
 ·have hil:i=ks.length:=by omega
  subst hil
  rw[List.take_length] at hsl ⊢
  have hb0:=ok.back0
  have hb1:=ok.back1
  have hbl:=EN (n:=S.back) (by omega)
  refine Join1.cut (fun v w'=>v=.string (Ao (BD ks S.cur++(if S.cop then[32,99,111,112,121,32]++AL S.back.toNat else[])))∧Chg [] w w') ?_ ?_
  ·refine OpX.call W4 rfl (Calls.ret (UL hA) ?_)
   rintro v w2 ⟨rfl,hc2⟩
   have hc02:=hc.trans0 hc2
   have hA2:=h.chg0 hc02
   cases hcop:S.cop
   ·simp -dsimp (disch:=first|omega|(simp only[go_sem,seval];try omega))only[go_sem,seval]
    simp only[Bool.false_eq_true,if_false,List.append_nil]
    exact⟨trivial,hc02⟩
   ·simp -dsimp (disch:=first|omega|(simp only[go_sem,seval];try omega))only[go_sem,seval]
    refine OpX.call YM rfl (Calls.ret (Vs hA2) ?_)
    rintro v w3 ⟨rfl,rfl⟩
    refine OpX.call IV rfl (Calls.ret (HW _ S.back (by omega) (by omega)) ?_)
    rintro v w4 ⟨rfl,hc4⟩
    simp -dsimp (disch:=first|omega|(simp only[go_sem,seval];try omega))only[go_sem,seval]
    refine OpX.gen fun w5 hw5=>?_
    have hc5:Chg [] w4 w5:=by rw[hw5];(repeat (first|exact Chg.refl _ _|apply Chg.drew|apply Chg.alloc|(refine Chg.set ?_ _ _ (by first|(left;simp;done)|(right;omega)))))
    have hsa:Sx w5 (some 9) bsF (some ⟨w4.heap.size,0,none⟩) [BD ks S.cur,[32,99,111,112,121,32],AL S.back.toNat]:=Sx.built (c:=bsF (BD ks S.cur)++bsF [32,99,111,112,121,32]++bsF (AL S.back.toNat)) (by rw[hw5];simp only[bsF];simp -dsimp (disch:=first|omega|(simp only[go_sem,seval];try omega))only[go_sem,seval];rfl) (by simp)
    clear hw5
    have hall:∀p∈([BD ks S.cur,[32,99,111,112,121,32],AL S.back.toNat]:List (List UInt8)),p.length≤10000:=by
     intro p hp
     simp only[List.mem_cons,List.not_mem_nil,or_false] at hp
     rcases hp with rfl|rfl|rfl
     ·omega
     ·simp
     ·omega
    refine OpX.call Jm rfl (Calls.ret (Jl w5 hsa 3 (by simp) hall) ?_)
    rintro v w6 ⟨rfl,hc6⟩
    refine⟨?_,((hc02.trans0 hc4).trans0 hc5).trans0 hc6⟩
    simp
  ·rintro v w2 ⟨rfl,hc2⟩
   have hcl:(if S.cop then[32,99,111,112,121,32]++AL S.back.toNat else([]:List UInt8)).length≤30:=by split<;>simp;omega
   have hhl:=EN hh
   obtain⟨q,hq⟩:∃q,q=BD ks S.cur++(if S.cop then[32,99,111,112,121,32]++AL S.back.toNat else[]):=⟨_,rfl⟩
   rw[←hq]
   have hql:q.length≤400:=by rw[hq,List.length_append];omega
   have hfin:Bu ks S.cur S.cop S.back hands=q++(if 0<hands then[32,104,97,110,100,115,32]++AL hands.toNat else[]):=by rw[hq];rfl
   refine Join1.cut (fun v w'=>v=.string (Ao (Bu ks S.cur S.cop S.back hands))∧Chg [] w w') ?_ (fun v w' h=>hK _ _ ⟨ks,k1,k2,h⟩)
   rw[hfin]
   simp -dsimp (disch:=first|omega|(simp only[go_sem,seval];try omega))only[go_sem,seval]
   refine BrW.dec (fun g=>?_) (fun g=>?_)
   ·refine OpX.call IV rfl (Calls.ret (HW _ hands (by omega) hh) ?_)
    rintro v w4 ⟨rfl,hc4⟩
    simp -dsimp (disch:=first|omega|(simp only[go_sem,seval];try omega))only[go_sem,seval]
    refine OpX.gen fun w5 hw5=>?_
    have hc5:Chg [] w4 w5:=by rw[hw5];(repeat (first|exact Chg.refl _ _|apply Chg.drew|apply Chg.alloc|(refine Chg.set ?_ _ _ (by first|(left;simp;done)|(right;omega)))))
    have hsa:Sx w5 (some 9) bsF (some ⟨w4.heap.size,0,none⟩) [q,[32,104,97,110,100,115,32],AL hands.toNat]:=Sx.built (c:=bsF q++bsF [32,104,97,110,100,115,32]++bsF (AL hands.toNat)) (by rw[hw5];simp only[bsF];simp -dsimp (disch:=first|omega|(simp only[go_sem,seval];try omega))only[go_sem,seval];rfl) (by simp)
    clear hw5
    have hall:∀p∈([q,[32,104,97,110,100,115,32],AL hands.toNat]:List (List UInt8)),p.length≤10000:=by
     intro p hp
     simp only[List.mem_cons,List.not_mem_nil,or_false] at hp
     rcases hp with rfl|rfl|rfl
     ·omega
     ·simp
     ·omega
    refine OpX.call Jm rfl (Calls.ret (Jl w5 hsa 3 (by simp) hall) ?_)
    rintro v w6 ⟨rfl,hc6⟩
    rw[if_pos g]
    refine⟨?_,((hc2.trans0 hc4).trans0 hc5).trans0 hc6⟩
    simp
   ·rw[if_neg g,List.append_nil]
    exact⟨rfl,hc2⟩
end
def BO (t:List UInt8) (x:Nat):Cel:=⟨(t[x]?.map fun b=>(b.toNat:Int)).getD 32,0,0,32⟩
def Fx (n:Nat) (t:List UInt8):List Cel:=AD n (BO t)
def CF (r:Rc):Cel:=⟨if r.w=1 then 124 else 45,0,0,0⟩
theorem _root_.Lyc.Ox.open_ {α:Type} {base:Nat} {w:World} {e:TypeId} {m:Nat} {f:α→List Value} {v:Value} {l:List α} (h:Ox base w e m f v l) (hf:∀x,(f x).length=m) {i:Nat} {x:α} (hi:l[i]?=some x) :
  ∃g cap pre post,v=.slice (some ⟨g,0,none⟩) l.length cap∧base≤g∧g<w.heap.size∧pre.length=i*m∧w.heap[g]?=some (.cells (pre++f x++post).toArray e (0,0))∧∀y w',w'.heap[g]?=some (.cells (pre++f y++post).toArray e (0,0))→Ox base w' e m f v (l.set i y):=by
 have hil:i<l.length:=(List.getElem?_eq_some_iff.1 hi).1
 obtain⟨hl,h⟩:=h
 rcases h with ⟨rfl,h0⟩|⟨g,cap,cur,rfl,hb,hg,hn,hm,hs,ht⟩
 ·omega
 ·have hset:=fun y=>F5 hf l i x y hi
  obtain⟨pre,post,h1,h2,-⟩:=hset x
  have h3:∀y,(l.set i y).flatMap f=pre++f y++post:=by
   intro y
   obtain⟨pre',post',k1,k2,k3⟩:=hset y
   rw[k3]
   have e1:=h1.symm.trans k1
   rw[List.append_assoc,List.append_assoc] at e1
   obtain⟨e2,e3⟩:=List.append_inj e1 (by omega)
   obtain⟨e4,e5⟩:=List.append_inj e3 rfl
   rw[←e2,←e5]
  have hcur:cur=(pre++f x++(post++cur.toList.drop (l.length*m))).toArray:=by
   have e1:cur.toList=l.flatMap f++cur.toList.drop (l.length*m):=by rw[←ht];simp
   apply Array.ext'
   rw[h1] at e1
   simpa using e1
  refine⟨g,cap,pre,post++cur.toList.drop (l.length*m),rfl,hb,Aa hg,h2,by rw[←hcur];exact hg,fun y w' hw=>?_⟩
  refine⟨by simp [Az hf],.inr ⟨g,cap,_,by simp,hb,hw,by simpa using hn,hm,?_,?_⟩⟩
  ·have:=congrArg Array.size hcur
   simp [hf] at this
   simp [hf]
   omega
  ·have hlen:(pre++f y++post).length=(l.set i y).length*m:=by rw[←h3,Az hf]
   show(pre++f y++(post++cur.toList.drop (l.length*m))).take _=_
   rw[h3,←List.append_assoc,List.take_append_of_le_length (by omega),List.take_of_length_le (by omega)]
theorem Zr (w:World) (n:Nat) (n1:n≤200) (t:List UInt8) (ht:t.length≤10000):Calls Tryz.prog 36 #[.int .i64 n,.string (Ao t)] w (Ac fun v w'=>Ox w.heap.size w' 43 4 Cel.cells v (Fx n t)∧Chg [] w w'):=by
 apply Y4
 intro K hK
 unfold NG
 refine Gu (z:=Cel.none) (f:=Cel.cells) (base:=w.heap.size) EM Cel.len rfl (by omega) (by decide) (by decide) (Nat.le_refl _) ?_
 intro w1 hw1 ho1
 have hc1:Chg [] w w1:=by rw[hw1];(repeat (first|exact Chg.refl _ _|apply Chg.drew|apply Chg.alloc|(refine Chg.set ?_ _ _ (by first|(left;simp;done)|(right;omega)))))
 clear hw1
 simp -dsimp (disch:=first|omega|(simp only[go_sem,seval];try omega))only[go_sem,seval]
 refine Loop1.st (fun q:Nat=>.int .i64 (q:Int)) (fun q w'=>q≤n∧Chg [] w w'∧Ox w.heap.size w' 43 4 Cel.cells (.slice (some ⟨w.heap.size,0,none⟩) n n) (AD n fun x=>if x<q then BO t x else Cel.none)) (fun q=>n-q) 0 rfl ⟨by omega,hc1,?_⟩ ?_
 ·have e:(AD n fun x=>if x<0 then BO t x else Cel.none)=List.replicate n Cel.none:=by
   unfold AD
   simp only[Nat.not_lt_zero,if_false]
   exact List.map_const'.trans (by rw[List.length_range])
  rw[e];exact ho1
 rintro next i wi hn ⟨hi,hc,ho⟩
 simp -dsimp (disch:=first|omega|(simp only[go_sem,seval];try omega))only[go_sem,seval]
 refine BrW.dec (fun g=>?_) (fun g=>?_)
 ·have hi':i<n:=by omega
  refine OpX.call D5 rfl (Calls.ret (DS wi) ?_)
  rintro v w2 ⟨rfl,hc2⟩
  have ho2:=ho.chg0 hc2
  have e1:(i:Int)+1=((i+1:Nat):Int):=by omega
  have hll:(AD n fun x=>if x<i then BO t x else Cel.none).length=n:=AX _ _
  obtain⟨gb,cap,pre,post,ev,hgb,hgl,hpre,hblk,hcl⟩:=ho2.open_ Cel.len (Fp hi')
  rw[hll] at ev
  simp only[Value.slice.injEq,Option.some.injEq,Addr.mk.injEq,and_true,true_and] at ev
  obtain⟨rfl,rfl⟩:=ev
  rw[if_neg (by omega)] at hblk
  generalize hgs:w.heap.size=gb at *
  have hp1:Ax w2.heap[gb]? (i*4) Cel.blank.cells=some (.cells (pre++Cel.blank.cells++post).toArray 43):=by rw[hblk];exact Cx _ _ _ _ _ _ hpre rfl
  have hlast:∀y:Cel,Ax (some (.cells (pre++y.cells++post).toArray 43)) (i*4+3) [.int .u8 32]=some (.cells (pre++({ y with a:=32 }:Cel).cells++post).toArray 43):=by
   intro y
   have:=Cx (pre++[.int .i32 y.r,.int .u8 y.fg.toNat,.int .u8 y.bg.toNat]) [.int .u8 y.a.toNat] [.int .u8 32] post 43 (i*4+3) (by simp;omega) rfl
   simpa [Cel.cells] using this
  have hfst:∀(y:Cel) (r:Int),Ax (some (.cells (pre++y.cells++post).toArray 43)) (i*4) [.int .i32 r]=some (.cells (pre++({ y with r:=r }:Cel).cells++post).toArray 43):=by
   intro y r
   have:=Cx pre [.int .i32 y.r] [.int .i32 r] ([.int .u8 y.fg.toNat,.int .u8 y.bg.toNat,.int .u8 y.a.toNat]++post) 43 (i*4) hpre rfl
   simpa [Cel.cells] using this
  simp only[Cel.val,Cel.cells] at hp1 ⊢
  simp -dsimp (disch:=first|omega|(simp only[go_sem,seval];try omega))only[go_sem,seval,hp1]
  have lg:=hgl
  refine DI (F:=Join0 _ _) fun w3 hw3=>?_
  have hc3:Chg [gb] w2 w3:=by rw[hw3];(repeat (first|exact Chg.refl _ _|apply Chg.drew|apply Chg.alloc|(refine Chg.set ?_ _ _ (by first|(left;simp;done)|(right;omega)))))
  have hb3:w3.heap[gb]?=some (.cells (pre++Cel.blank.cells++post).toArray 43):=by rw[hw3];simp only[Cel.cells,List.append_assoc,List.cons_append,List.nil_append];exact Ar _ _ _ _ rfl hgl
  clear hw3
  refine Join0.cut (fun w'=>w'.heap[gb]?=some (.cells (pre++({ Cel.blank with r:=(BO t i).r }:Cel).cells++post).toArray 43)∧Chg [gb] w2 w') ?_ ?_
  ·simp -dsimp (disch:=first|omega|(simp only[go_sem,seval];try omega))only[go_sem,seval]
   refine BrW.dec (fun g9=>?_) (fun g9=>?_)
   ·have hti:i<t.length:=by omega
    have hch:chL (Ao t) i=some (.int .u8 t[i].toNat):=by rw[au,if_pos (by omega),Int.toNat_natCast,List.getElem?_eq_getElem hti];rfl
    have hr:(BO t i).r=(t[i].toNat:Int):=by unfold BO;rw[List.getElem?_eq_getElem hti];rfl
    have hub:=t[i].toNat_lt
    rw[hr]
    generalize t[i]=b at *
    have l3:=Aa hb3
    have hf3:=hfst Cel.blank (b.toNat:Int)
    rw[←hb3] at hf3
    simp -dsimp (disch:=first|omega|(simp only[go_sem,seval];try omega))only[go_sem,seval,hch,hf3]
    exact hc3.set _ _ (by simp)
   ·have hr:BO t i={ Cel.blank with a:=32 }:=by unfold BO;rw[List.getElem?_eq_none (by omega)];rfl
    rw[hr]
    exact⟨hb3,hc3⟩
  ·rintro w4 ⟨hb4,hc4⟩
   have l4:=Aa hb4
   have hl4:=hlast { Cel.blank with r:=(BO t i).r }
   rw[←hb4] at hl4
   simp -dsimp (disch:=first|omega|(simp only[go_sem,seval];try omega))only[go_sem,seval,hl4,e1]
   have hfin:=hcl { Cel.blank with r:=(BO t i).r,a:=32 } (Ab w4 gb (.cells (pre++({ Cel.blank with r:=(BO t i).r,a:=32 }:Cel).cells++post).toArray 43)) (Ar _ _ _ _ rfl l4)
   have hset:(AD n fun x=>if x<i then BO t x else Cel.none).set i { Cel.blank with r:=(BO t i).r,a:=32 }=AD n fun x=>if x<i+1 then BO t x else Cel.none:=by
    refine PG hi' (by rw[if_pos (by omega)];rfl) fun k hk hne=>?_
    by_cases h9:k<i
    ·rw[if_pos h9,if_pos (by omega)]
    ·rw[if_neg h9,if_neg (by omega)]
   rw[hset] at hfin
   simp only[Cel.cells,List.append_assoc,List.cons_append,List.nil_append] at hfin
   refine hn (i+1) _ ⟨by omega,?_,hfin⟩ (by omega)
   exact((hc.trans0 hc2).trans hc4 (fun x hx=>.inr (by simp at hx;omega))).set _ _ (.inr (by omega))
 ·have hil:i=n:=by omega
  subst hil
  refine hK _ _ ⟨?_,hc⟩
  have e:(AD i fun x=>if x<i then BO t x else Cel.none)=Fx i t:=CZ fun x hx=>if_pos hx
  rw[e] at ho
  exact ho
def Wn.viewAt (W:Wn) (back:Int→Int) (id:Int):Gr:=match W.pts.find? (fun p=>p.ent.1 == id) with
 | some p=>CJ p.M.S p.G.list (back id)
 | none=>⟨0,0,[]⟩
def CT (V:Int→Gr) (g:Gr) (l:List (Int × Rc)):Gr:=l.foldl (fun g p=>g.blit (V p.1) p.2.x p.2.y) g
def CO (g:Gr) (l:List Rc):Gr:=l.foldl (fun g r=>g.fill r.x r.y r.w r.h (CF r)) g
def Ss.gridL (S:Ss) (W:Wn):Gr:=CO (CT (W.viewAt (S.backOf S.cur W)) (Gr.plain S.w.toNat S.h.toNat Cel.blank) (W.L.root.panes W.L.R)) (W.L.root.bords W.L.R)
def Ss.grid (S:Ss) (W:Wn) (t:List UInt8):Gr:=(S.gridL W).put 0 (S.h-1) (Fx S.w.toNat t)
theorem Gi {V:Int→Gr} {w h:Nat}:∀{l:List (Int × Rc)} {g:Gr},g.fit w h→(CT V g l).fit w h
 | [],_,h=>h
 | p::l,g,hg=>Gi (l:=l) (g:=g.blit (V p.1) p.2.x p.2.y) ⟨Gr.chg_ok hg.ok fun _ _ _ _=>AX _ _,Gr.chg_right hg.ok hg.r fun _ _ _ _=>AX _ _,hg.w,hg.h⟩
theorem GO {w h:Nat}:∀{l:List Rc} {g:Gr},g.fit w h→(CO g l).fit w h
 | [],_,h=>h
 | r::l,g,hg=>GO (l:=l) (g:=g.fill r.x r.y r.w r.h (CF r)) hg.fill
theorem Q4 (V:Int→Gr) (g:Gr) (l:List (Int × Rc)) (p:Int × Rc):CT V g (l++[p])=(CT V g l).blit (V p.1) p.2.x p.2.y:=by simp [CT]
theorem SN (g:Gr) (l:List Rc) (r:Rc):CO g (l++[r])=(CO g l).fill r.x r.y r.w r.h (CF r):=by simp [CO]
theorem MS {w h:Nat} (w0:0<w) (w1:w≤200) (h0:0<h) (h1:h≤60):(Gr.plain w h Cel.blank).fit w h:=⟨Gr.plain_ok w0 w1 h0 h1 _,Gr.plain_right (by decide),rfl,rfl⟩
theorem Xv (r:Rc):(CF r).usual=true:=by unfold CF;split<;>decide
structure GC (w0:World) (t7:Nat) (wi:World) (g:Gr):Prop where
 chg:Chg [] w0 wi
 at_:∃nb cap,wi.heap[t7]?=some (.cells #[.int .i64 g.w,.int .i64 g.h,.slice (some ⟨nb,0,none⟩) g.cs.length cap] 38)∧g.cs.length≤cap∧w0.heap.size≤nb∧SxC wi (some 43) (some ⟨nb,0,none⟩) g.cs
section
variable {base:Nat} {w w':World} {s:Nat} {S:Ss} {lim:Int}
theorem Yd (w:World) (n:Int):Calls Tryz.prog 12 #[.pointer none,.int .i64 n] w (Ac fun v w'=>v=.agg #[.int .i64 0,.int .i64 0,.slice none 0 0]∧Chg [] w w'):=by
 apply O3
 intro K hK
 unfold IK
 simp -dsimp (disch:=first|omega|(simp only[go_sem,seval];try omega))only[go_sem,seval]
 exact hK _ _ ⟨rfl,by(repeat (first|exact Chg.refl _ _|apply Chg.drew|apply Chg.alloc|(refine Chg.set ?_ _ _ (by first|(left;simp;done)|(right;omega)))))⟩
theorem TB (w:World):Calls Tryz.prog 22 #[.pointer none] w (Ac fun v w'=>v=.tuple #[.int .i64 0,.int .i64 0,.bool false]∧Chg [] w w'):=by
 have hc:Calls Tryz.prog 17 #[.pointer none] w (Ac fun v w'=>v=.int .i64 0∧w'=w):=by
  apply KE
  intro K hK
  unfold H6
  simp -dsimp (disch:=first|omega|(simp only[go_sem,seval];try omega))only[go_sem,seval]
  exact hK _ _ ⟨rfl,rfl⟩
 have hw:Calls Tryz.prog 25 #[.pointer none,.int .i64 0] w (Ac fun v w'=>v=.pointer none∧w'=w):=by
  apply Ll
  intro K hK
  unfold Ir
  simp -dsimp (disch:=first|omega|(simp only[go_sem,seval];try omega))only[go_sem,seval]
  exact hK _ _ ⟨rfl,rfl⟩
 have ha:Calls Tryz.prog 53 #[.pointer none,.int .i64 0] w (Ac fun v w'=>v=.int .i64 0∧w'=w):=by
  apply QB
  intro K hK
  unfold Qc
  refine OpX.call DX rfl (Calls.ret (hw) ?_)
  rintro v w1 ⟨rfl,rfl⟩
  simp -dsimp (disch:=first|omega|(simp only[go_sem,seval];try omega))only[go_sem,seval]
  exact hK _ _ ⟨rfl,rfl⟩
 have hp:Calls Tryz.prog 18 #[.pointer none,.int .i64 0] w (Ac fun v w'=>v=.slice none 0 0∧w'=w):=by
  apply LZ
  intro K hK
  unfold Iq
  refine OpX.call DX rfl (Calls.ret (hw) ?_)
  rintro v w1 ⟨rfl,rfl⟩
  simp -dsimp (disch:=first|omega|(simp only[go_sem,seval];try omega))only[go_sem,seval]
  exact hK _ _ ⟨rfl,rfl⟩
 apply TJ
 intro K hK
 unfold J3
 refine OpX.call Hc rfl (Calls.ret (hc) ?_)
 rintro v w1 ⟨rfl,rfl⟩
 refine OpX.call Qr rfl (Calls.ret (ha) ?_)
 rintro v w2 ⟨rfl,rfl⟩
 refine OpX.call PM rfl (Calls.ret (hp) ?_)
 rintro v w3 ⟨rfl,rfl⟩
 simp -dsimp (disch:=first|omega|(simp only[go_sem,seval];try omega))only[go_sem,seval]
 refine Loop1.st (fun q:Nat=>.int .i64 0) (fun q w'=>w'=w3) (fun q=>0) 0 rfl rfl ?_
 rintro next i wi hn rfl
 simp -dsimp (disch:=first|omega|(simp only[go_sem,seval];try omega))only[go_sem,seval]
 exact hK _ _ ⟨rfl,Chg.refl _ _⟩
theorem Pp (h:SsAt base w s S) (ok:S.ok lim) (hands:Int) (hh:hands≤9223372036854775807):Calls Tryz.prog 12 #[.pointer (some ⟨s,0,none⟩),.int .i64 hands] w
  (Ac fun v w'=>∃W ks,S.get S.cur=some W∧ks.Perm (S.wins.map (·.n))∧CA ks∧GAt w.heap.size w' v (S.grid W (Bu ks S.cur S.cop S.back hands))∧Chg [] w w'):=by
 obtain⟨W,hg⟩:=S.get_cur ok
 obtain⟨hWm,hWn⟩:=Ss.get_mem hg
 obtain⟨wok,wR,wnew,wn⟩:=ok.win W hWm
 have s0:=ok.w0
 have s1:=ok.w1
 have s2:=ok.h0
 have s3:=ok.h1
 obtain⟨X,hX⟩:∃X:Nat,S.w=X:=⟨S.w.toNat,by omega⟩
 obtain⟨Y,hY⟩:∃Y:Nat,S.h=Y:=⟨S.h.toNat,by omega⟩
 apply O3
 intro K hK
 unfold IK
 simp -dsimp (disch:=first|omega|(simp only[go_sem,seval];try omega))only[go_sem,seval]
 refine OpX.gen fun w1 hw1=>?_
 have hc1:Chg [] w w1:=by rw[hw1];(repeat (first|exact Chg.refl _ _|apply Chg.drew|apply Chg.alloc|(refine Chg.set ?_ _ _ (by first|(left;simp;done)|(right;omega)))))
 have a4:w1.heap[w.heap.size]?=some (.cells #[.int .i64 0,.int .i64 0,.slice none 0 0] 38):=by rw[hw1];simp -dsimp (disch:=first|omega|(simp only[go_sem,seval];try omega))only[go_sem,seval]
 clear hw1
 have h1:=h.chg0 hc1
 refine OpX.call Mb rfl (Calls.ret (Qf h1) ?_)
 rintro v w2 ⟨rfl,hc2⟩
 rw[hX,hY]
 simp -dsimp (disch:=first|omega|(simp only[go_sem,seval];try omega))only[go_sem,seval]
 refine OpX.call El rfl (Calls.ret (ER w2 X Y (by omega) (by omega) (by omega) (by omega)) ?_)
 rintro v w3 ⟨hg3,hc3⟩
 obtain⟨nb3,cap3,rfl,q1,q2,q3,q4⟩:=hg3.sx
 have hpf:(Gr.plain X Y Cel.blank).fit X Y:=MS (by omega) (by omega) (by omega) (by omega)
 have hc03:=(hc1.trans0 hc2).trans0 hc3
 simp -dsimp (disch:=first|omega|(simp only[go_sem,seval];try omega))only[go_sem,seval,Gr.val]
 refine OpX.gen fun w4 hw4=>?_
 have hc4:Chg [] w3 w4:=by rw[hw4];(repeat (first|exact Chg.refl _ _|apply Chg.drew|apply Chg.alloc|(refine Chg.set ?_ _ _ (by first|(left;simp;done)|(right;omega)))))
 have a7:w4.heap[w3.heap.size]?=some (.cells #[.int .i64 (Gr.plain X Y Cel.blank).w,.int .i64 (Gr.plain X Y Cel.blank).h,.slice (some ⟨nb3,0,none⟩) (Gr.plain X Y Cel.blank).cs.length cap3] 38):=by rw[hw4];simp -dsimp (disch:=first|omega|(simp only[go_sem,seval];try omega))only[go_sem,seval]
 clear hw4
 have hz3:=hc03.size
 have hz2:=(hc1.trans0 hc2).size
 have l4:=Aa a4
 have hz1:=hc1.size
 have hz23:=hc3.size
 have hz22:=hc2.size
 have a44:=hc4.keep (hc3.keep (hc2.keep a4 (by simp)) (by simp)) (by simp)
 have hc04:=hc03.trans0 hc4
 have G0:GC w w3.heap.size w4 (Gr.plain X Y Cel.blank):=⟨hc04,nb3,cap3,a7,q1,by omega,q4.chg0 hc4⟩
 obtain⟨t7,ht7⟩:∃t7,t7=w3.heap.size:=⟨_,rfl⟩
 have n47:w.heap.size≠t7:=by omega
 have g7:w.heap.size≤t7:=by omega
 rw[←ht7] at G0 ⊢
 clear a7
 have h4:=h.chg0 hc04
 refine OpX.call Hc rfl (Calls.ret (I5 h4) ?_)
 rintro v w5 ⟨rfl,rfl⟩
 refine OpX.call PM rfl (Calls.ret (Ql h4 hg wok) ?_)
 rintro v w6 ⟨hpo,hc6⟩
 have hpk:=Mt.panes_ok wok.lay.fits wok.lay.R
 have hpi:=Mt.panes_ids W.L.root W.L.R
 obtain⟨ap,cp,rfl,-,hps,-,-⟩:=hpo.form
 have a46:=hc6.keep a44 (by simp)
 have G6:GC w t7 w6 (Gr.plain X Y Cel.blank):=by
  obtain⟨nb,cap,b1,b2,b3,b4⟩:=G0.at_
  exact⟨G0.chg.trans0 hc6,nb,cap,hc6.keep b1 (by simp),b2,b3,b4.chg0 hc6⟩
 clear G0
 simp -dsimp (disch:=first|omega|(simp only[go_sem,seval];try omega))only[go_sem,seval]
 refine Loop1.st (fun q:Nat=>.int .i64 (q:Int)) (fun q w'=>q≤(W.L.root.panes W.L.R).length∧GC w t7 w' (CT (W.viewAt (S.backOf S.cur W)) (Gr.plain X Y Cel.blank) ((W.L.root.panes W.L.R).take q))∧Chg [t7] w6 w') (fun q=>(W.L.root.panes W.L.R).length-q) 0 rfl ⟨Nat.zero_le _,G6,Chg.refl _ _⟩ ?_
 rintro next i wi hn ⟨hi,GI,hci⟩
 have hpl:=Mt.panes_len W.L.root W.L.R
 have hfew:=wok.lay.few
 simp -dsimp (disch:=first|omega|(simp only[go_sem,seval];try omega))only[go_sem,seval]
 refine BrW.dec (fun g=>?_) (fun g=>?_)
 ·have hi':i<(W.L.root.panes W.L.R).length:=by omega
  have hxm:=List.getElem_mem hi'
  have ht:=Cs hi'
  have hxe:(W.L.root.panes W.L.R)[i]?=some (W.L.root.panes W.L.R)[i]:=List.getElem?_eq_getElem hi'
  have hfit:(CT (W.viewAt (S.backOf S.cur W)) (Gr.plain X Y Cel.blank) ((W.L.root.panes W.L.R).take i)).fit X Y:=Gi hpf
  have hsn:=Q4 (W.viewAt (S.backOf S.cur W)) (Gr.plain X Y Cel.blank) ((W.L.root.panes W.L.R).take i) (W.L.root.panes W.L.R)[i]
  rw[←ht] at hsn
  generalize (W.L.root.panes W.L.R)[i]=x at *
  generalize CT (W.viewAt (S.backOf S.cur W)) (Gr.plain X Y Cel.blank) ((W.L.root.panes W.L.R).take i)=g at *
  obtain⟨nb,cap,b1,b2,b3,b4⟩:=GI.at_
  have hsi:Sx wi (some 59) Cc ap (W.L.root.panes W.L.R):=hps.chg hci fun b o e hne hm=>by
   simp only[List.mem_singleton] at hm
   obtain⟨nb6,cap6,c1,-⟩:=G6.at_
   exact hps.ne e hne c1 rfl hm
  obtain⟨b',o,rfl,hbl,hcell⟩:=hsi.get E2 hxe
  obtain⟨xr,-⟩:=hpk x hxm
  have hxid:x.1∈W.L.root.ids:=by rw[←hpi];exact List.mem_map.2 ⟨x,hxm,rfl⟩
  obtain⟨p,hp,hpe⟩:=List.mem_map.1 ((wok.has x.1).2 hxid)
  simp only[Cc,Rc.cells] at hcell
  have l7:=Aa b1
  have hai:Chg [] wi (wi.alloc (.cells #[.int .i64 x.1,.int .i64 x.2.x,.int .i64 x.2.y,.int .i64 x.2.w,.int .i64 x.2.h] 59)).drew:=(AA _ _).drew
  have h8:=(h.chg0 GI.chg).chg0 hai
  have hw8:=(h8.each W hWm).each p hp
  have hview:=Xw h8 hg hp
  rw[hpe] at hview
  have hvw:W.viewAt (S.backOf S.cur W) x.1=CJ p.M.S p.G.list (S.backOf S.cur W x.1):=by
   have:=Jt (h8.each W hWm) hp
   rw[hpe] at this
   unfold Wn.viewAt
   rw[this]
  rw[hvw] at hsn
  have hvf:=UG hw8.1.scr.ok (L:=p.G.list) (S.backOf S.cur W x.1)
  have e1:(i:Int)+1=((i+1:Nat):Int):=by omega
  have c0:=xr.x0
  have c1:=xr.y0
  have c2:=xr.xw
  have c3:=xr.yh
  have c4:=xr.w0
  have c5:=xr.h0
  simp -dsimp (disch:=first|omega|(simp only[go_sem,seval];try omega))only[go_sem,seval,hcell,b1]
  have a8:(wi.alloc (.cells #[.int .i64 x.1,.int .i64 x.2.x,.int .i64 x.2.y,.int .i64 x.2.w,.int .i64 x.2.h] 59)).drew.heap[wi.heap.size]?=some (.cells #[.int .i64 x.1,.int .i64 x.2.x,.int .i64 x.2.y,.int .i64 x.2.w,.int .i64 x.2.h] 59):=by simp -dsimp (disch:=first|omega|(simp only[go_sem,seval];try omega))only[go_sem,seval]
  have b8:=hai.keep b1 (by simp)
  have b48:=b4.chg0 hai
  have hzi:(wi.alloc (.cells #[.int .i64 x.1,.int .i64 x.2.x,.int .i64 x.2.y,.int .i64 x.2.w,.int .i64 x.2.h] 59)).drew.heap.size=wi.heap.size+1:=by simp -dsimp (disch:=first|omega|(simp only[go_sem,seval];try omega))only[go_sem,seval]
  generalize (wi.alloc (.cells #[.int .i64 x.1,.int .i64 x.2.x,.int .i64 x.2.y,.int .i64 x.2.w,.int .i64 x.2.h] 59)).drew=w8 at *
  refine OpX.call VO rfl (Calls.ret (hview) ?_)
  rintro v w9 ⟨hv9,hc9⟩
  obtain⟨nb9,cap9,rfl,p1,p2,p3,p4⟩:=hv9.sx
  have a9:=hc9.keep a8 (by simp)
  have b9:=hc9.keep b8 (by simp)
  simp -dsimp (disch:=first|omega|(simp only[go_sem,seval];try omega))only[go_sem,seval,Gr.val,a9,b9]
  have hbl:=VE (X:=x.2.x) (Y:=x.2.y) hfit.ok hfit.r hvf.ok hvf.r (b48.chg0 hc9) cap b2 p4 cap9 p1 (by omega) (by omega)
  simp only[Gr.val] at hbl
  refine OpX.call TQ rfl (Calls.ret (hbl) ?_)
  rintro v w10 ⟨hv10,hc10⟩
  rw[←hsn] at hv10
  obtain⟨nb10,cap10,rfl,r1,r2,r3,r4⟩:=hv10.sx
  have b10:=hc10.keep b9 (by simp)
  have l10:=Aa b10
  have hz9:=hc9.size
  have hz0i:=GI.chg.size
  simp -dsimp (disch:=first|omega|(simp only[go_sem,seval];try omega))only[go_sem,seval,Gr.val,b10,e1]
  have hcs:∀o,Chg [t7] w10 (Ab w10 t7 o):=fun o=>(Chg.refl _ _).set _ _ (by simp)
  refine hn (i+1) _ ⟨by omega,⟨(((GI.chg.trans0 hai).trans0 hc9).trans0 hc10).trans (hcs _) (by simp;omega),nb10,cap10,Ar _ _ _ _ rfl l10,r1,by omega,r4.chg (hcs _) fun b o e hne hm=>?_⟩,(((hci.trans0 hai).trans0 hc9).trans0 hc10).trans (hcs _) (by simp)⟩ (by omega)
  cases e
  simp at hm
  omega
 ·have hil:i=(W.L.root.panes W.L.R).length:=by omega
  subst hil
  rw[List.take_length] at GI
  have hgf:(CT (W.viewAt (S.backOf S.cur W)) (Gr.plain X Y Cel.blank) (W.L.root.panes W.L.R)).fit X Y:=Gi hpf
  obtain⟨gb,hgb⟩:∃gb,gb=CT (W.viewAt (S.backOf S.cur W)) (Gr.plain X Y Cel.blank) (W.L.root.panes W.L.R):=⟨_,rfl⟩
  rw[←hgb] at GI hgf
  have a4i:=hci.keep a46 (by simpa using n47)
  have hAi:=h.chg0 GI.chg
  refine OpX.call WT rfl (Calls.ret (Wf hAi hg wok) ?_)
  rintro v wb ⟨hbo,hcb⟩
  have hbk:=Mt.bords_ok wok.lay.fits wok.lay.R
  have hbn:=Mt.bords_len W.L.root W.L.R
  obtain⟨ab,cb,rfl,-,hbs,-,-⟩:=hbo.form
  have a4b:=hcb.keep a4i (by simp)
  have GB:GC w t7 wb gb:=by
   obtain⟨nb,cap,b1,b2,b3,b4⟩:=GI.at_
   exact⟨GI.chg.trans0 hcb,nb,cap,hcb.keep b1 (by simp),b2,b3,b4.chg0 hcb⟩
  simp -dsimp (disch:=first|omega|(simp only[go_sem,seval];try omega))only[go_sem,seval]
  refine Loop1.st (fun q:Nat=>.int .i64 (q:Int)) (fun q w'=>q≤(W.L.root.bords W.L.R).length∧GC w t7 w' (CO gb ((W.L.root.bords W.L.R).take q))∧Chg [t7] wb w') (fun q=>(W.L.root.bords W.L.R).length-q) 0 rfl ⟨Nat.zero_le _,GB,Chg.refl _ _⟩ ?_
  rintro next2 i wj hn2 ⟨hi,GJ,hcj⟩
  simp -dsimp (disch:=first|omega|(simp only[go_sem,seval];try omega))only[go_sem,seval]
  refine BrW.dec (fun g2=>?_) (fun g2=>?_)
  ·have hi':i<(W.L.root.bords W.L.R).length:=by omega
   have hxm:=List.getElem_mem hi'
   have ht:=Cs hi'
   have hxe:(W.L.root.bords W.L.R)[i]?=some (W.L.root.bords W.L.R)[i]:=List.getElem?_eq_getElem hi'
   have hfit:(CO gb ((W.L.root.bords W.L.R).take i)).fit X Y:=GO hgf
   have hsn:=SN gb ((W.L.root.bords W.L.R).take i) (W.L.root.bords W.L.R)[i]
   rw[←ht] at hsn
   generalize (W.L.root.bords W.L.R)[i]=x at *
   generalize CO gb ((W.L.root.bords W.L.R).take i)=g at *
   obtain⟨nb,cap,b1,b2,b3,b4⟩:=GJ.at_
   have hsi:Sx wj (some 49) Rc.cells ab (W.L.root.bords W.L.R):=hbs.chg hcj fun b o e hne hm=>by
    simp only[List.mem_singleton] at hm
    obtain⟨nb6,cap6,c1,-⟩:=GB.at_
    exact hbs.ne e hne c1 rfl hm
   obtain⟨b',o,rfl,hbl,hcell⟩:=hsi.get (m:=4) (fun _=>rfl) hxe
   obtain⟨xr,-⟩:=hbk x hxm
   have c0:=xr.x0
   have c1:=xr.y0
   have c2:=xr.xw
   have c3:=xr.yh
   have c4:=xr.w0
   have c5:=xr.h0
   have e1:(i:Int)+1=((i+1:Nat):Int):=by omega
   simp only[Rc.cells] at hcell
   have l7:=Aa b1
   simp -dsimp (disch:=first|omega|(simp only[go_sem,seval];try omega))only[go_sem,seval,hcell]
   have hai:Chg [] wj (wj.alloc (.cells #[.int .i64 x.x,.int .i64 x.y,.int .i64 x.w,.int .i64 x.h] 49)):=AA _ _
   have a8:(wj.alloc (.cells #[.int .i64 x.x,.int .i64 x.y,.int .i64 x.w,.int .i64 x.h] 49)).heap[wj.heap.size]?=some (.cells #[.int .i64 x.x,.int .i64 x.y,.int .i64 x.w,.int .i64 x.h] 49):=by simp -dsimp (disch:=first|omega|(simp only[go_sem,seval];try omega))only[go_sem,seval]
   have hz8:(wj.alloc (.cells #[.int .i64 x.x,.int .i64 x.y,.int .i64 x.w,.int .i64 x.h] 49)).heap.size=wj.heap.size+1:=by simp -dsimp (disch:=first|omega|(simp only[go_sem,seval];try omega))only[go_sem,seval]
   generalize (wj.alloc (.cells #[.int .i64 x.x,.int .i64 x.y,.int .i64 x.w,.int .i64 x.h] 49))=w8 at *
   refine OpX.call D5 rfl (Calls.ret (DS w8) ?_)
   rintro v w9 ⟨rfl,hc9⟩
   have a9:=hc9.keep a8 (by simp)
   have l9:=Aa a9
   simp only[Cel.val]
   simp -dsimp (disch:=first|omega|(simp only[go_sem,seval];try omega))only[go_sem,seval]
   refine DI (F:=Join0 _ _) fun w10 hw10=>?_
   have hc10:Chg [] w9 w10:=by rw[hw10];(repeat (first|exact Chg.refl _ _|apply Chg.drew|apply Chg.alloc|(refine Chg.set ?_ _ _ (by first|(left;simp;done)|(right;omega)))))
   have d10:w10.heap[w9.heap.size]?=some (.cells #[.int .i32 45,.int .u8 Cel.blank.fg.toNat,.int .u8 Cel.blank.bg.toNat,.int .u8 Cel.blank.a.toNat] 43):=by rw[hw10];simp -dsimp (disch:=first|omega|(simp only[go_sem,seval];try omega))only[go_sem,seval]
   clear hw10
   have a10:=hc10.keep a9 (by simp)
   have hz9:=hc9.size
   have hz10:=hc10.size
   refine Join0.cut (fun w'=>w'.heap[w9.heap.size]?=some (.cells (CF x).cells.toArray 43)∧Chg [w9.heap.size] w10 w') ?_ ?_
   ·simp -dsimp (disch:=first|omega|(simp only[go_sem,seval];try omega))only[go_sem,seval,a10]
    refine BrW.dec (fun g3=>?_) (fun g3=>?_)
    ·have l10:=Aa d10
     simp -dsimp (disch:=first|omega|(simp only[go_sem,seval];try omega))only[go_sem,seval,d10]
     have e:CF x=⟨124,0,0,0⟩:=by unfold CF;rw[if_pos g3]
     rw[e]
     exact⟨rfl,(Chg.refl _ _).set _ _ (by simp)⟩
    ·have e:(CF x).cells.toArray=#[.int .i32 45,.int .u8 Cel.blank.fg.toNat,.int .u8 Cel.blank.bg.toNat,.int .u8 Cel.blank.a.toNat]:=by unfold CF;rw[if_neg g3];rfl
     rw[e]
     exact⟨d10,Chg.refl _ _⟩
   ·rintro w11 ⟨d11,hc11⟩
    have hcj11:Chg [] wj w11:=(((hai.trans0 hc9).trans0 hc10).trans hc11 (by simp;omega))
    have b11:=hcj11.keep b1 (by simp)
    have a11:=hc11.keep a10 (by simp;omega)
    have b411:=b4.chg0 hcj11
    have l11:=Aa b11
    simp only[Cel.cells] at d11
    simp -dsimp (disch:=first|omega|(simp only[go_sem,seval];try omega))only[go_sem,seval,b11,a11,d11]
    have hfl:=Iy (X:=x.x) (Y:=x.y) (W:=x.w) (H:=x.h) hfit.ok hfit.r b411 cap b2 (Xv x) (by omega) (by omega) (by omega) (by omega)
    simp only[Gr.val,Cel.val] at hfl
    refine OpX.call Ho rfl (Calls.ret (hfl) ?_)
    rintro v w12 ⟨hv12,hc12⟩
    rw[←hsn] at hv12
    obtain⟨nb12,cap12,rfl,r1,r2,r3,r4⟩:=hv12.sx
    have b12:=hc12.keep b11 (by simp)
    have l12:=Aa b12
    have hz0j:=GJ.chg.size
    have hz11:=hcj11.size
    simp -dsimp (disch:=first|omega|(simp only[go_sem,seval];try omega))only[go_sem,seval,Gr.val,b12,e1]
    have hcs:∀o,Chg [t7] w12 (Ab w12 t7 o):=fun o=>(Chg.refl _ _).set _ _ (by simp)
    refine hn2 (i+1) _ ⟨by omega,⟨((GJ.chg.trans0 hcj11).trans0 hc12).trans (hcs _) (by simp;omega),nb12,cap12,Ar _ _ _ _ rfl l12,r1,by omega,r4.chg (hcs _) fun b o e hne hm=>?_⟩,((hcj.trans0 hcj11).trans0 hc12).trans (hcs _) (by simp)⟩ (by omega)
    cases e
    simp at hm
    omega
  ·have hil:i=(W.L.root.bords W.L.R).length:=by omega
   subst hil
   rw[List.take_length] at GJ
   have hlf:(CO gb (W.L.root.bords W.L.R)).fit X Y:=GO hgf
   have hLe:CO gb (W.L.root.bords W.L.R)=S.gridL W:=by unfold Ss.gridL;rw[hgb,hX,hY];rfl
   rw[hLe] at GJ hlf
   obtain⟨nb,cap,b1,b2,b3,b4⟩:=GJ.at_
   have a4j:=hcj.keep a4b (by simpa using n47)
   have l7:=Aa b1
   simp -dsimp (disch:=first|omega|(simp only[go_sem,seval];try omega))only[go_sem,seval,b1]
   have hdj:Chg [] wj wj.drew:=(Chg.refl _ _).drew
   refine OpX.call Et rfl (Calls.ret (E8 ((h.chg0 GJ.chg).chg0 hdj) ok hands hh) ?_)
   rintro v wk ⟨ks,k1,k2,rfl,hck⟩
   have hck:Chg [] wj wk:=hdj.trans0 hck
   have hst:(Bu ks S.cur S.cop S.back hands).length≤1000:=by
    have e1:=HY S.cur ks (fun k hk=>by
     obtain⟨U,hU,e⟩:=List.mem_map.1 (k1.mem_iff.1 hk)
     have:=(ok.win U hU).2.2.2
     omega)
    have e2:=EN (n:=S.back) (by have:=ok.back1;omega)
    have e3:=EN hh
    have e4:=h.len ok
    have e5:=k1.length_eq
    rw[List.length_map] at e5
    have f1:(if S.cop then[32,99,111,112,121,32]++AL S.back.toNat else([]:List UInt8)).length≤30:=by split<;>simp;omega
    have f2:(if 0<hands then[32,104,97,110,100,115,32]++AL hands.toNat else([]:List UInt8)).length≤30:=by split<;>simp;omega
    unfold Bu
    rw[List.length_append,List.length_append]
    omega
   generalize htx:Bu ks S.cur S.cop S.back hands=tx at *
   have bk:=hck.keep b1 (by simp)
   have hzk:=hck.size
   simp -dsimp (disch:=first|omega|(simp only[go_sem,seval];try omega))only[go_sem,seval,bk]
   refine OpX.call SK rfl (Calls.ret (Zr wk X (by omega) tx (by omega)) ?_)
   rintro v wl ⟨hrow,hcl⟩
   obtain⟨ar,cr,rfl,-,hrs,-,-⟩:=hrow.form
   have bl:=hcl.keep bk (by simp)
   have hzl:=hcl.size
   have hckl:=hck.trans0 hcl
   have hrl:(Fx X tx).length=X:=AX _ _
   simp -dsimp (disch:=first|omega|(simp only[go_sem,seval];try omega))only[go_sem,seval,bl]
   have hpt:=Jx (X:=0) (Y:=(Y:Int)-1) hlf.ok hlf.r (b4.chg0 hckl) cap b2 hrs cr (by omega) (by omega) (by omega)
   simp only[Gr.val] at hpt
   refine OpX.call KJ rfl (Calls.ret (hpt) ?_)
   rintro v wm ⟨hv,hcm⟩
   have hgr:(S.gridL W).put 0 ((Y:Int)-1) (Fx X tx)=S.grid W tx:=by unfold Ss.grid;rw[hX,hY];rfl
   rw[hgr] at hv
   obtain⟨nbm,capm,rfl,r1,r2,r3,r4⟩:=hv.sx
   have a4m:=(hckl.trans0 hcm).keep a4j (by simp)
   have l4m:=Aa a4m
   have hzj:=GJ.chg.size
   simp -dsimp (disch:=first|omega|(simp only[go_sem,seval];try omega))only[go_sem,seval,Gr.val,a4m]
   have hcs:∀o,Chg [w.heap.size] wm (Ab wm w.heap.size o):=fun o=>(Chg.refl _ _).set _ _ (by simp)
   obtain⟨nb',cap',sp',ev,v1,v2,v3⟩:=hv
   refine hK _ _ ⟨W,ks,hg,k1,k2,?_,((GJ.chg.trans0 hckl).trans0 hcm).trans (hcs _) (by simp)⟩
   rw[htx]
   exact⟨nb',cap',sp',ev,v1,by omega,(hcs _).keep v3 (by simp;omega)⟩
end
theorem aO (w:World) (x y:Int):Calls Tryz.prog 7 #[.agg #[.int .i64 x,.int .i64 y]] w
  (Ac fun v w'=>v=.tuple #[.int .i64 (DF x 40 1),.int .i64 (DF y 19 2)]∧Chg [] w w'):=by
 have b1:=F3 x 40 (by omega)
 have b2:=F3 y 19 (by omega)
 have b3:=F3 (x.tmod 40+40) 40 (by omega)
 have b4:=F3 (y.tmod 19+19) 19 (by omega)
 apply Yt
 intro K hK
 unfold LJ
 simp -dsimp (disch:=first|omega|(simp only[go_sem,seval];try omega))only[go_sem,seval]
 exact hK _ _ ⟨rfl,(AA _ _).drew⟩
theorem ZE (w:World) (e:Ev):Calls Tryz.prog 10 #[e.val] w (Ac fun v w'=>∃e':Ev,v=e'.val∧Chg [] w w'):=by
 apply Tf
 intro K hK
 unfold Mz
 unfold Ev.val
 simp -dsimp (disch:=first|omega|(simp only[go_sem,seval];try omega))only[go_sem,seval]
 refine DI (F:=Join0 _ _) fun w1 hw1=>?_
 have hc1:Chg [] w w1:=by rw[hw1];(repeat (first|exact Chg.refl _ _|apply Chg.drew|apply Chg.alloc|(refine Chg.set ?_ _ _ (by first|(left;simp;done)|(right;omega)))))
 have a1:w1.heap[w.heap.size]?=some (.cells #[.int .i64 e.kind,.int .i64 e.win,.int .i64 e.pane,.string (Ao e.s),.int .i64 e.w,.int .i64 e.h] 34):=by rw[hw1];simp -dsimp (disch:=first|omega|(simp only[go_sem,seval];try omega))only[go_sem,seval]
 have a2:w1.heap[w.heap.size+1]?=some (.cells #[.int .i64 0,.int .i64 0,.int .i64 0,.string (Ao []),.int .i64 0,.int .i64 0] 34):=by rw[hw1];simp -dsimp (disch:=first|omega|(simp only[go_sem,seval];try omega))only[go_sem,seval];rfl
 clear hw1
 refine Join0.cut (fun w'=>∃l:List UInt8,w'.heap[w.heap.size]?=some (.cells #[.int .i64 e.kind,.int .i64 e.win,.int .i64 e.pane,.string (Ao l),.int .i64 e.w,.int .i64 e.h] 34)∧w'.heap[w.heap.size+1]?=some (.cells #[.int .i64 0,.int .i64 0,.int .i64 0,.string (Ao []),.int .i64 0,.int .i64 0] 34)∧Chg [] w w') ?_ ?_
 ·have l1:=Aa a1
  simp -dsimp (disch:=first|omega|(simp only[go_sem,seval];try omega))only[go_sem,seval,a1]
  refine BrW.dec (fun g=>?_) (fun g=>⟨e.s,a1,a2,hc1⟩)
  simp -dsimp (disch:=first|omega|(simp only[go_sem,seval];try omega))only[go_sem,seval,a1]
  exact⟨((Ao e.s).extract 0 40).toList,by rw[Pj],a2,hc1.set _ _ (.inr (Nat.le_refl _))⟩
 ·rintro w2 ⟨l,c1,c2,hc2⟩
  have l1:=Aa c1
  have l2:=Aa c2
  simp -dsimp (disch:=first|omega|(simp only[go_sem,seval];try omega))only[go_sem,seval,c1,c2]
  exact hK _ _ ⟨⟨_,_,_,l,_,_⟩,rfl,(hc2.set _ _ (.inr (Nat.le_refl _))).set _ _ (.inr (by omega))⟩
theorem ax:AL 1=[49]:=by rw[AL];rfl
theorem Wv (w:World):Calls Tryz.prog 6 #[] w (Ac fun v w'=>v=.bool true∧Chg [] w w'):=by
 apply bh
 intro K hK
 unfold P5
 refine OpX.call Pw rfl (Calls.ret (NT w 9 4 5) ?_)
 rintro v w1 (⟨hno,-⟩|⟨-,s,S,rfl,A1,ok1,fr,hc1⟩)
 ·exact absurd ⟨by decide,by decide,by decide,by decide⟩ hno
 simp -dsimp (disch:=first|omega|(simp only[go_sem,seval];try omega))only[go_sem,seval]
 obtain⟨V,hw,hn,hact,t,hroot⟩:=fr.wins
 refine OpX.call KG rfl (Calls.ret (Mx A1 ok1 hc1.size (by decide) ⟨1,0,0,[2,37],0,0⟩) ?_)
 rintro v w2 ⟨S',A2,ok2,T2,rel⟩
 have hc2:Chg [] w w2:=T2.base hc1 A1.lo
 have hks:BV S.cop S.pre [2,37]=⟨false,false,[⟨2,0,[]⟩],[]⟩:=by rw[fr.cop,fr.pre];rfl
 have hfin:S'.cur=1∧S'.cop=false∧S'.wins.map (·.n)=[1]:=by
  cases rel with
  | keys vs h1 h2 run h3 h4 =>
   dsimp only at run
   rw[hks] at run
   obtain⟨word,v0,rel,-⟩:=run.one
   obtain⟨W,hg,hcur,hd⟩:=rel.k2 rfl
   have hcur:S'.cur=1:=by rw[hcur];exact fr.cur
   have hWV:W=V:=by
    have:=(Ss.get_mem hg).1
    rw[show({ S with cop:=false,pre:=false }:Ss).wins=S.wins from rfl,hw] at this
    simpa using this
   subst hWV
   rcases hd with ⟨-,hcop,W',nb,n1,n2,R,-,hn',-,hwins⟩|hd
   ·refine⟨hcur,hcop,?_⟩
    rw[hwins,FX]
    show S.wins.map (·.n)=[1]
    rw[hw]
    simp [hn]
   ·exfalso
    rcases hd with hd|⟨nb,R,hR,hlt⟩
    ·rw[hroot] at hd
     simp [Mt.ids] at hd
    ·rw[hroot] at hR
     simp only[Mt.all,List.mem_singleton,Prod.mk.injEq] at hR
     obtain⟨-,rfl⟩:=hR
     have hR0:=(ok1.win W (by rw[hw];simp)).2.1
     rw[hR0,fr.w] at hlt
     simp [Rc.len] at hlt
  | long h=>simp at h
  | outN _ h=>cases h
  | outY _ _ _ _ _ h=>cases h
  | sizeA _ h=>cases h
  | sizeN _ h=>cases h
  | sizeY _ _ h=>cases h
  | kind _ h=>exact absurd rfl h
 obtain⟨f1,f2,f3⟩:=hfin
 refine OpX.call Et rfl (Calls.ret (E8 A2 ok2 0 (by decide)) ?_)
 rintro v w3 ⟨ks,k1,k2,rfl,hc3⟩
 rw[f3] at k1
 have hk1:=List.perm_singleton.1 k1
 subst hk1
 have hst:Bu [1] S'.cur S'.cop S'.back 0=[32,49,42]:=by
  rw[f1,f2]
  unfold Bu BD
  simp only[List.map_cons,List.map_nil]
  rw[show(1:Int).toNat=1 from rfl,ax]
  rfl
 rw[hst]
 simp -dsimp (disch:=first|omega|(simp only[go_sem,seval];try omega))only[go_sem,seval]
 refine hK _ _ ⟨?_,hc2.trans0 hc3⟩
 show Value.bool ([32,49,42] == (Ao [32,49,42]).toList)=_
 rw[P8]
 rfl
end Go.Proofs.YtelplojmbjnplaaGreat
namespace Go.Proofs.YtelplojmbjnplaaGreat
open Lyc Go Go.Joins Go.ChangeShapes Go.WideShapes Go.ChangeAt Go.RowKit Go.Deep
set_option maxRecDepth 100000
theorem own:ownKnob Tryz.prog.godebug=none:=by kernel_rfl
theorem SM:laidOutB Tryz.prog=true:=by kernel_rfl
theorem Xt {H:Type} {enc:TypeId × Value→H} {w:World} {base b0:Nat} {spare:Nat→Bool} {held:Bool} {v:Value} {d:DataW H} {p:List MemPlace} (hv:Value.okWide Tryz.prog w .any b0 23 v) (h:DataW.Trod enc Tryz.prog w base spare held 23 v d p):∃x y:Int,v=.agg #[.int .i64 x,.int .i64 y]:=by
 obtain⟨x0,x1,y0,y1,n,rfl,-,-,t0,t1⟩:=open_agg2 Tryz.underlying23 (by kernel_rfl) (by kernel_rfl) hv h
 obtain⟨k0,e0,-,-⟩:=DataW.trod_int Tryz.underlying3 t0
 obtain⟨k1,e1,-,-⟩:=DataW.trod_int Tryz.underlying3 t1
 cases e0;cases e1
 exact⟨k0,k1,rfl⟩
theorem TG {H:Type} {enc:TypeId × Value→H} {w:World} {base:Nat} {spare:Nat→Bool} {held:Bool} (n:Nat) (cs:List Value) (y:DataW H × List MemPlace) (h:DataW.trod enc Tryz.prog w base spare held n 34 cs=some y):∃e:Ev,cs=evF e∧True:=by
 have hlen:cs.length=6:=by
  obtain⟨-,-,-,-,hl,-⟩:=DataW.trod_struct Tryz.underlying34 h
  rw[hl];kernel_rfl
 obtain⟨_,_,f0⟩:=Eu Tryz.underlying34 h 0 _ rfl (ft:=3) (off:=0) (sz:=1) rfl rfl (by kernel_rfl)
 obtain⟨_,_,f1⟩:=Eu Tryz.underlying34 h 1 _ rfl (ft:=3) (off:=1) (sz:=1) rfl rfl (by kernel_rfl)
 obtain⟨_,_,f2⟩:=Eu Tryz.underlying34 h 2 _ rfl (ft:=3) (off:=2) (sz:=1) rfl rfl (by kernel_rfl)
 obtain⟨_,_,f3⟩:=Eu Tryz.underlying34 h 3 _ rfl (ft:=9) (off:=3) (sz:=1) rfl rfl (by kernel_rfl)
 obtain⟨_,_,f4⟩:=Eu Tryz.underlying34 h 4 _ rfl (ft:=3) (off:=4) (sz:=1) rfl rfl (by kernel_rfl)
 obtain⟨_,_,f5⟩:=Eu Tryz.underlying34 h 5 _ rfl (ft:=3) (off:=5) (sz:=1) rfl rfl (by kernel_rfl)
 obtain⟨k0,e0,-,-⟩:=EG Tryz.underlying3 f0
 obtain⟨k1,e1,-,-⟩:=EG Tryz.underlying3 f1
 obtain⟨k2,e2,-,-⟩:=EG Tryz.underlying3 f2
 obtain⟨s3,e3,-,-⟩:=DataW.trod_string Tryz.underlying9 f3
 obtain⟨k4,e4,-,-⟩:=EG Tryz.underlying3 f4
 obtain⟨k5,e5,-,-⟩:=EG Tryz.underlying3 f5
 refine⟨⟨k0,k1,k2,s3.toList,k4,k5⟩,?_,trivial⟩
 have s:=EH e0
 rw[List.drop_zero,EH e1,EH e2,EH e3,EH e4,EH e5,List.drop_eq_nil_of_le (by omega)] at s
 rw[s]
 unfold evF
 rw[Pj]
 rfl
theorem RO {H:Type} {enc:TypeId × Value→H} {w:World} {base b0:Nat} {spare:Nat→Bool} {held:Bool} {v:Value} {d:DataW H} {p:List MemPlace} (hv:Value.okWide Tryz.prog w .any b0 24 v) (h:DataW.Trod enc Tryz.prog w base spare held 24 v d p) :
  ∃(a:Option Addr) (l:List Ev) (cap:Nat),v=.slice a l.length cap∧Sx w none evF a l∧l.length≤maxLen:=by
 obtain⟨a,l,cap,rfl,hs,-,hm,-⟩:=TE (m:=6) evF (fun _=>True) Tryz.underlying24 (by kernel_rfl) (by omega) NM (fun n cs y h=>TG n cs y h) hv h
 exact⟨a,l,cap,rfl,hs,hm⟩
end Go.Proofs.YtelplojmbjnplaaGreat
namespace Go.Proofs.YtelplojmbjnplaaGreat
open Lyc Go
theorem aM {g:Gr} (hg:g.ok) {top fin:Int} {f:Nat→List Cel} (hf:∀y,y<g.h→top≤(y:Int)→(y:Int)<fin→(f y).length=g.w) {x y:Nat} (hx:x<g.w) (hy:y<g.h) (hn:¬(top≤(y:Int)∧(y:Int)<fin)):(g.chg top fin f).at x y=g.at x y:=by
 have hat:=Gr.chg_at hg hf hx hy
 rw[if_neg hn,hg.row_get hx hy] at hat
 simpa using hat
theorem Vy {g:Gr} (hg:g.ok) {Y:Nat} (hY:Y+1=g.h) {l:List Cel} {x y:Nat} (hx:x<g.w) (hy:y<Y):(g.put 0 Y l).at x y=g.at x y:=by
 have hs:=NR (x:=(Y:Int)) (n:=1) (size:=(g.h:Int)) (i:=(y:Int)) (by omega) (by omega)
 exact aM hg (fun _ _ _ _=>AX _ _) hx (by omega) fun hn=>by have:=hs.1 hn;omega
section
variable {base:Nat} {w:World} {s:Nat} {S:Ss} {lim:Int}
theorem Ka (ok:S.ok lim) (W:Wn):(S.gridL W).fit S.w.toNat S.h.toNat:=by
 have a:=ok.w0
 have b:=ok.w1
 have c:=ok.h0
 have d:=ok.h1
 exact GO (Gi (MS (by omega) (by omega) (by omega) (by omega)))
theorem Gc (ok:S.ok lim) (W:Wn) (t:List UInt8):(S.grid W t).fit S.w.toNat S.h.toNat:=(Ka ok W).put
theorem Ml (ok:S.ok lim) (W:Wn) (t:List UInt8) {x y:Nat} (hx:(x:Int)<S.w) (hy:(y:Int)<S.h-1):(S.grid W t).at x y=(S.gridL W).at x y:=by
 have hf:=Ka ok W
 have c:=ok.h0
 obtain⟨Y,hY⟩:∃Y:Nat,S.h-1=Y:=⟨(S.h-1).toNat,by omega⟩
 unfold Ss.grid
 rw[hY]
 have hh:=hf.h
 have hw:=hf.w
 exact Vy hf.ok (by omega) (by omega) (by omega)
end
theorem QH {S:Ss} {lim:Int} (ok:S.ok lim) (W:Wn) (t t':List UInt8) {i:Nat} (hi:(i:Int)<(S.h-1)*S.w):(S.grid W t).cs[i]?=(S.grid W t').cs[i]?:=by
 have hf:=Gc ok W t
 have hf':=Gc ok W t'
 have a:=ok.w0
 have c:=ok.h0
 obtain⟨X,hX⟩:∃X:Nat,S.w=X:=⟨S.w.toNat,by omega⟩
 obtain⟨Y,hY⟩:∃Y:Nat,S.h-1=Y:=⟨(S.h-1).toNat,by omega⟩
 rw[hX,hY,←Int.natCast_mul] at hi
 have hi':i<X*Y:=by rw[Nat.mul_comm];omega
 have hx:i % X<X:=Nat.mod_lt _ (by omega)
 have hy:i / X<Y:=Nat.div_lt_of_lt_mul hi'
 have e:=(Ml ok W t (x:=i % X) (y:=i / X) (by omega) (by omega)).trans (Ml ok W t' (x:=i % X) (y:=i / X) (by omega) (by omega)).symm
 have h1:i / X*X+i % X=i:=Nat.div_add_mod' i X
 have ew:S.w.toNat=X:=by omega
 have eh:S.h.toNat=Y+1:=by omega
 unfold Gr.at at e
 rw[hf.w,hf'.w,ew,h1,List.getD_eq_getElem?_getD,List.getD_eq_getElem?_getD] at e
 have l1:=hf.ok.len
 have l2:=hf'.ok.len
 rw[hf.w,hf.h,ew,eh] at l1
 rw[hf'.w,hf'.h,ew,eh] at l2
 have h2:X*Y≤X*(Y+1):=Nat.mul_le_mul_left _ (by omega)
 rw[List.getElem?_eq_getElem (by omega),List.getElem?_eq_getElem (by omega)] at e ⊢
 simpa using e
theorem Ln (ks:List Int) (cur:Int) (cop:Bool) (back m:Int):Bu ks cur cop back m=Bu ks cur cop back 0↔¬0<m:=by
 unfold Bu
 rw[if_neg (by decide:¬(0:Int)<0)]
 by_cases h:0<m
 ·rw[if_pos h];simp [h]
 ·rw[if_neg h];simp [h]
theorem aU {w:World} {e0:Option TypeId} {a:Option Addr} {es:List Ev} (hs:Sx w e0 evF a es) (cap:Nat) (hes:es.length≤maxLen) (x y q0 q1:Int) (hq:q1≤9223372036854775807):Calls Tryz.prog 5 #[.agg #[.int .i64 x,.int .i64 y],.slice a es.length cap,.agg #[.int .i64 q0,.int .i64 q1]] w
  (Ac fun v w'=>v=.bool true∧Chg [] w w'):=by
 have hml:maxLen=9223372036854775807:=rfl
 have hba:=TN q0 4095 (by omega) (by omega)
 apply Rm
 intro K hK
 unfold KY
 simp -dsimp (disch:=first|omega|(simp only[go_sem,seval];try omega))only[go_sem,seval]
 have hca:=BI w (.cells #[.int .i64 x,.int .i64 y] 23) (.cells #[.int .i64 q0,.int .i64 q1] 71)
 have haz:((w.alloc (.cells #[.int .i64 x,.int .i64 y] 23)).alloc (.cells #[.int .i64 q0,.int .i64 q1] 71)).heap[w.heap.size]?=some (.cells #[.int .i64 x,.int .i64 y] 23):=by simp -dsimp (disch:=first|omega|(simp only[go_sem,seval];try omega))only[go_sem,seval]
 have haq:((w.alloc (.cells #[.int .i64 x,.int .i64 y] 23)).alloc (.cells #[.int .i64 q0,.int .i64 q1] 71)).heap[w.heap.size+1]?=some (.cells #[.int .i64 q0,.int .i64 q1] 71):=by simp -dsimp (disch:=first|omega|(simp only[go_sem,seval];try omega))only[go_sem,seval]
 generalize (w.alloc (.cells #[.int .i64 x,.int .i64 y] 23)).alloc (.cells #[.int .i64 q0,.int .i64 q1] 71)=wz at *
 refine OpX.call Vv rfl (Calls.ret (Wv wz) ?_)
 rintro v w1 ⟨rfl,hc1⟩
 have az1:=hc1.keep haz (by simp)
 simp -dsimp (disch:=first|omega|(simp only[go_sem,seval];try omega))only[go_sem,seval,az1]
 refine OpX.call YF rfl (Calls.ret (aO w1 x y) ?_)
 rintro v w2 ⟨rfl,hc2⟩
 obtain⟨x1,x2⟩:=NO (n:=x) (m:=40) (k:=1) (by omega)
 obtain⟨y1,y2⟩:=NO (n:=y) (m:=19) (k:=2) (by omega)
 generalize DF x 40 1=X at *
 generalize DF y 19 2=Y at *
 simp -dsimp (disch:=first|omega|(simp only[go_sem,seval];try omega))only[go_sem,seval]
 refine OpX.call Pw rfl (Calls.ret (NT w2 X Y 6) ?_)
 rintro v w3 (⟨hno,-⟩|⟨-,s,S0,rfl,A3,ok3,fr,hc3⟩)
 ·exact absurd ⟨by omega,by omega,by omega,by omega⟩ hno
 have hc02:=(hca.trans0 hc1).trans0 hc2
 have hc03:=hc02.trans0 hc3
 have hz02:=hc02.size
 have lq:=Aa haq
 have hzz:=(hc1.trans0 hc2).size
 have aq2:=hc2.keep (hc1.keep haq (by simp)) (by simp)
 have aq3:=hc3.keep aq2 (by simp)
 have hlq:w.heap.size+1<w2.heap.size:=by omega
 simp -dsimp (disch:=first|omega|(simp only[go_sem,seval];try omega))only[go_sem,seval]
 refine Loop1.st (fun q:Nat × Ss=>.int .i64 (q.1:Int)) (fun q w'=>q.1≤15∧q.1≤es.length∧SsAt w2.heap.size w' s q.2∧q.2.ok (1+5000*q.1)∧Chg [] w w'∧Chg [] w2 w') (fun q=>15-q.1) (0,S0) rfl ⟨Nat.zero_le _,Nat.zero_le _,A3,ok3.mono (by omega),hc03,hc3⟩ ?_
 rintro next ⟨i,S⟩ wi hn ⟨hi,hie,A,ok,hci,hci2⟩
 dsimp only at hi hie A ok ⊢
 have hzi:=hci.size
 refine Join1.cut (fun v w'=>v=.bool (decide (i<es.length∧i<15))∧w'=wi) ?_ ?_
 ·simp -dsimp (disch:=first|omega|(simp only[go_sem,seval];try omega))only[go_sem,seval]
  refine BrW.dec (fun g=>?_) (fun g=>⟨congrArg Value.bool (decide_eq_false (by omega)).symm,rfl⟩)
  simp -dsimp (disch:=first|omega|(simp only[go_sem,seval];try omega))only[go_sem,seval]
  exact congrArg Value.bool (decide_eq_decide.2 ⟨fun h=>by omega,fun h=>by omega⟩)
 rintro v wi' ⟨rfl,rfl⟩
 refine BrW.dec (fun g=>?_) (fun g=>?_)
 ·have hi':i<es.length:=g.1
  obtain⟨b',o,rfl,hbl,hcell⟩:=(hs.chg0 hci).get NM (List.getElem?_eq_getElem hi')
  generalize es[i]=e at *
  simp only[evF] at hcell
  have e1:(i:Int)+1=((i+1:Nat):Int):=by omega
  simp -dsimp (disch:=first|omega|(simp only[go_sem,seval];try omega))only[go_sem,seval,hcell]
  have hcd:∀w8:World,Chg [] wi' w8→w2.heap.size≤w8.heap.size:=fun w8 h8=>by have:=h8.size;have:=hc03.size;have:=A.lt _ (.inl rfl);have:=A.los;omega
  refine OpX.call X6 rfl (Calls.ret (ZE wi' e) ?_)
  rintro v w4 ⟨e',rfl,hc4⟩
  refine OpX.call KG rfl (Calls.ret (Mx (A.chg0 hc4) ok (hcd _ hc4) (by omega) e') ?_)
  rintro v w5 ⟨S',A5,ok5,T5,-⟩
  simp -dsimp (disch:=first|omega|(simp only[go_sem,seval];try omega))only[go_sem,seval,e1]
  obtain⟨F,hF,hFo⟩:=T5.chg
  have hc5:Chg [] w w5:=(hci.trans0 hc4).trans hF fun z hz=>.inr (by have:=A.lo z (hFo z hz);omega)
  have hc52:Chg [] w2 w5:=(hci2.trans0 hc4).trans hF fun z hz=>.inr (by have:=A.lo z (hFo z hz);omega)
  exact hn (i+1,S') _ ⟨by dsimp only;omega,by dsimp only;omega,A5,ok5.mono (by dsimp only;omega),hc5,hc52⟩ (by dsimp only;omega)
 ·refine OpX.call Mb rfl (Calls.ret (Qf A) ?_)
  rintro v w4 ⟨rfl,hc4⟩
  have A4:=A.chg0 hc4
  have aq4:=hc4.keep (hci2.keep aq2 (by simp)) (by simp)
  simp -dsimp (disch:=first|omega|(simp only[go_sem,seval];try omega))only[go_sem,seval,aq4]
  refine OpX.call HK rfl (Calls.ret (Pp A4 ok _ (by omega)) ?_)
  rintro v w5 ⟨W,ks,hg,k1,k2,hG,hc5⟩
  have A5:=A4.chg0 hc5
  have aq5:=hc5.keep aq4 (by simp)
  obtain⟨M,hM⟩:∃M,M=AQ .and .i64 q0 4095:=⟨_,rfl⟩
  rw[←hM] at hG hba ⊢
  have s0:=ok.w0
  have s1:=ok.w1
  have s2:=ok.h0
  have s3:=ok.h1
  have hf:=Gc ok W (Bu ks S.cur S.cop S.back M)
  have hf2:=Gc ok W (Bu ks S.cur S.cop S.back q1)
  obtain⟨nb,cp,rfl,c1,c2,c3,c4⟩:=hG.sx
  have hgw:=hf.w
  have hgh:=hf.h
  obtain⟨G,hGe⟩:∃G,G=S.grid W (Bu ks S.cur S.cop S.back M):=⟨_,rfl⟩
  rw[←hGe] at hf hgw hgh c1 c4 ⊢
  simp -dsimp (disch:=first|omega|(simp only[go_sem,seval];try omega))only[go_sem,seval,Gr.val]
  have hw6:Chg [] w5 (w5.alloc (.cells #[.int .i64 G.w,.int .i64 G.h,.slice (some ⟨nb,0,none⟩) G.cs.length cp] 38)):=AA _ _
  have a6:(w5.alloc (.cells #[.int .i64 G.w,.int .i64 G.h,.slice (some ⟨nb,0,none⟩) G.cs.length cp] 38)).heap[w5.heap.size]?=some (.cells #[.int .i64 G.w,.int .i64 G.h,.slice (some ⟨nb,0,none⟩) G.cs.length cp] 38):=by simp -dsimp (disch:=first|omega|(simp only[go_sem,seval];try omega))only[go_sem,seval]
  have aq6:=hw6.keep aq5 (by simp)
  generalize w5.alloc (.cells #[.int .i64 G.w,.int .i64 G.h,.slice (some ⟨nb,0,none⟩) G.cs.length cp] 38)=w6 at *
  obtain⟨t13,ht13⟩:∃t13,t13=w5.heap.size:=⟨_,rfl⟩
  rw[←ht13] at a6 ⊢
  have A6:=A5.chg0 hw6
  simp -dsimp (disch:=first|omega|(simp only[go_sem,seval];try omega))only[go_sem,seval,aq6]
  refine OpX.call HK rfl (Calls.ret (Pp A6 ok _ hq) ?_)
  rintro v w7 ⟨W',ks',hg',k1',k2',hG2,hc7⟩
  obtain rfl:W'=W:=Option.some.inj (hg'.symm.trans hg)
  obtain rfl:ks'=ks:=Gq k2' k2 (k1'.trans k1.symm)
  have A7:=A6.chg0 hc7
  have a7:=hc7.keep a6 (by simp)
  have c7:=(c4.chg0 hw6).chg0 hc7
  obtain⟨nb2,cp2,rfl,d1,d2,d3,d4⟩:=hG2.sx
  have hfw:=hf2.w
  have hfh:=hf2.h
  have hup:=fun(i:Nat) (hi:(i:Int)<(S.h-1)*S.w)=>QH ok W' (Bu ks' S.cur S.cop S.back M) (Bu ks' S.cur S.cop S.back q1) hi
  rw[←hGe] at hup
  obtain⟨F,hFe⟩:∃F,F=S.grid W' (Bu ks' S.cur S.cop S.back q1):=⟨_,rfl⟩
  rw[←hFe] at hf2 hfw hfh d1 d4 hup ⊢
  simp -dsimp (disch:=first|omega|(simp only[go_sem,seval];try omega))only[go_sem,seval,Gr.val]
  have hw8:Chg [] w7 (w7.alloc (.cells #[.int .i64 F.w,.int .i64 F.h,.slice (some ⟨nb2,0,none⟩) F.cs.length cp2] 38)):=AA _ _
  have b8:(w7.alloc (.cells #[.int .i64 F.w,.int .i64 F.h,.slice (some ⟨nb2,0,none⟩) F.cs.length cp2] 38)).heap[w7.heap.size]?=some (.cells #[.int .i64 F.w,.int .i64 F.h,.slice (some ⟨nb2,0,none⟩) F.cs.length cp2] 38):=by simp -dsimp (disch:=first|omega|(simp only[go_sem,seval];try omega))only[go_sem,seval]
  have a8:=hw8.keep a7 (by simp)
  have A8:=A7.chg0 hw8
  have c8:=c7.chg0 hw8
  have d8:=d4.chg0 hw8
  generalize w7.alloc (.cells #[.int .i64 F.w,.int .i64 F.h,.slice (some ⟨nb2,0,none⟩) F.cs.length cp2] 38)=w8 at *
  obtain⟨t14,ht14⟩:∃t14,t14=w7.heap.size:=⟨_,rfl⟩
  rw[←ht14] at b8 ⊢
  have hci8:Chg [] w w8:=((((hci.trans0 hc4).trans0 hc5).trans0 hw6).trans0 hc7).trans0 hw8
  have egl:G.cs.length=F.cs.length:=by rw[hf.ok.len,hf2.ok.len,hgw,hfw,hgh,hfh]
  refine OpX.call Et rfl (Calls.ret (E8 A8 ok 0 (by decide)) ?_)
  rintro v w9 ⟨ks2,k3,k4,rfl,hc9⟩
  obtain rfl:ks2=ks':=Gq k4 k2 (k3.trans k1.symm)
  have A9:=A8.chg0 hc9
  refine Join1.cut (fun v w'=>v=.bool false∧Chg [] w9 w') ?_ ?_
  ·simp -dsimp (disch:=first|omega|(simp only[go_sem,seval];try omega))only[go_sem,seval]
   refine OpX.call Et rfl (Calls.ret (E8 A9 ok _ (by omega)) ?_)
   rintro v w10 ⟨ks3,k5,k6,rfl,hc10⟩
   obtain rfl:ks3=ks2:=Gq k6 k2 (k5.trans k1.symm)
   have A10:=A9.chg0 hc10
   rw[(Ln ks3 S.cur S.cop S.back (-1-M)).2 (by omega)]
   simp -dsimp (disch:=first|omega|(simp only[go_sem,seval];try omega))only[go_sem,seval]
   refine OpX.call Et rfl (Calls.ret (E8 A10 ok M (by omega)) ?_)
   rintro v w11 ⟨ks4,k7,k8,rfl,hc11⟩
   obtain rfl:ks4=ks3:=Gq k8 k2 (k7.trans k1.symm)
   have a11:=hc11.keep (hc10.keep (hc9.keep a8 (by simp)) (by simp)) (by simp)
   have b11:=hc11.keep (hc10.keep (hc9.keep b8 (by simp)) (by simp)) (by simp)
   have hc911:=hc10.trans0 hc11
   have hsh:=Ln ks4 S.cur S.cop S.back M
   by_cases hM0:0<M
   ·have hne:(Bu ks4 S.cur S.cop S.back M == Bu ks4 S.cur S.cop S.back 0)=false:=beq_eq_false_iff_ne.2 fun e=>hsh.1 e hM0
    have hd:decide (M=0)=false:=decide_eq_false (by omega)
    simp -dsimp (disch:=first|omega|(simp only[go_sem,seval];try omega))only[go_sem,seval,hne,hd,a11,b11,egl]
    exact hc911
   ·have heq:=hsh.2 hM0
    have hMe:M=0:=by omega
    rw[heq]
    simp -dsimp (disch:=first|omega|(simp only[go_sem,seval];try omega))only[go_sem,seval,hMe,a11,b11,egl]
    exact hc911
  ·rintro v w10 ⟨rfl,hc10⟩
   simp -dsimp (disch:=first|omega|(simp only[go_sem,seval];try omega))only[go_sem,seval]
   have hc810:=hc9.trans0 hc10
   have hci10:=hci8.trans0 hc810
   have a10:=hc810.keep a8 (by simp)
   have b10:=hc810.keep b8 (by simp)
   have c10:=c8.chg0 hc810
   have d10:=d8.chg0 hc810
   have hP0:0≤(S.h-1)*(G.w:Int):=Int.mul_nonneg (by omega) (by omega)
   have hP1:(S.h-1)*(G.w:Int)≤60*200:=Int.mul_le_mul (by omega) (by omega) (by omega) (by omega)
   have hPw:(S.h-1)*(G.w:Int)=(S.h-1)*S.w:=by rw[hgw];congr 1;omega
   have hPl:(S.h-1)*S.w≤G.cs.length:=by
    have:=hf.ok.len
    rw[hgw,hgh] at this
    rw[this,Int.natCast_mul,show(S.w.toNat:Int)=S.w by omega,show(S.h.toNat:Int)=S.h by omega,Int.mul_comm]
    exact Int.mul_le_mul_of_nonneg_left (by omega) (by omega)
   refine Loop1.st (fun q:Nat=>.int .i64 (q:Int)) (fun q w'=>(q:Int)≤(S.h-1)*(G.w:Int)∧Chg [] w10 w') (fun q=>((S.h-1)*(G.w:Int)).toNat-q) 0 rfl ⟨by simpa using hP0,Chg.refl _ _⟩ ?_
   rintro next4 k wj hn4 ⟨hk,hcj⟩
   have aj:=hcj.keep a10 (by simp)
   have bj:=hcj.keep b10 (by simp)
   simp -dsimp (disch:=first|omega|(simp only[go_sem,seval];try omega))only[go_sem,seval,aj]
   refine BrW.dec (fun g4=>?_) (fun g4=>?_)
   ·have e1:(k:Int)+1=((k+1:Nat):Int):=by omega
    have hkG:k<G.cs.length:=by omega
    have hkF:k<F.cs.length:=by omega
    have hce:=hup k (by omega)
    rw[List.getElem?_eq_getElem hkG,List.getElem?_eq_getElem hkF] at hce
    obtain⟨bb,o,e2,hbl,h3,-⟩:=SxC.cel (c10.chg0 hcj) (List.getElem?_eq_getElem hkG)
    obtain⟨bb',o',e2',hbl',h3',-⟩:=SxC.cel (d10.chg0 hcj) (List.getElem?_eq_getElem hkF)
    cases e2
    cases e2'
    rw[←Option.some.inj hce] at h3'
    rw[Nat.zero_add] at h3 h3'
    simp -dsimp (disch:=first|omega|(simp only[go_sem,seval];try omega))only[go_sem,seval,aj,bj,h3,h3',e1]
    exact hn4 (k+1) _ ⟨by omega,hcj.drew⟩ (by omega)
   ·refine OpX.call Wk rfl (Calls.ret (TB wj) ?_)
    rintro v w11 ⟨rfl,hc11⟩
    have hci11:Chg [] w w11:=(hci10.trans0 hcj).trans0 hc11
    simp -dsimp (disch:=first|omega|(simp only[go_sem,seval];try omega))only[go_sem,seval]
    refine Join1.cut (fun v w'=>v=.bool true∧Chg [] w w') ?_ (fun v w' h=>hK _ _ h)
    simp -dsimp (disch:=first|omega|(simp only[go_sem,seval];try omega))only[go_sem,seval]
    refine OpX.call HK rfl (Calls.ret (Yd w11 M) ?_)
    rintro v w12 ⟨rfl,hc12⟩
    simp -dsimp (disch:=first|omega|(simp only[go_sem,seval];try omega))only[go_sem,seval]
    refine OpX.call Et rfl (Calls.ret (Rx w12 M) ?_)
    rintro v w13 ⟨rfl,rfl⟩
    have eb:(([]:List UInt8) == (⟨#[]⟩:ByteArray).toList)=true:=by
     rw[show(⟨#[]⟩:ByteArray)=Ao [] from rfl,P8];rfl
    simp -dsimp (disch:=first|omega|(simp only[go_sem,seval];try omega))only[go_sem,seval,eb]
    exact(hci11.trans0 hc12)
end Go.Proofs.YtelplojmbjnplaaGreat
