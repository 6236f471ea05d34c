/- Helpers of this claim, part 5: engine, translated functions, contracts, plain laws. -/
import Derived.Test.YtelplojmbjnplaaGreatB4
import Derived.Test.YtelplojmbjnplaaGreatB1
import Derived.Lib.AppendStr
import Derived.Test.YtelplojmbjnplaaGreatRows
import Derived.Test.YtelplojmbjnplaaGreatB0
import Derived.Lib.SmallJoins
import Derived.Test.YtelplojmbjnplaaGreatB2
set_option linter.unusedSimpArgs false
set_option linter.unusedVariables false
namespace Go.Proofs.YtelplojmbjnplaaGreat
open Lyc Go
structure KRel (S:Ss) (k:Ky) (S':Ss) (word:List UInt8) (v:Value):Prop where
 w:S'.w=S.w
 h:S'.h=S.h
 room:S'.room=S.room
 pre:S'.pre=S.pre
 cop:S'.cop=S.cop∨S'.cop=false
 typ:k.kind≠1→S'.typed=S.typed
 k1:k.kind=1→v=.nilIface∧∃W,S.get S.cur=some W∧S'.typed=BL (S.typed++[⟨S.cur,W.active,k.s⟩])∧S'.wins=S.wins∧S'.cur=S.cur
 k2:k.kind=2→∃W,S.get S.cur=some W∧S'.cur=S.cur∧((v=.nilIface∧S'.cop=false∧∃W' nb n1 n2 R,(Mt.pane nb W.active,R)∈W.L.root.all W.L.R∧W'.n=W.n∧W'.L=Co W.L true nb n1 n2 R W.active∧S'.wins=Bl S.wins W') ∨
  (16≤W.L.root.ids.length∨∃nb R,(Mt.pane nb W.active,R)∈W.L.root.all W.L.R∧R.len true<3))
 k5:k.kind=5→∃W,S.get S.cur=some W∧((v=.nilIface∧2≤W.L.root.ids.length)∨(v=.nilIface∧W.L.root.ids.length=1∧2≤S.wins.length∧S'.wins=S.wins.eraseP (fun x=>x.ent.1 == S.cur)∧S'.cur≠S.cur)∨(v=AY 13∧W.L.root.ids.length=1∧S.wins.length=1∧S'=S))
 k6:k.kind=6→(v=.nilIface∧∃(V:Wn) (n:Nat),1≤n∧n≤9∧V.n=n∧(n:Int)∉S.wins.map (·.n)∧(∀j:Nat,1≤j→j<n→(j:Int)∈S.wins.map (·.n))∧V.active=1∧(∃t,V.L.root=.pane t 1)∧S'.wins=S.wins++[V]∧S'.cur=n) ∨
  (v=AY 15∧word=[119,105,110,100,111,119]∧(∀j:Nat,1≤j→j≤9→(j:Int)∈S.wins.map (·.n))∧S'=S)
 k7:k.kind=7∨k.kind=8→v=.nilIface∧S'.wins=S.wins∧∃ks,ks.Perm (S.wins.map (·.n))∧CG ks∧S'.cur=CF ks S.cur (if k.kind=7 then 1 else -1)
theorem KRel.other {S S':Ss} {k:Ky} {word:List UInt8} {v:Value} (w:S'.w=S.w) (h:S'.h=S.h) (room:S'.room=S.room) (pre:S'.pre=S.pre) (cop:S'.cop=S.cop∨S'.cop=false) (typ:S'.typed=S.typed) (h1:k.kind≠1) (h2:k.kind≠2) (h5:k.kind≠5) (h6:k.kind≠6) (h7:k.kind≠7) (h8:k.kind≠8):KRel S k S' word v :=
 ⟨w,h,room,pre,cop,fun _=>typ,fun e=>absurd e h1,fun e=>absurd e h2,fun e=>absurd e h5,fun e=>absurd e h6,fun e=>e.elim (fun e=>absurd e h7) (fun e=>absurd e h8)⟩
def O8 (base:Nat) (lim:Int) (w:World) (s:Nat) (S:Ss) (k:Ky) (word:List UInt8) (v:Value) (w':World):Prop :=
 ∃S',SsAt base w' s S'∧S'.ok (lim+1)∧Trn (S.own s) (S'.own s) w w'∧(v=.nilIface∨∃c,c≠0∧v=AY c)∧KRel S k S' word v
section
variable {base:Nat} {w w' w'':World} {s:Nat} {S:Ss} {lim:Int}
theorem Ss.get_cur (ok:S.ok lim):∃W,S.get S.cur=some W:=Ss.get_some ok.cur
theorem Ss.ok.turn (ok:S.ok lim) {n:Int} (h:n∈S.wins.map (·.n)):({ S with cur:=n,cop:=false,back:=0 }:Ss).ok lim:=⟨ok.w0,ok.w1,ok.h0,ok.h1,ok.win,h,Int.le_refl _,by show(0:Int)≤1000;decide,ok.few,ok.dis0,ok.dis1⟩
theorem cq (h:SsAt base w s S) (ok:S.ok lim) (hbase:base≤w.heap.size) (hlim:lim≤1000000000000000) (k:Ky) (hk:-1000≤k.n∧k.n≤1000):Calls Tryz.prog 58 #[.pointer (some ⟨s,0,none⟩),k.val] w
  (Ab fun v w'=>∃word v',v=.tuple #[.string (Ap word),v']∧O8 base lim w s S k word v' w'):=by
 obtain⟨W,hg⟩:=S.get_cur ok
 obtain⟨hWm,hWn⟩:=Ss.get_mem hg
 obtain⟨wok,wR,wnew,wn⟩:=ok.win W hWm
 have hlen:=h.len ok
 have hb:=h.hb
 have hm:=h.hm
 have ls:=Aa hb
 have lm:=Aa hm
 apply Yq
 intro K hK
 unfold Lg
 unfold Ky.val
 simp -dsimp (disch:=first|omega|(simp only[go_sem,seval];try omega))only[go_sem,seval,hb,hm,Eo,hg]
 have eW:(Bt (S.wins.map Wn.ent,S.mc).fst S.cur).getD (Value.pointer none)=Value.pointer (some ⟨W.b,0,none⟩):=by
  show(Bt (S.wins.map Wn.ent) S.cur).getD (Value.pointer none)=_
  rw[Eo,hg];rfl
 rw[eW]
 refine DS (F:=Join0 _ _) fun w0 hw0=>?_
 have hc0:Chg [] w w0:=by rw[hw0];(repeat (first|exact Chg.refl _ _|apply Chg.drew|apply Chg.alloc|(refine Chg.set ?_ _ _ (by first|(left;simp;done)|(right;omega)))))
 have ak:w0.heap[w.heap.size]?=some (.cells #[.int .i64 k.kind,.int .i64 k.n,.string (Ap k.s)] 138):=by rw[hw0];simp -dsimp (disch:=first|omega|(simp only[go_sem,seval];try omega))only[go_sem,seval]
 clear hw0
 have h0:=h.chg0 hc0
 have hb0:=h0.hb
 have hm0:=h0.hm
 have hbase0:base≤w0.heap.size:=by have:=hc0.size;omega
 have T0:Trn (S.own s) (S.own s) w w0:=.of0 hc0 fun _ h=>.inl h
 have hW0:=h0.each W hWm
 have hWb:=hW0.hb
 refine Join0.cut (fun w'=>O8 base lim w s S k [] .nilIface w') ?_ (fun w' h=>hK _ _ ⟨[],.nilIface,rfl,h⟩)
 refine Join0.cut (fun w'=>(k.kind=14∨k.kind=12)∧w'=w0) ?_ ?_
 ·simp -dsimp (disch:=first|omega|(simp only[go_sem,seval];try omega))only[go_sem,seval]
  refine BrW.dec (fun g=>?_) (fun g1=>?_)
  · -- a text is typed
   simp -dsimp (disch:=first|omega|(simp only[go_sem,seval];try omega))only[go_sem,seval,hb0,hWb,ak]
   have hd:Chg [] w0 w0.drew:=(Chg.refl _ _).drew
   refine OpX.call XH rfl (Calls.ret (Z4 (h0.chg0 hd) ok.few hbase0 ⟨S.cur,W.active,k.s⟩) ?_)
   rintro v w1 ⟨tv,A,T⟩
   have T:Trn (S.own s) (({ S with typed:=BL (S.typed++[⟨S.cur,W.active,k.s⟩]),tv:=tv }:Ss).own s) w w1:=(T0.chg0 hd).trans T
   exact⟨_,A,(by exact⟨ok.w0,ok.w1,ok.h0,ok.h1,fun V hV=>let ⟨a,b,c,d⟩:=ok.win V hV;⟨a,b,by omega,d⟩,ok.cur,ok.back0,ok.back1,Pd _,ok.dis0,by have:=ok.dis1;show S.dis≤_;omega⟩),T,.inl rfl,
    ⟨rfl,rfl,rfl,rfl,.inl rfl,fun e=>absurd g e,fun _=>⟨rfl,W,hg,rfl,rfl,rfl⟩,fun e=>by omega,fun e=>by omega,fun e=>by omega,fun e=>by omega⟩⟩
  refine Join1.cut (fun v w'=>v=.bool (decide (k.kind=2∨k.kind=3))∧w'=w0) ?_ ?_
  ·simp -dsimp (disch:=first|omega|(simp only[go_sem,seval];try omega))only[go_sem,seval]
   refine BrW.dec (fun g=>⟨congrArg Value.bool (decide_eq_true (.inl g)).symm,rfl⟩) (fun g=>?_)
   simp -dsimp (disch:=first|omega|(simp only[go_sem,seval];try omega))only[go_sem,seval]
   exact congrArg Value.bool (decide_eq_decide.2 ⟨fun h=>.inr h,fun h=>h.elim (fun h=>absurd h g) id⟩)
  rintro v w1 ⟨rfl,rfl⟩
  refine BrW.dec (fun g=>?_) (fun g2=>?_)
  · -- a pane is divided
   have n5:k.kind≠5∧k.kind≠6∧¬(k.kind=7∨k.kind=8):=by omega
   simp -dsimp (disch:=first|omega|(simp only[go_sem,seval];try omega))only[go_sem,seval,ak]
   refine OpX.call QW rfl (Calls.ret (Xh hW0 wok hbase0 (by omega) (decide (k.kind=2))) ?_)
   rintro v w2 ⟨W',hst,hd⟩
   obtain⟨A1,T1⟩:=h0.turn hWm hst.n hst.b hst.born hst.trn hst.at_ hbase0
   have ok1:=ok.put hWm hst.n hst.ok hst.R hst.new
   rcases hd with ⟨rfl,nb,n1,n2,R,d1,d2,d3,d4,d5⟩|⟨rfl,⟨c,hc,rfl⟩,d⟩
   ·simp -dsimp (disch:=first|omega|(simp only[go_sem,seval];try omega))only[go_sem,seval]
    refine OpX.call Ga rfl (Calls.ret (Gu A1) ?_)
    rintro v w3 ⟨A2,T2⟩
    refine⟨_,A2,ok1.left false,(T0.trans T1).trans T2,.inl rfl,⟨rfl,rfl,rfl,rfl,.inr rfl,fun _=>rfl,fun e=>by omega,fun e=>?_,fun e=>by omega,fun e=>by omega,fun e=>by omega⟩⟩
    refine⟨W,hg,rfl,.inl ⟨rfl,rfl,W',nb,n1,n2,R,d1,hst.n,?_,rfl⟩⟩
    rw[d4,e];rfl
   ·unfold AY
    simp -dsimp (disch:=first|omega|(simp only[go_sem,seval];try omega))only[go_sem,seval]
    refine hK _ _ ⟨[115,112,108,105,116],_,rfl,_,A1,ok1,T0.trans T1,.inr ⟨c,hc,rfl⟩,⟨rfl,rfl,rfl,rfl,.inl rfl,fun _=>rfl,fun e=>absurd e g1,fun e=>?_,fun e=>absurd e n5.1,fun e=>absurd e n5.2.1,fun e=>absurd e n5.2.2⟩⟩
    refine⟨W',hg,rfl,.inr ?_⟩
    rw[e] at d
    exact d
  have gn:k.kind≠2∧k.kind≠3:=⟨fun e=>g2 (.inl e),fun e=>g2 (.inr e)⟩
  clear g2
  simp -dsimp (disch:=first|omega|(simp only[go_sem,seval];try omega))only[go_sem,seval]
  refine BrW.dec (fun g=>?_) (fun g4=>?_)
  · -- the next pane
   simp -dsimp (disch:=first|omega|(simp only[go_sem,seval];try omega))only[go_sem,seval,hWb]
   have hd:Chg [] w1 w1.drew:=(Chg.refl _ _).drew
   refine OpX.call Of rfl (Calls.ret (Nc (hW0.lay.chg0 hd) wok.lay W.active) ?_)
   rintro v w2 ⟨rfl,hc2⟩
   have hc2:Chg [] w1 w2:=hd.trans0 hc2
   have hW2:=hW0.chg0 hc2
   have hWb2:=hW2.hb
   have lw2:=Aa hWb2
   have hne:=hW2.ne
   obtain⟨nx1,nx2⟩:=OD wok.lay.nd wok.act
   generalize DG W.L.root.ids W.active=nx at *
   simp -dsimp (disch:=first|omega|(simp only[go_sem,seval];try omega))only[go_sem,seval,hWb2]
   refine DS (F:=OpX _ _ _ _) fun w3 hw3=>?_
   have hc3:Chg [W.b] w2 w3:=by rw[hw3];exact(Chg.refl _ _).set _ _ (by simp)
   have hb3:w3.heap[W.b]?=some (.cells #[.pointer (some ⟨W.lb,0,none⟩),.int .i64 nx,.int .i64 W.room,.map (some W.tm)] 106):=by rw[hw3];exact As _ _ _ _ rfl lw2
   clear hw3
   obtain⟨A1,T1⟩:=hW2.laid (L:=W.L) (act:=nx) hc3 (by simp) (hW2.lay.chg hc3 (by simp;exact fun e=>hne.1 e.symm) fun x hx hm=>by simp at hm;subst hm;exact hne.2.2.2.1 hx) hb3 (fun x hx=>.inl hx) (by have:=hc2.size;omega)
   obtain⟨A2,T2⟩:=(h0.chg0 hc2).turn hWm (V:={ W with L:=W.L,active:=nx }) rfl rfl rfl T1 A1 (by have:=hc2.size;omega)
   have ok1:=ok.put hWm (V:={ W with L:=W.L,active:=nx }) rfl ⟨wok.lay,nx1,wok.has,wok.size⟩ rfl (by show W.L.newest≤_;omega)
   refine OpX.call Ga rfl (Calls.ret (Gu A2) ?_)
   rintro v w4 ⟨A3,T3⟩
   exact⟨_,A3,ok1.left false,((T0.chg0 hc2).trans T2).trans T3,.inl rfl,KRel.other rfl rfl rfl rfl (.inr rfl) rfl g1 gn.1 (by omega) (by omega) (by omega) (by omega)⟩
  simp -dsimp (disch:=first|omega|(simp only[go_sem,seval];try omega))only[go_sem,seval]
  refine BrW.dec (fun g=>?_) (fun g5=>?_)
  ·refine OpX.call YZ rfl (Calls.ret (RC h0 ok hbase0 hg) ?_)
   rintro v w2 ⟨S',A,ok1,T,s1,s2,s3,s4,s5,s6,hd⟩
   refine hK _ _ ⟨[99,108,111,115,101],_,rfl,S',A,ok1,T0.trans T,?_,⟨s1,s2,s3,s5,?_,fun _=>s4,fun e=>by omega,fun e=>by omega,fun e=>⟨W,hg,?_⟩,fun e=>by omega,fun e=>by omega⟩⟩
   ·rcases hd with ⟨rfl,-⟩|⟨rfl,-⟩|⟨rfl,-⟩
    ·exact .inl rfl
    ·exact .inl rfl
    ·exact .inr ⟨13,by decide,rfl⟩
   ·exact s6
   ·exact hd.imp (fun⟨a,b,_⟩=>⟨a,b⟩) (Or.imp (fun⟨a,b,c,d,ks,e1,e2,e3,e4⟩=>⟨a,b,c,d,e4⟩) id)
  simp -dsimp (disch:=first|omega|(simp only[go_sem,seval];try omega))only[go_sem,seval]
  refine BrW.dec (fun g=>?_) (fun g6=>?_)
  ·refine OpX.call Xl rfl (Calls.ret (Yi h0 ok hbase0) ?_)
   rintro v w2 (⟨rfl,V,n,n1,n2,n3,n4,n5,v1,v2,v3,v4,v5,v6,A,T⟩|⟨rfl,hfull,rfl⟩)
   ·have ok2:({ S with wins:=S.wins++[V],mc:=S.mc+1,cur:=n,cop:=false,back:=0 }:Ss).ok (lim+1):=by
     refine⟨ok.w0,ok.w1,ok.h0,ok.h1,fun U hU=>?_,?_,Int.le_refl _,by show(0:Int)≤1000;decide,ok.few,ok.dis0,by have:=ok.dis1;show S.dis≤_;omega⟩
     ·rcases List.mem_append.1 hU with hU|hU
      ·obtain⟨a,b,c,d⟩:=ok.win U hU
       exact⟨a,b,by omega,d⟩
      ·simp only[List.mem_singleton] at hU
       subst hU
       exact⟨v1,v3,by rw[v4];have:=ok.dis0;have:=ok.dis1;omega,by omega⟩
     ·show(n:Int)∈(S.wins++[V]).map (·.n)
      rw[List.map_append]
      exact List.mem_append_right _ (by simp [n3])
    exact hK _ _ ⟨[119,105,110,100,111,119],_,rfl,_,A,ok2,T0.trans T,.inl rfl,
     ⟨rfl,rfl,rfl,rfl,.inr rfl,fun _=>rfl,fun e=>by omega,fun e=>by omega,fun e=>by omega,fun _=>.inl ⟨rfl,V,n,n1,n2,n3,n4,n5,v2,v5,rfl,rfl⟩,fun e=>by omega⟩⟩
   ·exact hK _ _ ⟨[119,105,110,100,111,119],_,rfl,S,h0,ok.mono (by omega),T0,.inr ⟨15,by decide,rfl⟩,⟨rfl,rfl,rfl,rfl,.inl rfl,fun _=>rfl,fun e=>by omega,fun e=>by omega,fun e=>by omega,fun _=>.inr ⟨rfl,rfl,hfull,rfl⟩,fun e=>by omega⟩⟩
  simp -dsimp (disch:=first|omega|(simp only[go_sem,seval];try omega))only[go_sem,seval]
  refine BrW.dec (fun g=>?_) (fun g7=>?_)
  ·refine OpX.call Jy rfl (Calls.ret (I5 h0 (by omega) ok.cur 1 (by decide) (by decide)) ?_)
   rintro v w2 ⟨ks,k1,k2,rfl,k4,hc2⟩
   refine OpX.call Ht rfl (Calls.ret (Gb (h0.chg0 hc2) _) ?_)
   rintro v w3 ⟨A,T⟩
   exact⟨_,A,(ok.mono (by omega)).turn k4,(T0.chg0 hc2).trans T,.inl rfl,⟨rfl,rfl,rfl,rfl,.inr rfl,fun _=>rfl,fun e=>by omega,fun e=>by omega,fun e=>by omega,fun e=>by omega,fun _=>⟨rfl,rfl,ks,k1,k2,by rw[if_pos g]⟩⟩⟩
  simp -dsimp (disch:=first|omega|(simp only[go_sem,seval];try omega))only[go_sem,seval]
  refine BrW.dec (fun g=>?_) (fun g8=>?_)
  ·refine OpX.call Jy rfl (Calls.ret (I5 h0 (by omega) ok.cur (-1) (by decide) (by decide)) ?_)
   rintro v w2 ⟨ks,k1,k2,rfl,k4,hc2⟩
   refine OpX.call Ht rfl (Calls.ret (Gb (h0.chg0 hc2) _) ?_)
   rintro v w3 ⟨A,T⟩
   exact⟨_,A,(ok.mono (by omega)).turn k4,(T0.chg0 hc2).trans T,.inl rfl,⟨rfl,rfl,rfl,rfl,.inr rfl,fun _=>rfl,fun e=>by omega,fun e=>by omega,fun e=>by omega,fun e=>by omega,fun _=>⟨rfl,rfl,ks,k1,k2,by rw[if_neg (by omega)]⟩⟩⟩
  simp -dsimp (disch:=first|omega|(simp only[go_sem,seval];try omega))only[go_sem,seval]
  have hoth:k.kind≠1∧k.kind≠2∧k.kind≠5∧k.kind≠6∧k.kind≠7∧k.kind≠8:=⟨g1,gn.1,g5,g6,g7,g8⟩
  obtain⟨o1,o2,o5,o6,o7,o8⟩:=hoth
  refine BrW.dec (fun g=>?_) (fun g9=>?_)
  · -- a window is selected
   have hlk:∀d,(Bt (S.wins.map Wn.ent) d).getD (Value.pointer none)=Cc (S.get d):=Eo S
   have hd:Chg [] w1 w1.drew:=(Chg.refl _ _).drew
   cases hs:S.get k.n with
   | none =>
    simp -dsimp (disch:=first|omega|(simp only[go_sem,seval];try omega))only[go_sem,seval,hb0,hm0,ak,hlk,hs,Cc,Option.map_none,Option.getD_none]
    refine OpX.call Cd rfl (Calls.ret (Ca _ 12) ?_)
    rintro v w2 ⟨rfl,rfl⟩
    exact hK _ _ ⟨[115,101,108,101,99,116],_,rfl,S,h0.chg0 hd,ok.mono (by omega),T0.chg0 hd,.inr ⟨12,by decide,rfl⟩,KRel.other rfl rfl rfl rfl (.inl rfl) rfl o1 o2 o5 o6 o7 o8⟩
   | some V =>
    simp -dsimp (disch:=first|omega|(simp only[go_sem,seval];try omega))only[go_sem,seval,hb0,hm0,ak,hlk,hs,Cc,Option.map_some,Option.getD_some]
    refine OpX.call Ht rfl (Calls.ret (Gb (h0.chg0 hd) k.n) ?_)
    rintro v w3 ⟨A,T⟩
    exact⟨_,A,(ok.mono (by omega)).turn (List.mem_map.2 ⟨V,(Ss.get_mem hs).1,(Ss.get_mem hs).2⟩),(T0.chg0 hd).trans T,.inl rfl,KRel.other rfl rfl rfl rfl (.inr rfl) rfl o1 o2 o5 o6 o7 o8⟩
  simp -dsimp (disch:=first|omega|(simp only[go_sem,seval];try omega))only[go_sem,seval]
  refine BrW.dec (fun g=>?_) (fun g10=>?_)
  ·simp -dsimp (disch:=first|omega|(simp only[go_sem,seval];try omega))only[go_sem,seval,ak]
   refine OpX.call bu rfl (Calls.ret (TN hW0 wok hbase0 k.n) ?_)
   rintro v w2 ⟨W',hst,hv⟩
   obtain⟨A1,T1⟩:=h0.turn hWm hst.n hst.b hst.born hst.trn hst.at_ hbase0
   exact hK _ _ ⟨[109,111,118,101],_,rfl,_,A1,ok.put hWm hst.n hst.ok hst.R hst.new,T0.trans T1,hv,KRel.other rfl rfl rfl rfl (.inl rfl) rfl o1 o2 o5 o6 o7 o8⟩
  simp -dsimp (disch:=first|omega|(simp only[go_sem,seval];try omega))only[go_sem,seval]
  refine BrW.dec (fun g=>?_) (fun g11=>?_)
  ·simp -dsimp (disch:=first|omega|(simp only[go_sem,seval];try omega))only[go_sem,seval,ak]
   refine OpX.call Nw rfl (Calls.ret (OL h0 hg wok k.n ok.back0 ok.back1 (by omega) (by omega)) ?_)
   rintro v w2 ⟨b,b0,b1,-,A,T⟩
   exact⟨_,A,(by exact⟨ok.w0,ok.w1,ok.h0,ok.h1,fun V hV=>let ⟨a,b,c,d⟩:=ok.win V hV;⟨a,b,by omega,d⟩,ok.cur,b0,b1,ok.few,ok.dis0,by have:=ok.dis1;show S.dis≤_;omega⟩),T0.trans T,.inl rfl,KRel.other rfl rfl rfl rfl (.inl rfl) rfl o1 o2 o5 o6 o7 o8⟩
  simp -dsimp (disch:=first|omega|(simp only[go_sem,seval];try omega))only[go_sem,seval]
  refine BrW.dec (fun g=>?_) (fun g14=>?_)
  ·exact⟨.inl g,rfl⟩
  simp -dsimp (disch:=first|omega|(simp only[go_sem,seval];try omega))only[go_sem,seval]
  refine BrW.dec (fun g=>?_) (fun g12=>?_)
  ·exact⟨.inr g,rfl⟩
  simp -dsimp (disch:=first|omega|(simp only[go_sem,seval];try omega))only[go_sem,seval]
  refine BrW.dec (fun g=>?_) (fun g13=>?_)
  ·have lb:=Aa hb0
   have:=ok.dis0
   have:=ok.dis1
   simp -dsimp (disch:=first|omega|(simp only[go_sem,seval];try omega))only[go_sem,seval,hb0]
   obtain⟨A,T⟩:=h0.self (cur:=S.cur) (cop:=S.cop) (pre:=S.pre) (back:=S.back) (dis:=S.dis+1) (x:=S.w) (y:=S.h) ((Chg.refl [s] w1).set _ _ (by simp)) (As _ _ _ _ rfl lb)
   exact⟨_,A,(by exact⟨ok.w0,ok.w1,ok.h0,ok.h1,fun V hV=>let ⟨a,b,c,d⟩:=ok.win V hV;⟨a,b,by omega,d⟩,ok.cur,ok.back0,ok.back1,ok.few,by show 0≤S.dis+1;omega,by show S.dis+1≤_;omega⟩),T0.trans T,.inl rfl,KRel.other rfl rfl rfl rfl (.inl rfl) rfl o1 o2 o5 o6 o7 o8⟩
  ·exact⟨S,h0,ok.mono (by omega),T0,.inl rfl,KRel.other rfl rfl rfl rfl (.inl rfl) rfl o1 o2 o5 o6 o7 o8⟩
 ·rintro w1 ⟨hkk,rfl⟩
  have lb:=Aa hb0
  simp -dsimp (disch:=first|omega|(simp only[go_sem,seval];try omega))only[go_sem,seval,hb0]
  obtain⟨A,T⟩:=h0.self (cur:=S.cur) (cop:=S.cop) (pre:=S.pre) (back:=0) (dis:=S.dis) (x:=S.w) (y:=S.h) ((Chg.refl [s] w1).set _ _ (by simp)) (As _ _ _ _ rfl lb)
  exact⟨_,A,(ok.mono (by omega)).left S.cop,T0.trans T,.inl rfl,KRel.other rfl rfl rfl rfl (.inl rfl) rfl (by omega) (by omega) (by omega) (by omega) (by omega) (by omega)⟩
end
def erV:Option (TypeId × Value)→Value
 | none=>.nilIface
 | some p=>.iface p.1 p.2
def erF (e:Option (TypeId × Value)):List Value:=[erV e]
theorem Pv (e:Option (TypeId × Value)):(erF e).length=1:=rfl
theorem KA (e:Option (TypeId × Value)):AV (erF e)=true:=by cases e<;>rfl
def Bs (l:List (Option (TypeId × Value))):List (Option (TypeId × Value)):=l.filter Option.isSome
theorem V4 (l:List (Option (TypeId × Value))):(Bs l).length≤l.length:=List.length_filter_le _ _
theorem Z1 {w:World} {a:Option Addr} {cap:Nat} {xs:List (Option (TypeId × Value))} (hs:Sx w (some 31) erF a xs) (hlen:xs.length≤100000):Calls Tryz.prog 61 #[.slice a xs.length cap] w
  (Ab fun v w'=>Chg [] w w'∧((Bs xs=[]∧v=.nilIface)∨(∃p,Bs xs=[some p]∧v=.iface p.1 p.2)∨(2≤(Bs xs).length∧∃t y,v=.iface t y))):=by
 apply Th
 intro K hK
 unfold N4
 simp -dsimp (disch:=first|omega|(simp only[go_sem,seval];try omega))only[go_sem,seval]
 refine Loop2.st (fun q:Nat × Option Addr × Nat=>.slice q.2.1 (Bs (xs.take q.1)).length q.2.2) (fun q=>.int .i64 (q.1:Int)) (fun q w'=>q.1≤xs.length∧Chg [] w w'∧Ox w.heap.size w' 31 1 erF (.slice q.2.1 (Bs (xs.take q.1)).length q.2.2) (Bs (xs.take q.1))) (fun q=>xs.length-q.1) (0,none,0) rfl rfl ⟨Nat.zero_le _,Chg.refl _ _,Ox.nil _ _ _ _ _⟩ ?_
 rintro next ⟨i,a3,c3⟩ wi hn ⟨hi,hc,ho⟩
 dsimp only at hi hc ho ⊢
 have hzi:=hc.size
 have hkl:=V4 (xs.take i)
 have htl:(xs.take i).length≤100000:=by rw[List.length_take];omega
 simp -dsimp (disch:=first|omega|(simp only[go_sem,seval];try omega))only[go_sem,seval]
 refine BrW.dec (fun g=>?_) (fun g=>?_)
 ·have hi':i<xs.length:=by omega
  have hx:xs[i]?=some xs[i]:=List.getElem?_eq_getElem hi'
  have ht:Bs (xs.take (i+1))=if xs[i].isSome then Bs (xs.take i)++[xs[i]] else Bs (xs.take i):=by
   unfold Bs
   rw[Cm hi',List.filter_append]
   split<;>simp_all
  generalize xs[i]=x at *
  have e1:(i:Int)+1=((i+1:Nat):Int):=by omega
  refine Join1.cut (fun v w'=>∃a' c',v=.slice a' (Bs (xs.take (i+1))).length c'∧Chg [] w w'∧Ox w.heap.size w' 31 1 erF (.slice a' (Bs (xs.take (i+1))).length c') (Bs (xs.take (i+1)))) ?_ ?_
  ·obtain⟨b,o,rfl,hbl,hcell⟩:=(hs.chg0 hc).get1 (g:=erV) (fun _=>rfl) hx
   cases x with
   | none =>
    simp only[erV] at hcell
    simp -dsimp (disch:=first|omega|(simp only[go_sem,seval];try omega))only[go_sem,seval,hcell]
    rw[ht]
    exact⟨a3,c3,rfl,hc,ho⟩
   | some p =>
    simp only[erV] at hcell
    simp -dsimp (disch:=first|omega|(simp only[go_sem,seval];try omega))only[go_sem,seval,hcell]
    refine OpX.gen fun w1 hw1=>?_
    have hc1:Chg [] wi w1:=by rw[hw1];(repeat (first|exact Chg.refl _ _|apply Chg.drew|apply Chg.alloc|(refine Chg.set ?_ _ _ (by first|(left;simp;done)|(right;omega)))))
    have hsa:Sx w1 (some 31) erF (some ⟨wi.heap.size,0,none⟩) [some p]:=Sx.built (c:=erF (some p)) (by rw[hw1];simp only[erF,erV];simp -dsimp (disch:=first|omega|(simp only[go_sem,seval];try omega))only[go_sem,seval]) (by simp)
    clear hw1
    have hz1:=hc1.size
    refine Bv MA Pv KA (ho.chg0 hc1) hsa rfl (by rw[List.length_singleton];omega) (by omega) (by omega) ?_
    intro v' w2 ho2 hc2 hown2
    have ht':Bs (xs.take (i+1))=Bs (xs.take i)++[some p]:=ht
    rw[←ht'] at ho2
    obtain⟨a2,c2,rfl,-⟩:=ho2.form
    exact⟨a2,c2,rfl,(hc.trans0 hc1).trans hc2 (fun x hx=>.inr ((ho.chg0 hc1).own_ge x hx)),ho2⟩
  ·rintro v w2 ⟨a',c',rfl,hc2,ho2⟩
   simp -dsimp (disch:=first|omega|(simp only[go_sem,seval];try omega))only[go_sem,seval,e1]
   exact hn (i+1,a',c') _ ⟨by dsimp only;omega,hc2,ho2⟩ (by dsimp only;omega)
 ·have hil:i=xs.length:=by omega
  subst hil
  rw[List.take_length] at ho hkl ⊢
  obtain⟨a9,c9,e9,-,hs3,-,-⟩:=ho.form
  simp only[Value.slice.injEq] at e9
  obtain⟨rfl,-,rfl⟩:=e9
  have hsome:∀x∈Bs xs,x.isSome=true:=fun x hx=>(List.mem_filter.1 hx).2
  generalize Bs xs=ks at *
  simp -dsimp (disch:=first|omega|(simp only[go_sem,seval];try omega))only[go_sem,seval]
  refine BrW.dec (fun g=>?_) (fun g0=>?_)
  ·exact hK _ _ ⟨hc,.inl ⟨List.eq_nil_of_length_eq_zero (by omega),rfl⟩⟩
  simp -dsimp (disch:=first|omega|(simp only[go_sem,seval];try omega))only[go_sem,seval]
  refine BrW.dec (fun g=>?_) (fun g1=>?_)
  ·have hl0:0<ks.length:=by omega
   obtain⟨b,o,rfl,hbl,hcell⟩:=hs3.get1 (g:=erV) (fun _=>rfl) (List.getElem?_eq_getElem hl0)
   have hs1:=hsome _ (List.getElem_mem hl0)
   have hk1:ks=[ks[0]]:=by
    cases ks with
    | nil=>simp at hl0
    | cons y l =>
     cases l with
     | nil=>rfl
     | cons z l=>simp only[List.length_cons] at g;omega
   generalize ks[0]=y at *
   subst hk1
   cases y with
   | none=>simp at hs1
   | some p =>
    simp only[erV,Nat.add_zero] at hcell
    simp -dsimp (disch:=first|omega|(simp only[go_sem,seval];try omega))only[go_sem,seval,hcell]
    exact hK _ _ ⟨hc,.inr (.inl ⟨p,rfl,rfl⟩)⟩
  ·simp -dsimp (disch:=first|omega|(simp only[go_sem,seval];try omega))only[go_sem,seval]
   exact hK _ _ ⟨hc.trans0 (by(repeat (first|exact Chg.refl _ _|apply Chg.drew|apply Chg.alloc|(refine Chg.set ?_ _ _ (by first|(left;simp;done)|(right;omega)))))),.inr (.inr ⟨by omega,_,_,rfl⟩)⟩
end Go.Proofs.YtelplojmbjnplaaGreat
namespace Lyc
open Go
def Ky.small (k:Ky):Prop:=-1000≤k.n∧k.n≤1000
def Kst.small (S:Kst):Prop:=∀k∈S.ks,k.small
theorem Kst.flush_small {S:Kst} (h:S.small):S.flush.small:=by
 unfold flush
 split
 ·exact h
 ·intro k hk
  rcases List.mem_append.1 hk with hk|hk
  ·exact h k hk
  ·simp at hk;subst hk;exact⟨by show(-1000:Int)≤0;decide,by show(0:Int)≤1000;decide⟩
theorem Kst.tell_small {S:Kst} (h:S.small) {m:Int × Int} (hm:-1000≤m.2∧m.2≤1000):(S.tell m).small:=by
 intro k hk
 rcases List.mem_append.1 hk with hk|hk
 ·exact flush_small h k hk
 ·simp at hk;subst hk;exact hm
theorem Kst.look_small {S:Kst} (h:S.small) {l:List UInt8} {ms:List (Int × Int)} (hm:∀m∈ms,-1000≤m.2∧m.2≤1000) (b:UInt8):(S.look l ms b).small:=by
 unfold look
 split
 ·exact h
 ·rename_i i _
  refine tell_small h ?_
  rw[List.getD_eq_getElem?_getD]
  cases hg:ms[i]? with
  | none=>exact⟨by decide,by decide⟩
  | some m=>exact hm m (List.mem_of_getElem? hg)
theorem Kst.step_small {S:Kst} (h:S.small) (b:UInt8):(S.step b).small:=by
 unfold step
 split
 ·split
  ·exact h
  ·exact look_small (S:={ S with pre:=false }) h (by decide) b
 split
 ·exact flush_small h
 split
 ·exact h
 ·exact look_small h (by decide) b
theorem aE (cop pre:Bool) (l:List UInt8):(BX cop pre l).small:=by
 refine Kst.flush_small ?_
 suffices ∀(l:List UInt8) (S:Kst),S.small→(S.feed l).small from this l _ (by intro k hk;simp at hk)
 intro l
 induction l with
 | nil=>intro S h;exact h
 | cons b l ih=>intro S h;exact ih _ (Kst.step_small h b)
theorem cS (cop pre:Bool) (l:List UInt8):(BX cop pre l).ks.length≤2*l.length+1:=by
 have h1:=Kst.feed_ks l ⟨cop,pre,[],[]⟩
 have h2:=(Kst.feed ⟨cop,pre,[],[]⟩ l).flush_ks
 simp only[List.length_nil,Nat.zero_add] at h1
 unfold BX
 omega
end Lyc
namespace Go.Proofs.YtelplojmbjnplaaGreat
open Lyc Go
inductive KRun (S:Ss):List Ky→Ss→List (List UInt8 × Value)→Prop
 | nil:KRun S [] S []
 | snoc {ks:List Ky} {k:Ky} {S1 S2:Ss} {vs:List (List UInt8 × Value)} {word:List UInt8} {v:Value}:KRun S ks S1 vs→KRel S1 k S2 word v→KRun S (ks++[k]) S2 (vs++[(word,v)])
theorem KRun.len {S S':Ss} {ks:List Ky} {vs:List (List UInt8 × Value)} (h:KRun S ks S' vs):vs.length=ks.length:=by
 induction h with
 | nil=>rfl
 | snoc _ _ ih=>simp [ih]
def EAt (o:Nat→Prop) (w:World) (j:Nat) (p:List UInt8 × Value) (x:Option (TypeId × Value)):Prop :=
 (p.2=.nilIface∧x=none)∨∃c b b2,p.2=AY c∧c≠0∧x=some (203,.pointer (some ⟨b,0,none⟩))∧¬o b∧¬o b2∧w.heap[b]?=some (.cells #[.iface 206 (.pointer (some ⟨b2,0,none⟩)),.int .i64 j] 205)∧w.heap[b2]?=some (.cells #[AY c,.string (Ap p.1)] 208)
theorem EAt.trn {o o':Nat→Prop} {w w':World} {j:Nat} {p:List UInt8 × Value} {x:Option (TypeId × Value)} (h:EAt o w j p x) (ht:Trn o o' w w'):EAt o' w' j p x:=by
 rcases h with h|⟨c,b,b2,h1,h2,h3,h4,h5,h6,h7⟩
 ·exact .inl h
 ·exact .inr ⟨c,b,b2,h1,h2,h3,fun h=>(ht.grow b h).elim h4 fun h=>by have:=Aa h6;omega,fun h=>(ht.grow b2 h).elim h5 fun h=>by have:=Aa h7;omega,ht.keep h6 h4,ht.keep h7 h5⟩
theorem EAt.chg0 {o:Nat→Prop} {w w':World} {j:Nat} {p:List UInt8 × Value} {x:Option (TypeId × Value)} (h:EAt o w j p x) (hc:Chg [] w w'):EAt o w' j p x:=by
 rcases h with h|⟨c,b,b2,h1,h2,h3,h4,h5,h6,h7⟩
 ·exact .inl h
 ·exact .inr ⟨c,b,b2,h1,h2,h3,h4,h5,hc.keep h6 (by simp),hc.keep h7 (by simp)⟩
theorem EAt.app {base:Nat} {o:Nat→Prop} {w w':World} {j:Nat} {p:List UInt8 × Value} {x:Option (TypeId × Value)} {v:Value} {xs:List (Option (TypeId × Value))} (h:EAt o w j p x) (ho:Ox base w 31 1 erF v xs) (hc:Chg v.ownBlock.toList w w'):EAt o w' j p x:=by
 rcases h with h|⟨c,b,b2,h1,h2,h3,h4,h5,h6,h7⟩
 ·exact .inl h
 ·exact .inr ⟨c,b,b2,h1,h2,h3,h4,h5,hc.keep h6 (fun hm=>ho.off h6 rfl (by simpa using hm)),hc.keep h7 (fun hm=>ho.off h7 rfl (by simpa using hm))⟩
theorem _root_.Lyc.Trn.priv {o o':Nat→Prop} {w w' w'':World} {F:List Nat} (h:Trn o o' w w') (hc:Chg F w' w'') (hF:∀x∈F,w.heap.size≤x):Trn o o' w w'':=by
 obtain⟨G,hg,hG⟩:=h.chg
 exact Trn.low (F:=G++F) ((hg.mono fun x hx=>.inl (List.mem_append_left _ hx)).trans hc fun x hx=>.inl (List.mem_append_right _ hx)) (fun x hx=>(List.mem_append.1 hx).elim (fun h=>.inl (hG x h)) fun h=>.inr (hF x h)) h.grow
section
variable {base:Nat} {w w' w'':World} {s:Nat} {S:Ss} {lim:Int}
theorem Xc (h:SsAt base w s S) (ok:S.ok lim) (hbase:base≤w.heap.size) (hlim:lim≤900000000000000) (l:List UInt8) (hl:l.length≤2000):Calls Tryz.prog 27 #[.pointer (some ⟨s,0,none⟩),.string (Ap l)] w
  (Ab fun v w'=>∃S' vs,SsAt base w' s S'∧S'.ok (lim+5000)∧Trn (S.own s) (S'.own s) w w'∧KRun { S with cop:=(BX S.cop S.pre l).cop,pre:=(BX S.cop S.pre l).pre } (BX S.cop S.pre l).ks S' vs ∧
   ((∀p∈vs,p.2=.nilIface)→v=.nilIface)∧(∀word c,vs=[(word,AY c)]→∃b b2,v=.iface 203 (.pointer (some ⟨b,0,none⟩))∧w'.heap[b]?=some (.cells #[.iface 206 (.pointer (some ⟨b2,0,none⟩)),.int .i64 0] 205)∧w'.heap[b2]?=some (.cells #[AY c,.string (Ap word)] 208))):=by
 have hb:=h.hb
 have hkl:=cS S.cop S.pre l
 have hks:=aE S.cop S.pre l
 apply UU
 intro K hK
 unfold Lh
 simp -dsimp (disch:=first|omega|(simp only[go_sem,seval];try omega))only[go_sem,seval,hb]
 refine OpX.call VI rfl (Calls.ret (VY hb l hl) ?_)
 rintro v w1 ⟨hko,hb1,hc1⟩
 generalize BX S.cop S.pre l=Q at *
 obtain⟨A1,T1⟩:=h.self hc1 hb1
 obtain⟨ak,ck,rfl,-,hks1,-,hkf⟩:=hko.form
 have hz1:=hc1.size
 simp -dsimp (disch:=first|omega|(simp only[go_sem,seval];try omega))only[go_sem,seval]
 obtain⟨S0,hS0⟩:∃S0:Ss,S0={ S with cop:=Q.cop,pre:=Q.pre }:=⟨_,rfl⟩
 have A1:SsAt base w1 s S0:=by rw[hS0];exact A1
 have T1:Trn (S.own s) (S0.own s) w w1:=by rw[hS0];exact T1
 have ok0:S0.ok lim:=by rw[hS0];exact⟨ok.w0,ok.w1,ok.h0,ok.h1,ok.win,ok.cur,ok.back0,ok.back1,ok.few,ok.dis0,ok.dis1⟩
 rw[←hS0] at hK
 refine Loop2.st (fun q:Nat × Option Addr × Nat × List (Option (TypeId × Value))=>.slice q.2.1 q.2.2.2.length q.2.2.1) (fun q=>.int .i64 (q.1:Int)) (fun q w'=>q.1≤Q.ks.length∧∃S1 vs,SsAt base w' s S1∧S1.ok (lim+q.1)∧Trn (S0.own s) (S1.own s) w1 w'∧KRun S0 (Q.ks.take q.1) S1 vs∧q.2.2.2.length=q.1 ∧
  Ox w1.heap.size w' 31 1 erF (.slice q.2.1 q.2.2.2.length q.2.2.1) q.2.2.2∧(∀b,some b=(Value.slice q.2.1 q.2.2.2.length q.2.2.1).ownBlock→¬S1.own s b)∧∀j p x,vs[j]?=some p→q.2.2.2[j]?=some x→EAt (S1.own s) w' j p x) (fun q=>Q.ks.length-q.1) (0,none,0,[]) rfl rfl
  ⟨Nat.zero_le _,S0,[],A1,by simpa using ok0,Trn.refl _ _,.nil,rfl,Ox.nil _ _ _ _ _,by simp [Value.ownBlock],by simp⟩ ?_
 rintro next ⟨i,a5,c5,xs⟩ wi hn ⟨hi,S1,vs,A,okS,T,run,hxl,ho,hno,hE⟩
 dsimp only at hi okS run hxl ho hno hE ⊢
 have hzi:=T.size
 simp -dsimp (disch:=first|omega|(simp only[go_sem,seval];try omega))only[go_sem,seval]
 refine BrW.dec (fun g=>?_) (fun g=>?_)
 ·have hi':i<Q.ks.length:=by omega
  have hx:Q.ks[i]?=some Q.ks[i]:=List.getElem?_eq_getElem hi'
  have hsm:=hks _ (List.getElem_mem hi')
  have ht:=Cm hi'
  have hsk:Sx wi (some 138) Ky.cells ak Q.ks:=by
   obtain⟨F,hc,hF⟩:=T.chg
   refine hks1.chg hc fun b o e hne hm=>?_
   obtain⟨g9,e9,h9,-⟩:=hkf hne
   rw[e9] at e
   cases e
   have hlt:S0.own s=S.own s:=by rw[hS0];rfl
   have h8:=hF _ hm
   rw[hlt] at h8
   have:=h.lt _ h8
   omega
  generalize Q.ks[i]=k at *
  have e1:(i:Int)+1=((i+1:Nat):Int):=by omega
  obtain⟨b,o,rfl,hbl,hcell⟩:=hsk.get Ky.len hx
  simp only[Ky.cells] at hcell
  simp -dsimp (disch:=first|omega|(simp only[go_sem,seval];try omega))only[go_sem,seval,hcell]
  have ha0:Chg [] wi (wi.alloc (.cells #[.int .i64 k.kind,.int .i64 k.n,.string (Ap k.s)] 138)):=by(repeat (first|exact Chg.refl _ _|apply Chg.drew|apply Chg.alloc|(refine Chg.set ?_ _ _ (by first|(left;simp;done)|(right;omega)))))
  generalize wi.alloc (.cells #[.int .i64 k.kind,.int .i64 k.n,.string (Ap k.s)] 138)=w2 at *
  have hz2:=ha0.size
  refine OpX.call TC rfl (Calls.ret (cq (A.chg0 ha0) okS (by omega) (by omega) k hsm) ?_)
  rintro v w3 ⟨word,v',rfl,S2,A3,ok3,T3,hv',hrel⟩
  have T03:Trn (S1.own s) (S2.own s) wi w3:=(Trn.of0 ha0 fun _ h=>.inl h).trans T3
  have hz3:=T3.size
  have run3:KRun S0 (Q.ks.take (i+1)) S2 (vs++[(word,v')]):=by rw[ht];exact .snoc run hrel
  have hvl:vs.length=i:=by rw[run.len,List.length_take];omega
  have ok3:S2.ok (lim+(i+1:Nat)):=ok3.mono (by omega)
  have ho3:Ox w1.heap.size w3 31 1 erF (.slice a5 xs.length c5) xs:=by
   obtain⟨F,hc,hF⟩:=T03.chg
   exact ho.chg hc fun b hb hm=>hno b hb (hF b hm)
  have hno3:∀b,some b=(Value.slice a5 xs.length c5).ownBlock→¬S2.own s b:=fun b hb h9=>(T03.grow b h9).elim (hno b hb) fun h9=>by
   obtain⟨-,-,-,-,-,hown,-⟩:=ho.form
   have:=(hown b hb).2
   omega
  have hE3:∀j p x,vs[j]?=some p→xs[j]?=some x→EAt (S2.own s) w3 j p x:=fun j p x hj hx=>(hE j p x hj hx).trn T03
  have hnext:∀(x:Option (TypeId × Value)) (w4:World),Chg [] w3 w4→EAt (S2.own s) w4 i (word,v') x→OpX Tryz.prog (.buildSlice 134 1 #[(0,.const (erV x))]) 134 (fun t33=>OpX Tryz.prog (.call { callee:=.builtin .append,args:=#[.const (.slice a5 xs.length c5),.const t33],argTypes:=#[134,134] }) 134 fun t34=>xO .add 3 (.int .i64 i) (.int .i64 1) fun t35=>next t34 t35) w4:=by
   intro x w4 hc4 hx4
   have hsl:∃w5,(OpX Tryz.prog (.buildSlice 134 1 #[(0,.const (erV x))]) 134 (fun t33=>OpX Tryz.prog (.call { callee:=.builtin .append,args:=#[.const (.slice a5 xs.length c5),.const t33],argTypes:=#[134,134] }) 134 fun t34=>xO .add 3 (.int .i64 i) (.int .i64 1) fun t35=>next t34 t35) w4=OpX Tryz.prog (.call { callee:=.builtin .append,args:=#[.const (.slice a5 xs.length c5),.const (.slice (some ⟨w4.heap.size,0,none⟩) 1 1)],argTypes:=#[134,134] }) 134 (fun t34=>xO .add 3 (.int .i64 i) (.int .i64 1) fun t35=>next t34 t35) w5)∧Chg [] w4 w5∧w5.heap[w4.heap.size]?=some (.cells #[erV x] 31):=by
    cases x with
    | none =>
     simp only[erV]
     refine⟨w4.alloc (.cells #[.nilIface] 31),?_,by(repeat (first|exact Chg.refl _ _|apply Chg.drew|apply Chg.alloc|(refine Chg.set ?_ _ _ (by first|(left;simp;done)|(right;omega))))),(by simp -dsimp (disch:=first|omega|(simp only[go_sem,seval];try omega))only[go_sem,seval])⟩
     simp -dsimp (disch:=first|omega|(simp only[go_sem,seval];try omega))only[go_sem,seval]
    | some p =>
     simp only[erV]
     refine⟨w4.alloc (.cells #[.iface p.1 p.2] 31),?_,by(repeat (first|exact Chg.refl _ _|apply Chg.drew|apply Chg.alloc|(refine Chg.set ?_ _ _ (by first|(left;simp;done)|(right;omega))))),(by simp -dsimp (disch:=first|omega|(simp only[go_sem,seval];try omega))only[go_sem,seval])⟩
     simp -dsimp (disch:=first|omega|(simp only[go_sem,seval];try omega))only[go_sem,seval]
   obtain⟨w5,e5,hc5,h5⟩:=hsl
   rw[e5]
   clear e5
   have hc35:=hc4.trans0 hc5
   have hz5:=hc35.size
   have hsa:Sx w5 (some 31) erF (some ⟨w4.heap.size,0,none⟩) [x]:=Sx.built (c:=erF x) h5 (by simp)
   refine Bv MA Pv KA (ho3.chg0 hc35) hsa rfl (by rw[List.length_singleton];omega) (by omega) (by omega) ?_
   intro v6 w6 ho6 hc6 hown6
   obtain⟨a6,c6,rfl,-⟩:=ho6.form
   simp -dsimp (disch:=first|omega|(simp only[go_sem,seval];try omega))only[go_sem,seval,e1]
   have hge6:∀x∈(Value.slice a5 xs.length c5).ownBlock.toList,w1.heap.size≤x:=(ho3.chg0 hc35).own_ge
   have hc36:Chg (Value.slice a5 xs.length c5).ownBlock.toList w3 w6:=(hc35.mono (by simp)).trans hc6 (fun x hx=>.inl hx)
   refine hn (i+1,a6,c6,xs++[x]) _ ⟨by dsimp only;omega,S2,vs++[(word,v')],A3.chg hc36 (fun x hx=>hno3 x (by simpa [eq_comm] using hx)),ok3,(T.trans T03).priv hc36 hge6,run3,by simp [hxl],ho6,?_,?_⟩ (by dsimp only;omega)
   ·intro b hb
    rcases hown6 with e|e
    ·exact hno3 b (by rw[←e];exact hb)
    ·have hb:some b=(Value.slice a6 (xs++[x]).length c6).ownBlock:=hb
     rw[e] at hb
     cases hb
     intro h9
     have:=A3.lt _ h9
     omega
   ·intro j p y hj hy
    dsimp only at hy
    rcases Nat.lt_trichotomy j i with h9|h9|h9
    ·rw[List.getElem?_append_left (by omega)] at hj
     rw[List.getElem?_append_left (by omega)] at hy
     exact((hE3 j p y hj hy).chg0 hc35).app (ho3.chg0 hc35) hc6
    ·subst h9
     rw[List.getElem?_append_right (by omega),hvl,Nat.sub_self] at hj
     rw[List.getElem?_append_right (by omega),hxl,Nat.sub_self] at hy
     simp only[List.getElem?_cons_zero,Option.some.injEq] at hj hy
     subst hj hy
     exact(hx4.chg0 hc5).app (ho3.chg0 hc35) hc6
    ·rw[List.getElem?_eq_none (by simp;omega)] at hj
     cases hj
  rcases hv' with rfl|⟨c,hc0,rfl⟩
  ·simp -dsimp (disch:=first|omega|(simp only[go_sem,seval];try omega))only[go_sem,seval]
   refine OpX.call KU rfl (Calls.ret (UZ w3 (Ap word)) ?_)
   rintro v w4 ⟨rfl,rfl⟩
   refine OpX.call K3 rfl (Calls.ret (T8 w4 i) ?_)
   rintro v w5 ⟨rfl,rfl⟩
   exact hnext none w5 (Chg.refl _ _) (.inl ⟨rfl,rfl⟩)
  ·simp -dsimp (disch:=first|omega|(simp only[go_sem,seval];try omega))only[go_sem,seval]
   refine OpX.call KU rfl (Calls.ret (Uh w3 _ _ (Ap word)) ?_)
   rintro v w4 ⟨rfl,h4,hc4⟩
   refine OpX.call K3 rfl (Calls.ret (Zc w4 _ _ i) ?_)
   rintro v w5 ⟨rfl,h5,hc5⟩
   have hlt:=A3.lt
   have hz4:=hc4.size
   exact hnext (some (_,_)) w5 (hc4.trans0 hc5) (.inr ⟨c,_,_,rfl,hc0,rfl,fun h=>by have:=hlt _ h;omega,fun h=>by have:=hlt _ h;omega,h5,hc5.keep h4 (by simp)⟩)
 ·have hil:i=Q.ks.length:=by omega
  subst hil
  rw[List.take_length] at run
  obtain⟨a9,c9,e9,-,hs3,-,-⟩:=ho.form
  simp only[Value.slice.injEq] at e9
  obtain⟨rfl,-,rfl⟩:=e9
  refine OpX.call cY rfl (Calls.ret (Z1 hs3 (by omega)) ?_)
  rintro v w2 ⟨hc2,hj⟩
  have hvl:=run.len
  refine hK _ _ ⟨S1,vs,A.chg0 hc2,okS.mono (by omega),(T1.trans T).chg0 hc2,run,fun hall=>?_,fun word c he=>?_⟩
  ·have hk0:Bs xs=[]:=by
    unfold Bs
    rw[List.filter_eq_nil_iff]
    intro x hx
    obtain⟨j,hj,e⟩:=List.mem_iff_getElem.1 hx
    have hjv:j<vs.length:=by omega
    rcases hE j vs[j] x (List.getElem?_eq_getElem hjv) (by rw[List.getElem?_eq_getElem hj,e]) with ⟨-,e2⟩|⟨c,b,b2,h1,-⟩
    ·rw[e2];simp
    ·rw[hall _ (List.getElem_mem hjv)] at h1;cases h1
   rw[hk0] at hj
   rcases hj with ⟨-,rfl⟩|⟨p,h9,-⟩|⟨h9,-⟩
   ·rfl
   ·cases h9
   ·simp at h9
  ·subst he
   simp only[List.length_singleton] at hvl
   obtain⟨x,rfl⟩:∃x,xs=[x]:=by
    cases xs with
    | nil=>simp at hxl;omega
    | cons x l =>
     cases l with
     | nil=>exact⟨x,rfl⟩
     | cons y l=>simp at hxl;omega
   rcases hE 0 (word,AY c) x rfl rfl with ⟨e2,-⟩|⟨c',b,b2,h1,h2,rfl,h4,h5,h6,h7⟩
   ·cases e2
   ·simp only[AY,Value.iface.injEq,Value.int.injEq,true_and] at h1
    subst h1
    rcases hj with ⟨h9,-⟩|⟨p,h9,rfl⟩|⟨h9,-⟩
    ·cases h9
    ·cases h9
     exact⟨b,b2,rfl,hc2.keep h6 (by simp),hc2.keep h7 (by simp)⟩
    ·simp [Bs] at h9
end
section
variable {base:Nat} {w w' w'':World} {s:Nat} {S:Ss} {lim:Int}
theorem WH (h:SsAt base w s S) (ok:S.ok lim) (hbase:base≤w.heap.size) (win pane:Int) (l:List UInt8) (hl:l.length≤2000):Calls Tryz.prog 28 #[.pointer (some ⟨s,0,none⟩),.int .i64 win,.int .i64 pane,.string (Ap l)] w
  (Ab fun v w'=>(v=AY 12∧w'=w∧∀W,S.get win=some W→pane∉W.pts.map (·.id))∨(v=.nilIface∧∃W p q b,S.get win=some W∧p∈W.pts∧p.id=pane∧q.ent=p.ent∧q.W=p.W∧q.H=p.H∧(q.M.S,q.T.kept,q.T.E)=({ (BJ (p.M.S,p.T.kept,p.T.E) [l]).1 with gone:=[] },(BJ (p.M.S,p.T.kept,p.T.E) [l]).2.1,(BJ (p.M.S,p.T.kept,p.T.E) [l]).2.2) ∧
   (S.back≤0→b=0)∧({ W with pts:=Bn W.pts q }:Wn).ok∧({ S with wins:=Bl S.wins { W with pts:=Bn W.pts q },back:=b }:Ss).ok (lim+1)∧SsAt base w' s { S with wins:=Bl S.wins { W with pts:=Bn W.pts q },back:=b }∧Trn (S.own s) (({ S with wins:=Bl S.wins { W with pts:=Bn W.pts q },back:=b }:Ss).own s) w w')):=by
 apply WU
 intro K hK
 unfold KE
 refine OpX.call Fz rfl (Calls.ret (E4 h win) ?_)
 rintro v w1 ⟨rfl,rfl⟩
 cases hg:S.get win with
 | none =>
  simp only[Cc,Option.map_none,Option.getD_none]
  refine OpX.call G4 rfl (Calls.ret (Xf w1 pane) ?_)
  rintro v w2 ⟨rfl,rfl⟩
  simp -dsimp (disch:=first|omega|(simp only[go_sem,seval];try omega))only[go_sem,seval]
  refine OpX.call Cd rfl (Calls.ret (Ca _ 12) ?_)
  rintro v w2 ⟨rfl,rfl⟩
  exact hK _ _ (.inl ⟨rfl,rfl,fun W h=>by rw[hg] at h;cases h⟩)
 | some W =>
  simp only[Cc,Option.map_some,Option.getD_some]
  obtain⟨hWm,hWn⟩:=Ss.get_mem hg
  have hA:=h.each W hWm
  obtain⟨wok,wR,wnew,wn⟩:=ok.win W hWm
  refine OpX.call G4 rfl (Calls.ret (IB hA pane) ?_)
  rintro v w2 ⟨rfl,rfl⟩
  cases hf:W.pts.find? fun p=>p.ent.1 == pane with
  | none =>
   simp only[Option.map_none,Option.getD_none]
   simp -dsimp (disch:=first|omega|(simp only[go_sem,seval];try omega))only[go_sem,seval]
   refine OpX.call Cd rfl (Calls.ret (Ca _ 12) ?_)
   rintro v w2 ⟨rfl,rfl⟩
   refine hK _ _ (.inl ⟨rfl,rfl,fun V hV=>?_⟩)
   rw[hg] at hV
   cases hV
   intro hm
   obtain⟨p,hp,e⟩:=List.mem_map.1 hm
   have:=List.find?_eq_none.1 hf p hp
   simp [Pt.ent] at this
   exact this e
  | some p =>
   simp only[Option.map_some,Option.getD_some]
   obtain⟨hp,hpi⟩:=IW hf
   have hP:=hA.each p hp
   simp -dsimp (disch:=first|omega|(simp only[go_sem,seval];try omega))only[go_sem,seval]
   refine OpX.gen fun w3 hw3=>?_
   have hc3:Chg [] w2 w3:=by rw[hw3];(repeat (first|exact Chg.refl _ _|apply Chg.drew|apply Chg.alloc|(refine Chg.set ?_ _ _ (by first|(left;simp;done)|(right;omega)))))
   have hsa:Sx w3 (some 9) bsF (some ⟨w2.heap.size,0,none⟩) [l]:=Sx.built (c:=bsF l) (by rw[hw3];simp only[bsF];simp -dsimp (disch:=first|omega|(simp only[go_sem,seval];try omega))only[go_sem,seval]) (by simp)
   clear hw3
   have hz3:=hc3.size
   have hP3:=hP.chg0 hc3
   have hlt:∀x∈p.t::p.T.s::p.M.blk,x<w2.heap.size:=by
    intro x hx
    simp only[List.mem_cons] at hx
    refine hP.lt x ?_
    rcases hx with rfl|rfl|hx
    ·exact .inl rfl
    ·exact .inr (.inl rfl)
    ·exact .inr (.inr (.inl hx))
   refine OpX.call VP rfl (Calls.ret (Vc hP3.1 (by omega) hsa (by simp;omega) (fun b o e hne hm=>by cases e;have:=hlt _ hm;omega) 1 (by simp)) ?_)
   rintro v w4 ⟨M',G',k,E,hT,hfed,hroom,hlist,hc4,hrows,hgrow⟩
   obtain⟨q,hq⟩:∃q:Pt,q={ p with T:={ p.T with kept:=k,E:=E },M:=M',G:=G' }:=⟨_,rfl⟩
   have hPq:BR base w4 q:=by rw[hq];exact⟨hT,hrows⟩
   have hqe:q.ent=p.ent:=by rw[hq];rfl
   have Tq:Trn p.own q.own w2 w4:=by
    refine Trn.of ((hc3.mono (by simp)).trans hc4 fun x hx=>.inl hx) (fun x hx=>?_) (fun x hx=>?_)
    ·simp only[List.cons_append,List.mem_cons,List.mem_append] at hx
     rcases hx with rfl|rfl|hx|rfl|hx
     ·exact .inl rfl
     ·exact .inr (.inl rfl)
     ·exact .inr (.inr (.inl hx))
     ·exact .inr (.inr (.inr (.inl rfl)))
     ·exact .inr (.inr (.inr (.inr (.inl hx))))
    ·rw[hq] at hx
     exact(hgrow x hx).imp id fun h=>by omega
   have hfq:(q.M.S,q.T.kept,q.T.E)=({ (BJ (p.M.S,p.T.kept,p.T.E) [l]).1 with gone:=[] },(BJ (p.M.S,p.T.kept,p.T.E) [l]).2.1,(BJ (p.M.S,p.T.kept,p.T.E) [l]).2.2):=by rw[hq];exact hfed
   have hqW:q.W=p.W:=by rw[hq]
   have hqH:q.H=p.H:=by rw[hq]
   clear hq
   obtain⟨A1,T1⟩:=hA.turn hp hqe Tq hPq hbase
   have wok1:({ W with pts:=Bn W.pts q }:Wn).ok:=⟨wok.lay,wok.act,by dsimp only;rw[Ic];exact wok.has,fun r hr x hx=>by
    rcases JA hr with rfl|⟨hr,-⟩
    ·rw[hqW,hqH]
     exact wok.size p hp x (by rw[show p.id=r.id from(congrArg Prod.fst hqe).symm];exact hx)
    ·exact wok.size r hr x hx⟩
   obtain⟨A2,T2⟩:=h.turn (V:={ W with pts:=Bn W.pts q }) hWm rfl rfl rfl T1 A1 hbase
   have ok2:=ok.put (V:={ W with pts:=Bn W.pts q }) hWm rfl wok1 rfl (by show W.L.newest≤_;omega)
   obtain⟨W2,hg2⟩:=Ss.get_cur ok2
   have hW2:=ok2.win W2 (Ss.get_mem hg2).1
   refine OpX.call Nw rfl (Calls.ret (OL A2 hg2 hW2.1 0 ok.back0 ok.back1 (by decide) (by decide)) ?_)
   rintro v w5 ⟨b,b0,b1,b2,A3,T3⟩
   have ok3:({ S with wins:=Bl S.wins { W with pts:=Bn W.pts q },back:=b }:Ss).ok (lim+1):=⟨ok2.w0,ok2.w1,ok2.h0,ok2.h1,ok2.win,ok2.cur,b0,b1,ok2.few,ok2.dis0,ok2.dis1⟩
   exact hK _ _ (.inr ⟨rfl,W,p,q,b,hg,hp,hpi,hqe,hqW,hqH,hfq,fun hb=>b2 (by show S.back+0≤0;omega),wok1,ok3,A3,T2.trans T3⟩)
end
theorem Jq {it m c:Nat} {l:AL} {w:World} (hit:w.heap[it]?=some (.mapIter (some m) c #[] c)) (hlt:∀x∈l,ebo x<c) (hnd:(l.map ebo).Nodup) (I:AL→World→Prop) (h0:I [] w)
  (hI:∀done w1 w2,I done w1→Chg [it] w1 w2→I done w2) (hM:∀done w1,I done w1→w1.heap[m]?=some (.map (Av .i64 l) c)) {B:Value→(World→Prop)→World→Prop} {E:World→Prop}
  (hE:∀done w1,(∀x,x∈l→ebo x∈done.map ebo)→I done w1→E w1)
  (hB:∀done y w1 (next:World→Prop),I done w1→y∈l→ebo y∉done.map ebo→(∀w2,I (done++[y]) w2→(∃G,Chg G w1 w2∧it∉G)→next w2)→B (.tuple #[.int .i64 y.1,y.2.1]) next w1) :
  Loop0 (fun next=>OpX Tryz.prog (.next (.const (.pointer (some ⟨it,0,none⟩))) false) 0 fun t24=>xE t24 0 4 fun t25=>xW t25 (OpX Tryz.prog (.entry (.const (.pointer (some ⟨it,0,none⟩)))) 0 fun t26=>B t26 next) E) w:=by
 have hborn:∀x∈(Av .i64 l).toList,x.born<c:=by
  intro x hx
  obtain⟨y,hy,rfl⟩:=Gx hx
  exact hlt y hy
 refine Loop0.st (fun(done:AL) w1=>(∀x∈done,x∈l)∧(done.map ebo).Nodup∧I done w1∧w1.heap[it]?=some (.mapIter (some m) c (done.map ebo).toArray c)) (fun done=>l.length-done.length) [] ⟨by simp,by simp,h0,hit⟩ ?_
 rintro next done w1 hn ⟨hd,hdn,hi,hit⟩
 have hm1:=hM _ _ hi
 refine MN hit hm1 hborn (fun hover=>?_) (fun e he hne w2 hw2=>?_)
 ·simp -dsimp (disch:=first|omega|(simp only[go_sem,seval];try omega))only[go_sem,seval]
  refine hE done w1 (fun x hx=>?_) hi
  have:=hover ⟨.int .i64 x.1,x.2.1,x.2.2⟩ (by simp only[Av,List.mem_map];exact⟨x,hx,rfl⟩)
  simpa [ebo] using this
 ·obtain⟨y,hyl,rfl⟩:=Gx he
  have hnd':ebo y∉done.map ebo:=by simpa [ebo] using hne
  have hit2:w2.heap[it]?=some (.mapIter (some m) c (done.map ebo).toArray c):=by rcases hw2 with rfl|rfl<;>exact hit
  have hc2:Chg [] w1 w2:=by rcases hw2 with rfl|rfl;exact Chg.refl _ _;exact(Chg.refl _ _).drew
  have hl2:=Aa hit2
  have hc3:Chg [it] w1 (Ac w2 it (.mapIter (some m) c ((done.map ebo).toArray.push y.2.2) c)):=(hc2.mono (by simp)).set _ _ (by simp)
  have hi3:=hI _ _ _ hi hc3
  have hit3:(Ac w2 it (.mapIter (some m) c ((done.map ebo).toArray.push y.2.2) c)).heap[it]?=some (.mapIter (some m) c ((done.map ebo).toArray.push y.2.2) c):=As _ _ _ _ rfl hl2
  generalize Ac w2 _ _=w3 at hc3 hi3 hit3 ⊢
  have hm3:=hM _ _ hi3
  simp -dsimp (disch:=first|omega|(simp only[go_sem,seval];try omega))only[go_sem,seval]
  rw[JT (e:=⟨.int .i64 y.1,y.2.1,y.2.2⟩) hit3 hm3 he (by rw[Nn];exact hnd)]
  have hdl:done.length<l.length:=by
   have h1:(done.map ebo++[ebo y]).Nodup:=by
    rw[List.nodup_append]
    exact⟨hdn,by simp,by intro a ha b hb;simp at hb;subst hb;rintro rfl;exact hnd' ha⟩
   have h2:=List.Nodup.length_le_of_subset h1 (l₂:=l.map ebo) (by
    intro a ha
    rcases List.mem_append.1 ha with ha|ha
    ·obtain⟨z,hz,rfl⟩:=List.mem_map.1 ha
     exact List.mem_map.2 ⟨z,hd z hz,rfl⟩
    ·simp at ha;subst ha;exact List.mem_map.2 ⟨y,hyl,rfl⟩)
   simp at h2;omega
  refine hB done y w3 next hi3 hyl hnd' fun w4 hi4 hc4=>?_
  obtain⟨G,hc4,hG⟩:=hc4
  have hit4:=hc4.keep hit3 hG
  refine hn (done++[y]) _ ⟨?_,?_,hi4,?_⟩ (by simp;omega)
  ·intro x hx
   rcases List.mem_append.1 hx with hx|hx
   ·exact hd x hx
   ·simp at hx;subst hx;exact hyl
  ·rw[List.map_append,List.nodup_append]
   exact⟨hdn,by simp,by intro a ha b hb;simp at hb;subst hb;rintro rfl;exact hnd' ha⟩
  ·rw[hit4];simp [ebo]
def ro (φ:Nat→Rc) (W:Wn):Wn:={ W with L:={ W.L with R:=φ W.born } }
def upd (φ:Nat→Rc) (b:Nat) (R:Rc):Nat→Rc:=fun x=>if x=b then R else φ x
def Ss.ro (S:Ss) (φ:Nat→Rc):Ss:={ S with wins:=S.wins.map (Go.Proofs.YtelplojmbjnplaaGreat.ro φ) }
section
variable {base:Nat} {w w' w'':World} {s:Nat} {S:Ss} {lim:Int}
theorem Ff (φ:Nat→Rc):∀l:List Wn,(l.map (ro φ)).map Wn.ent=l.map Wn.ent:=fun l=>by rw[List.map_map];rfl
theorem HM {φ:Nat→Rc}:∀{l:List Wn},(∀W∈l,W.L.R=φ W.born)→l.map (ro φ)=l
 | [],_=>rfl
 | W::l,h=>by
  have h1:=h W (by simp)
  rw[List.map_cons,HM (fun V hV=>h V (by simp [hV]))]
  unfold ro
  rw[←h1]
theorem Ss.ro_own (S:Ss) (φ:Nat→Rc) (s:Nat):(S.ro φ).own s=S.own s:=by
 funext x
 refine propext ⟨?_,?_⟩
 ·rintro(h|h|h|⟨W,hW,h⟩)
  ·exact .inl h
  ·exact .inr (.inl h)
  ·exact .inr (.inr (.inl h))
  ·obtain⟨V,hV,rfl⟩:=List.mem_map.1 hW
   exact .inr (.inr (.inr ⟨V,hV,h⟩))
 ·rintro(h|h|h|⟨W,hW,h⟩)
  ·exact .inl h
  ·exact .inr (.inl h)
  ·exact .inr (.inr (.inl h))
  ·exact .inr (.inr (.inr ⟨Go.Proofs.YtelplojmbjnplaaGreat.ro φ W,List.mem_map.2 ⟨W,hW,rfl⟩,h⟩))
theorem SsAt.ro1 {φ:Nat→Rc} {R:Rc} {W:Wn} (h:SsAt base w s (S.ro φ)) (hids:(S.wins.map (·.n)).Nodup) (hbnd:(S.wins.map (·.born)).Nodup) (hW:W∈S.wins) (hc:Chg [W.lb] w w') (hL:LAt w' W.lb { W.L with R:=R }) (hbase:base≤w.heap.size) :
  SsAt base w' s (S.ro (upd φ W.born R))∧Trn (S.own s) (S.own s) w w':=by
 have hWm:ro φ W∈(S.ro φ).wins:=List.mem_map.2 ⟨W,hW,rfl⟩
 have hA:=h.each _ hWm
 have hne:=hA.ne
 obtain⟨A1,T1⟩:=hA.laid (L:={ W.L with R:=R }) (act:=W.active) hc (fun x hx=>by simp at hx;subst hx;exact .inr (.inl rfl)) hL (hc.keep hA.hb (by simp;exact hne.1)) (fun x hx=>.inl hx) hbase
 obtain⟨A2,T2⟩:=h.turn hWm (V:={ W with L:={ W.L with R:=R } }) rfl rfl rfl T1 A1 hbase
 have e:Bl (S.wins.map (ro φ)) { W with L:={ W.L with R:=R } }=S.wins.map (ro (upd φ W.born R)):=by
  unfold Bl
  rw[List.map_map]
  apply List.map_congr_left
  intro V hV
  simp only[Function.comp,ro,upd]
  by_cases hb:V.born=W.born
  ·have:=Dj hbnd hV hW hb
   subst this
   simp
  ·have hn:V.n≠W.n:=fun e=>hb (by rw[Dj hids hV hW e])
   exact(if_neg hn).trans (by rw[if_neg hb])
 have e2:({ S.ro φ with wins:=Bl (S.ro φ).wins { W with L:={ W.L with R:=R } } }:Ss)=S.ro (upd φ W.born R):=by
  unfold Ss.ro
  dsimp only
  rw[e]
 rw[e2] at A2 T2
 rw[Ss.ro_own,Ss.ro_own] at T2
 exact⟨A2,T2⟩
theorem OZ (w:World) (x y:Int):Calls Tryz.prog 23 #[.int .i64 x,.int .i64 y] w (Ab fun v w'=>v=.bool (decide (1≤x∧x≤200∧2≤y∧y≤60))∧w'=w):=by
 apply UB
 intro K hK
 unfold MT
 refine Join1.cut (fun v w'=>v=.bool (decide (1≤x∧x≤200∧2≤y∧y≤60))∧w'=w) ?_ (fun v w' h=>hK _ _ h)
 simp -dsimp (disch:=first|omega|(simp only[go_sem,seval];try omega))only[go_sem,seval]
 refine BrW.dec (fun g1=>?_) (fun g1=>⟨congrArg Value.bool (decide_eq_false (by omega)).symm,rfl⟩)
 simp -dsimp (disch:=first|omega|(simp only[go_sem,seval];try omega))only[go_sem,seval]
 refine BrW.dec (fun g2=>?_) (fun g2=>⟨congrArg Value.bool (decide_eq_false (by omega)).symm,rfl⟩)
 simp -dsimp (disch:=first|omega|(simp only[go_sem,seval];try omega))only[go_sem,seval]
 refine BrW.dec (fun g3=>?_) (fun g3=>⟨congrArg Value.bool (decide_eq_false (by omega)).symm,rfl⟩)
 simp -dsimp (disch:=first|omega|(simp only[go_sem,seval];try omega))only[go_sem,seval]
 exact congrArg Value.bool (decide_eq_decide.2 ⟨fun h=>by omega,fun h=>by omega⟩)
theorem Y7 (h:SsAt base w s S) (ok:S.ok lim) (hbase:base≤w.heap.size) (x y:Int):Calls Tryz.prog 29 #[.pointer (some ⟨s,0,none⟩),.int .i64 x,.int .i64 y] w
  (Ab fun v w'=>(¬(1≤x∧x≤200∧2≤y∧y≤60)∧v=AY 1∧w'=w)∨(1≤x∧x≤200∧2≤y∧y≤60∧(
   (v=AY 19∧SsAt base w' s S∧Trn (S.own s) (S.own s) w w') ∨
   (v=.nilIface∧∃wl,SsAt base w' s { S with w:=x,h:=y,wins:=wl }∧({ S with w:=x,h:=y,wins:=wl }:Ss).ok lim∧Trn (S.own s) (({ S with w:=x,h:=y,wins:=wl }:Ss).own s) w w'∧wl.map (·.n)=S.wins.map (·.n)∧∀V∈wl,∃W∈S.wins,V.n=W.n∧V.L.root=W.L.root∧V.active=W.active)))):=by
 apply Vj
 intro K hK
 unfold Oh
 refine OpX.call O9 rfl (Calls.ret (OZ w x y) ?_)
 rintro v w1 ⟨rfl,rfl⟩
 by_cases hmay:1≤x∧x≤200∧2≤y∧y≤60
 ·rw[decide_eq_true hmay]
  obtain⟨x1,x2,y1,y2⟩:=hmay
  have hb:=h.hb
  have hm:=h.hm
  have hltS:=h.lt
  simp -dsimp (disch:=first|omega|(simp only[go_sem,seval];try omega))only[go_sem,seval,hb]
  rw[Hp G1.1 hm]
  have hca:Chg [] w1 (w1.alloc (.mapIter (some S.m) S.mc #[] S.mc)):=Ay _ _
  have hit:(w1.alloc (.mapIter (some S.m) S.mc #[] S.mc)).heap[w1.heap.size]?=some (.mapIter (some S.m) S.mc #[] S.mc):=Lyc.heap_alloc_new _ _ _ rfl
  have hltb:∀z∈S.wins.map Wn.ent,ebo z<S.mc:=by
   intro z hz
   obtain⟨W,hW,rfl⟩:=List.mem_map.1 hz
   exact h.born W hW
  have hebo:(S.wins.map Wn.ent).map ebo=S.wins.map (·.born):=by rw[List.map_map];rfl
  have hndb:((S.wins.map Wn.ent).map ebo).Nodup:=by rw[hebo];exact h.bnd
  generalize w1.alloc (.mapIter (some S.m) S.mc #[] S.mc)=wa at hca hit ⊢
  have hza:=hca.size
  obtain⟨it,hite⟩:∃it,it=w1.heap.size:=⟨_,rfl⟩
  rw[←hite] at hit ⊢
  have hito:¬S.own s it:=fun h9=>by have:=hltS _ h9;omega
  have hR0:∀W∈S.wins,W.L.R=⟨0,0,S.w,S.h-1⟩:=fun W hW=>(ok.win W hW).2.1
  have hR1:(⟨0,0,x,y-1⟩:Rc).ok:=⟨Int.le_refl _,Int.le_refl _,x1,by dsimp only;omega,by dsimp only;omega,by dsimp only;omega⟩
  have h0:SsAt base wa s (S.ro fun _=>⟨0,0,S.w,S.h-1⟩):=by
   unfold Ss.ro
   rw[HM hR0]
   exact h.chg0 hca
  refine Jq hit hltb hndb (fun done w'=>∃φ,SsAt base w' s (S.ro φ)∧Trn (S.own s) (S.own s) w1 w'∧(∀W∈S.wins,W.born∈done.map ebo→φ W.born=⟨0,0,x,y-1⟩)∧∀W∈S.wins,W.L.root.fits (φ W.born)=true∧(φ W.born).ok)
   ⟨_,h0,Trn.of0 hca (fun _ h=>.inl h),by simp,fun W hW=>let ⟨a,b,c,d⟩:=ok.win W hW;⟨by rw[←b];exact a.lay.fits,by rw[←b];exact a.lay.R⟩⟩ ?_ ?_ ?_ ?_
  ·rintro done wi wj ⟨φ,A,T,f1,f2⟩ hc
   exact⟨φ,A.chg hc (fun z hz=>by simp at hz;subst hz;rw[Ss.ro_own];exact hito),T.priv hc (by simp;omega),f1,f2⟩
  ·rintro done wi ⟨φ,A,T,f1,f2⟩
   have:=A.hm
   rw[show(S.ro φ).wins=S.wins.map (ro φ) from rfl,Ff] at this
   exact this
  ·rintro done wi hall ⟨φ,A,T,f1,f2⟩
   have hzi:=T.size
   have hbi:=A.hb
   have lbi:=Aa hbi
   have hall1:∀W∈S.wins,φ W.born=⟨0,0,x,y-1⟩:=fun W hW=>f1 W hW (hall W.ent (List.mem_map.2 ⟨W,hW,rfl⟩))
   dsimp only[Ss.ro] at hbi
   simp -dsimp (disch:=first|omega|(simp only[go_sem,seval];try omega))only[go_sem,seval,hbi]
   refine DS (F:=OpX _ _ _ _) fun wj hwj=>?_
   have hcj:Chg [s] wi wj:=by rw[hwj];exact(Chg.refl _ _).set _ _ (by simp)
   have hbj:wj.heap[s]?=some (.cells #[.int .i64 x,.int .i64 y,.int .i64 S.room,.map (some S.m),.int .i64 S.cur,.bool S.cop,.bool S.pre,.int .i64 S.back,S.tv,.int .i64 S.dis] 81):=by rw[hwj];exact As _ _ _ _ rfl lbi
   clear hwj
   obtain⟨A2,T2⟩:=A.self hcj hbj
   have T12:Trn (S.own s) (({ S with w:=x,h:=y,wins:=S.wins.map (ro φ) }:Ss).own s) w1 wj:=(show Trn (S.own s) ((S.ro φ).own s) w1 wi by rw[Ss.ro_own];exact T).trans T2
   have A2:SsAt base wj s { S with w:=x,h:=y,wins:=S.wins.map (ro φ) }:=A2
   have hm2:=A2.hm
   dsimp only at hm2
   rw[Ff] at hm2
   have hzj:=T12.size
   rw[Hp G1.1 hm2]
   have hcb:Chg [] wj (wj.alloc (.mapIter (some S.m) S.mc #[] S.mc)):=Ay _ _
   have hit2:(wj.alloc (.mapIter (some S.m) S.mc #[] S.mc)).heap[wj.heap.size]?=some (.mapIter (some S.m) S.mc #[] S.mc):=Lyc.heap_alloc_new _ _ _ rfl
   generalize wj.alloc (.mapIter (some S.m) S.mc #[] S.mc)=wb at hcb hit2 ⊢
   have hzb:=hcb.size
   obtain⟨it2,hite2⟩:∃it2,it2=wj.heap.size:=⟨_,rfl⟩
   rw[←hite2] at hit2 ⊢
   refine Jq hit2 hltb hndb (fun done w'=>∃wl,SsAt base w' s { S with w:=x,h:=y,wins:=wl }∧¬(({ S with w:=x,h:=y,wins:=wl }:Ss).own s it2)∧it2<w'.heap.size∧Trn (S.own s) (({ S with w:=x,h:=y,wins:=wl }:Ss).own s) w1 w'∧wl.map Wn.ent=S.wins.map Wn.ent ∧
    ∀V∈wl,∃W∈S.wins,V.n=W.n∧V.L.root=W.L.root∧V.active=W.active∧V.L.newest=W.L.newest∧V.L.R=⟨0,0,x,y-1⟩∧V.L.ok∧(∀i,i∈V.pts.map (·.id)↔i∈V.L.root.ids)∧(V.born∈done.map ebo→V.ok))
    ⟨S.wins.map (ro φ),A2.chg0 hcb,fun h9=>by have:=A2.lt _ h9;omega,Aa hit2,T12.chg0 hcb,Ff _ _,fun V hV=>?_⟩ ?_ ?_ ?_ ?_
   ·obtain⟨W,hW,rfl⟩:=List.mem_map.1 hV
    obtain⟨a,b,c,d⟩:=ok.win W hW
    obtain⟨e1,e2⟩:=f2 W hW
    exact⟨W,hW,rfl,rfl,rfl,rfl,hall1 W hW,⟨a.lay.ok,e2,e1,a.lay.nd,a.lay.new,a.lay.few⟩,a.has,fun h9=>by simp at h9⟩
   ·rintro done wi2 wj2 ⟨wl,B1,B2,B2',B3,B4,B5⟩ hc
    exact⟨wl,B1.chg hc (fun z hz=>by simp at hz;subst hz;exact B2),B2,by have:=hc.size;omega,B3.priv hc (by simp;omega),B4,B5⟩
   ·rintro done wi2 ⟨wl,B1,B2,B2',B3,B4,B5⟩
    have:=B1.hm
    dsimp only at this
    rw[B4] at this
    exact this
   ·rintro done2 wi2 hall2 ⟨wl,B1,B2,B2',B3,B4,B5⟩
    have hn:wl.map (·.n)=S.wins.map (·.n):=by
     have:=congrArg (List.map (·.1)) B4
     simpa [Wn.ent,Function.comp_def] using this
    refine hK _ _ (.inr ⟨x1,x2,y1,y2,.inr ⟨rfl,wl,B1,⟨x1,x2,y1,y2,fun V hV=>?_,by rw[hn];exact ok.cur,ok.back0,ok.back1,ok.few,ok.dis0,ok.dis1⟩,B3,hn,fun V hV=>?_⟩⟩)
    ·obtain⟨W,hW,e1,e2,e3,e4,e5,e6,e7,e8⟩:=B5 V hV
     obtain⟨a,b,c,d⟩:=ok.win W hW
     exact⟨e8 (hall2 V.ent (by rw[←B4];exact List.mem_map.2 ⟨V,hV,rfl⟩)),e5,by rw[e4];exact c,by rw[e1];exact d⟩
    ·obtain⟨W,hW,e1,e2,e3,-⟩:=B5 V hV
     exact⟨W,hW,e1,e2,e3⟩
   ·rintro done2 z wi2 next2 ⟨wl,B1,B2,B2',B3,B4,B5⟩ hz hznew hnext
    rw[←B4] at hz
    obtain⟨V,hV,rfl⟩:=List.mem_map.1 hz
    obtain⟨W,hW,e1,e2,e3,e4,e5,e6,e7,e8⟩:=B5 V hV
    have hAV:=B1.each V hV
    have hz3:=B3.size
    dsimp only[Wn.ent]
    simp -dsimp (disch:=first|omega|(simp only[go_sem,seval];try omega))only[go_sem,seval]
    refine OpX.call Fc rfl (Calls.ret (Fu hAV e6 (fun i hi=>(e7 i).1 hi) (by omega)) ?_)
    rintro v wi3 ⟨pts,tc,C1,C2,C3,C4⟩
    have hact:V.active∈V.L.root.ids:=by rw[e2,e3];exact(ok.win W hW).1.act
    obtain⟨D1,D2⟩:=B1.turn (V:={ V with pts:=pts,tc:=tc }) hV rfl rfl rfl C4 C1 (by omega)
    have D2:Trn (({ S with w:=x,h:=y,wins:=wl }:Ss).own s) (({ S with w:=x,h:=y,wins:=Bl wl { V with pts:=pts,tc:=tc } }:Ss).own s) wi2 wi3:=D2
    refine hnext _ ⟨Bl wl { V with pts:=pts,tc:=tc },D1,fun h9=>(D2.grow _ h9).elim B2 fun h9=>by omega,by have:=D2.size;omega,B3.trans D2,by exact(HY Wn.ent (V:={ V with pts:=pts,tc:=tc }) hV B1.ids rfl rfl).trans B4,fun U hU=>?_⟩ ?_
    ·rcases Ep hU with rfl|⟨hU,hne⟩
     ·exact⟨W,hW,e1,e2,e3,e4,e5,e6,C2,fun _=>⟨e6,hact,C2,C3⟩⟩
     ·obtain⟨W',hW',g1,g2,g3,g4,g5,g6,g7,g8⟩:=B5 U hU
      refine⟨W',hW',g1,g2,g3,g4,g5,g6,g7,fun h9=>g8 ?_⟩
      rw[List.map_append,List.mem_append] at h9
      rcases h9 with h9|h9
      ·exact h9
      ·simp [ebo,Wn.ent] at h9
       exact absurd (by rw[Dj B1.bnd hU hV h9]) hne
    ·obtain⟨F,hc,hF⟩:=D2.chg
     exact⟨F,hc,fun h9=>B2 (hF _ h9)⟩
  ·rintro done z wi next ⟨φ,A,T,f1,f2⟩ hz hznew hnext
   obtain⟨W,hW,rfl⟩:=List.mem_map.1 hz
   have hzi:=T.size
   obtain⟨wok,wR,wnew,wn⟩:=ok.win W hW
   have hAW:=A.each (ro φ W) (List.mem_map.2 ⟨W,hW,rfl⟩)
   have hWb:=hAW.hb
   obtain⟨e1,e2⟩:=f2 W hW
   dsimp only[ro] at hWb
   dsimp only[Wn.ent]
   simp -dsimp (disch:=first|omega|(simp only[go_sem,seval];try omega))only[go_sem,seval,hWb]
   refine OpX.call Nv rfl (Calls.ret (Qm (L:={ W.L with R:=φ W.born }) hAW.lay ⟨wok.lay.ok,e2,e1,wok.lay.nd,wok.lay.new,wok.lay.few⟩ x (y-1) x1 x2 (by omega) (by omega)) ?_)
   rintro v wj (⟨hf,rfl,hL,hc⟩|⟨hf,rfl,hc⟩)
   ·simp -dsimp (disch:=first|omega|(simp only[go_sem,seval];try omega))only[go_sem,seval]
    obtain⟨A2,T2⟩:=A.ro1 h.ids h.bnd hW hc hL (by omega)
    refine hnext _ ⟨_,A2,T.trans T2,fun V hV hb=>?_,fun V hV=>?_⟩ ?_
    ·unfold upd
     split
     ·rfl
     ·rename_i hne
      refine f1 V hV ?_
      rw[List.map_append,List.mem_append] at hb
      rcases hb with hb|hb
      ·exact hb
      ·simp [ebo,Wn.ent] at hb;exact absurd hb hne
    ·unfold upd
     split
     ·rename_i he
      rw[Dj h.bnd hV hW he]
      exact⟨hf,hR1⟩
     ·exact f2 V hV
    ·obtain⟨F,hc9,hF⟩:=T2.chg
     exact⟨F,hc9,fun h9=>hito (hF _ h9)⟩
   ·unfold AY
    have A2:=A.chg0 hc
    have T2:=T.chg0 hc
    have hbj:=A2.hb
    have hmj:=A2.hm
    dsimp only[Ss.ro] at hbj hmj
    rw[Ff] at hmj
    simp -dsimp (disch:=first|omega|(simp only[go_sem,seval];try omega))only[go_sem,seval,hbj]
    rw[Hp G1.1 hmj]
    have hcb:Chg [] wj (wj.alloc (.mapIter (some S.m) S.mc #[] S.mc)):=Ay _ _
    have hit2:(wj.alloc (.mapIter (some S.m) S.mc #[] S.mc)).heap[wj.heap.size]?=some (.mapIter (some S.m) S.mc #[] S.mc):=Lyc.heap_alloc_new _ _ _ rfl
    have hltj:=A2.lt
    rw[Ss.ro_own] at hltj
    generalize wj.alloc (.mapIter (some S.m) S.mc #[] S.mc)=wb at hcb hit2 ⊢
    have hzb:=hcb.size
    have hzj:=T2.size
    obtain⟨it2,hite2⟩:∃it2,it2=wj.heap.size:=⟨_,rfl⟩
    rw[←hite2] at hit2 ⊢
    have hito2:¬S.own s it2:=fun h9=>by have:=hltj _ h9;omega
    refine Jq hit2 hltb hndb (fun done w'=>∃φ,SsAt base w' s (S.ro φ)∧Trn (S.own s) (S.own s) w1 w'∧(∀W∈S.wins,W.born∈done.map ebo→φ W.born=⟨0,0,S.w,S.h-1⟩)∧∀W∈S.wins,W.L.root.fits (φ W.born)=true∧(φ W.born).ok)
     ⟨φ,A2.chg0 hcb,T2.chg0 hcb,by simp,f2⟩ ?_ ?_ ?_ ?_
    ·rintro done2 wi2 wj2 ⟨ψ,B1,B2,g1,g2⟩ hc9
     exact⟨ψ,B1.chg hc9 (fun z hz=>by simp at hz;subst hz;rw[Ss.ro_own];exact hito2),B2.priv hc9 (by simp;omega),g1,g2⟩
    ·rintro done2 wi2 ⟨ψ,B1,B2,g1,g2⟩
     have:=B1.hm
     rw[show(S.ro ψ).wins=S.wins.map (ro ψ) from rfl,Ff] at this
     exact this
    ·rintro done2 wi2 hall ⟨ψ,B1,B2,g1,g2⟩
     refine OpX.call Cd rfl (Calls.ret (Ca _ 19) ?_)
     rintro v w9 ⟨rfl,rfl⟩
     have eS:S.ro ψ=S:=by
      unfold Ss.ro
      rw[HM fun V hV=>by rw[hR0 V hV,g1 V hV (hall V.ent (List.mem_map.2 ⟨V,hV,rfl⟩))]]
     rw[eS] at B1
     exact hK _ _ (.inr ⟨x1,x2,y1,y2,.inl ⟨rfl,B1,B2⟩⟩)
    ·rintro done2 z2 wi2 next2 ⟨ψ,B1,B2,g1,g2⟩ hz2 hznew2 hnext2
     obtain⟨V,hV,rfl⟩:=List.mem_map.1 hz2
     obtain⟨vok,vR,vnew,vn⟩:=ok.win V hV
     have hz9:=B2.size
     have hAV:=B1.each (ro ψ V) (List.mem_map.2 ⟨V,hV,rfl⟩)
     have hVb:=hAV.hb
     have hSb:=B1.hb
     obtain⟨k1,k2⟩:=g2 V hV
     have q0:=ok.w0
     have q1:=ok.w1
     have q2:=ok.h0
     have q3:=ok.h1
     dsimp only[ro] at hVb
     dsimp only[Ss.ro] at hSb
     dsimp only[Wn.ent]
     simp -dsimp (disch:=first|omega|(simp only[go_sem,seval];try omega))only[go_sem,seval,hVb,hSb]
     have hcd:Chg [] wi2 wi2.drew:=(Chg.refl _ _).drew
     refine OpX.call Nv rfl (Calls.ret (Qm (L:={ V.L with R:=ψ V.born }) (hAV.lay.chg0 hcd) ⟨vok.lay.ok,k2,k1,vok.lay.nd,vok.lay.new,vok.lay.few⟩ S.w (S.h-1) q0 q1 (by omega) (by omega)) ?_)
     rintro v wj2 (⟨hf2,rfl,hL2,hc2⟩|⟨hf2,rfl,hc2⟩)
     ·obtain⟨C1,C2⟩:=(B1.chg0 hcd).ro1 h.ids h.bnd hV hc2 hL2 (by show base≤wi2.heap.size;omega)
      have C2:Trn (S.own s) (S.own s) wi2 wj2:=(Trn.of0 hcd fun _ h=>.inl h).trans C2
      refine hnext2 _ ⟨_,C1,B2.trans C2,fun U hU hb=>?_,fun U hU=>?_⟩ ?_
      ·unfold upd
       split
       ·rfl
       ·rename_i hne
        refine g1 U hU ?_
        rw[List.map_append,List.mem_append] at hb
        rcases hb with hb|hb
        ·exact hb
        ·simp [ebo,Wn.ent] at hb;exact absurd hb hne
      ·unfold upd
       split
       ·rename_i he
        rw[Dj h.bnd hU hV he]
        exact⟨by rw[←vR];exact vok.lay.fits,by rw[←vR];exact vok.lay.R⟩
       ·exact g2 U hU
      ·obtain⟨F,hc9,hF⟩:=C2.chg
       exact⟨F,hc9,fun h9=>hito2 (hF _ h9)⟩
     ·have:=vok.lay.fits
      rw[vR,hf2] at this
      cases this
 ·rw[decide_eq_false hmay]
  simp -dsimp (disch:=first|omega|(simp only[go_sem,seval];try omega))only[go_sem,seval]
  refine OpX.call Cd rfl (Calls.ret (Ca _ 1) ?_)
  rintro v w2 ⟨rfl,rfl⟩
  exact hK _ _ (.inl ⟨hmay,rfl,rfl⟩)
end
structure Ev where
 kind:Int
 win:Int
 pane:Int
 s:List UInt8
 w:Int
 h:Int
def Ev.val (e:Ev):Value:=.agg #[.int .i64 e.kind,.int .i64 e.win,.int .i64 e.pane,.string (Ap e.s),.int .i64 e.w,.int .i64 e.h]
inductive DRel (S:Ss) (e:Ev) (S':Ss) (v:Value) (w':World):Prop
 | long:2000<e.s.length→v=AY 16→S'=S→DRel S e S' v w'
 | keys (vs:List (List UInt8 × Value)):e.s.length≤2000→e.kind=1→KRun { S with cop:=(BX S.cop S.pre e.s).cop,pre:=(BX S.cop S.pre e.s).pre } (BX S.cop S.pre e.s).ks S' vs→((∀p∈vs,p.2=.nilIface)→v=.nilIface) →
   (∀word c,vs=[(word,AY c)]→∃b b2,v=.iface 203 (.pointer (some ⟨b,0,none⟩))∧w'.heap[b]?=some (.cells #[.iface 206 (.pointer (some ⟨b2,0,none⟩)),.int .i64 0] 205)∧w'.heap[b2]?=some (.cells #[AY c,.string (Ap word)] 208))→DRel S e S' v w'
 | outN:e.s.length≤2000→e.kind=2→v=AY 12→S'=S→(∀W,S.get e.win=some W→e.pane∉W.pts.map (·.id))→DRel S e S' v w'
 | outY (W:Wn) (p q:Pt) (b:Int):e.s.length≤2000→e.kind=2→v=.nilIface→S.get e.win=some W→p∈W.pts→p.id=e.pane→q.ent=p.ent→q.W=p.W→q.H=p.H →
   (q.M.S,q.T.kept,q.T.E)=({ (BJ (p.M.S,p.T.kept,p.T.E) [e.s]).1 with gone:=[] },(BJ (p.M.S,p.T.kept,p.T.E) [e.s]).2.1,(BJ (p.M.S,p.T.kept,p.T.E) [e.s]).2.2)→(S.back≤0→b=0)→S'={ S with wins:=Bl S.wins { W with pts:=Bn W.pts q },back:=b }→DRel S e S' v w'
 | sizeA:e.s.length≤2000→e.kind=3→¬(1≤e.w∧e.w≤200∧2≤e.h∧e.h≤60)→v=AY 1→S'=S→DRel S e S' v w'
 | sizeN:e.s.length≤2000→e.kind=3→(1≤e.w∧e.w≤200∧2≤e.h∧e.h≤60)→v=AY 19→S'=S→DRel S e S' v w'
 | sizeY (wl:List Wn):e.s.length≤2000→e.kind=3→(1≤e.w∧e.w≤200∧2≤e.h∧e.h≤60)→v=.nilIface→S'={ S with w:=e.w,h:=e.h,wins:=wl }→wl.map (·.n)=S.wins.map (·.n)→(∀V∈wl,∃W∈S.wins,V.n=W.n∧V.L.root=W.L.root∧V.active=W.active)→DRel S e S' v w'
 | kind:e.s.length≤2000→e.kind≠1→e.kind≠2→e.kind≠3→v=AY 18→S'=S→DRel S e S' v w'
section
variable {base:Nat} {w w' w'':World} {s:Nat} {S:Ss} {lim:Int}
theorem L0 (h:SsAt base w s S) (ok:S.ok lim) (hbase:base≤w.heap.size) (hlim:lim≤800000000000000) (e:Ev):Calls Tryz.prog 9 #[.pointer (some ⟨s,0,none⟩),e.val] w
  (Ab fun v w'=>∃S',SsAt base w' s S'∧S'.ok (lim+5000)∧Trn (S.own s) (S'.own s) w w'∧DRel S e S' v w'):=by
 obtain⟨W,hg⟩:=S.get_cur ok
 apply VO
 intro K hK
 unfold No
 unfold Ev.val
 simp -dsimp (disch:=first|omega|(simp only[go_sem,seval];try omega))only[go_sem,seval]
 refine OpX.gen fun w1 hw1=>?_
 have hc1:Chg [] w w1:=by rw[hw1];(repeat (first|exact Chg.refl _ _|apply Chg.drew|apply Chg.alloc|(refine Chg.set ?_ _ _ (by first|(left;simp;done)|(right;omega)))))
 have ae:w1.heap[w.heap.size]?=some (.cells #[.int .i64 e.kind,.int .i64 e.win,.int .i64 e.pane,.string (Ap e.s),.int .i64 e.w,.int .i64 e.h] 34):=by rw[hw1];simp -dsimp (disch:=first|omega|(simp only[go_sem,seval];try omega))only[go_sem,seval]
 clear hw1
 have h1:=h.chg0 hc1
 have hz1:=hc1.size
 have T1:Trn (S.own s) (S.own s) w w1:=.of0 hc1 fun _ h=>.inl h
 refine OpX.call F7 rfl (Calls.ret (Hj h1) ?_)
 rintro v w2 ⟨rfl,rfl⟩
 refine OpX.call Fz rfl (Calls.ret (E4 h1 S.cur) ?_)
 rintro v w3 ⟨rfl,rfl⟩
 rw[hg]
 simp only[Cc,Option.map_some,Option.getD_some]
 simp -dsimp (disch:=first|omega|(simp only[go_sem,seval];try omega))only[go_sem,seval,ae]
 refine BrW.dec (fun g=>?_) (fun g=>?_)
 ·refine OpX.call Cd rfl (Calls.ret (Ca _ 16) ?_)
  rintro v w4 ⟨rfl,rfl⟩
  exact hK _ _ ⟨S,h1,ok.mono (by omega),T1,.long (by omega) rfl rfl⟩
 have hlen:e.s.length≤2000:=by omega
 simp -dsimp (disch:=first|omega|(simp only[go_sem,seval];try omega))only[go_sem,seval,ae]
 refine BrW.dec (fun g1=>?_) (fun g1=>?_)
 ·simp -dsimp (disch:=first|omega|(simp only[go_sem,seval];try omega))only[go_sem,seval,ae]
  refine OpX.call SB rfl (Calls.ret (Xc h1 ok (by omega) (by omega) e.s hlen) ?_)
  rintro v w4 ⟨S',vs,A,ok',T,run,e1,e2⟩
  exact hK _ _ ⟨S',A,ok',T1.trans T,.keys vs hlen g1 run e1 e2⟩
 simp -dsimp (disch:=first|omega|(simp only[go_sem,seval];try omega))only[go_sem,seval,ae]
 refine BrW.dec (fun g2=>?_) (fun g2=>?_)
 ·simp -dsimp (disch:=first|omega|(simp only[go_sem,seval];try omega))only[go_sem,seval,ae]
  refine OpX.call ZY rfl (Calls.ret (WH h1 ok (by omega) e.win e.pane e.s hlen) ?_)
  rintro v w4 (⟨rfl,rfl,hno⟩|⟨rfl,W',p,q,b,e1,e2,e3,e4,e5,e6,e7,e8,e9,ok',A,T⟩)
  ·exact hK _ _ ⟨S,h1,ok.mono (by omega),T1,.outN hlen g2 rfl rfl hno⟩
  ·exact hK _ _ ⟨_,A,ok'.mono (by omega),T1.trans T,.outY W' p q b hlen g2 rfl e1 e2 e3 e4 e5 e6 e7 e8 rfl⟩
 simp -dsimp (disch:=first|omega|(simp only[go_sem,seval];try omega))only[go_sem,seval,ae]
 refine BrW.dec (fun g3=>?_) (fun g3=>?_)
 ·simp -dsimp (disch:=first|omega|(simp only[go_sem,seval];try omega))only[go_sem,seval,ae]
  refine OpX.call SD rfl (Calls.ret (Y7 h1 ok (by omega) e.w e.h) ?_)
  rintro v w4 (⟨hm,rfl,rfl⟩|⟨x1,x2,y1,y2,⟨rfl,A,T⟩|⟨rfl,wl,A,ok',T,hn,hwl⟩⟩)
  ·exact hK _ _ ⟨S,h1,ok.mono (by omega),T1,.sizeA hlen g3 hm rfl rfl⟩
  ·exact hK _ _ ⟨S,A,ok.mono (by omega),T1.trans T,.sizeN hlen g3 ⟨x1,x2,y1,y2⟩ rfl rfl⟩
  ·exact hK _ _ ⟨_,A,ok'.mono (by omega),T1.trans T,.sizeY wl hlen g3 ⟨x1,x2,y1,y2⟩ rfl rfl hn hwl⟩
 ·refine OpX.call Cd rfl (Calls.ret (Ca _ 18) ?_)
  rintro v w4 ⟨rfl,rfl⟩
  exact hK _ _ ⟨S,h1,ok.mono (by omega),T1,.kind hlen g1 g2 g3 rfl rfl⟩
structure Ss.fresh (S:Ss) (x y room:Int):Prop where
 w:S.w=x
 h:S.h=y
 room:S.room=room
 cur:S.cur=1
 cop:S.cop=false
 pre:S.pre=false
 back:S.back=0
 typed:S.typed=[]
 wins:∃V,S.wins=[V]∧V.n=1∧V.active=1∧∃t,V.L.root=.pane t 1
theorem Kg (w:World) (x y room:Int):Calls Tryz.prog 8 #[.int .i64 x,.int .i64 y,.int .i64 room] w
  (Ab fun v w'=>(¬(1≤x∧x≤200∧2≤y∧y≤60)∧v=.pointer none∧w'=w)∨((1≤x∧x≤200∧2≤y∧y≤60)∧∃s S,v=.pointer (some ⟨s,0,none⟩)∧SsAt w.heap.size w' s S∧S.ok 1∧S.fresh x y room∧Chg [] w w')):=by
 apply R0
 intro K hK
 unfold PI
 refine OpX.call O9 rfl (Calls.ret (OZ w x y) ?_)
 rintro v w1 ⟨rfl,rfl⟩
 by_cases hmay:1≤x∧x≤200∧2≤y∧y≤60
 ·rw[decide_eq_true hmay]
  obtain⟨x1,x2,y1,y2⟩:=hmay
  simp -dsimp (disch:=first|omega|(simp only[go_sem,seval];try omega))only[go_sem,seval]
  refine OpX.gen fun w2 hw2=>?_
  have hc2:Chg [] w1 w2:=by rw[hw2];(repeat (first|exact Chg.refl _ _|apply Chg.drew|apply Chg.alloc|(refine Chg.set ?_ _ _ (by first|(left;simp;done)|(right;omega)))))
  have hz2:w2.heap.size=w1.heap.size+2:=by rw[hw2];simp -dsimp (disch:=first|omega|(simp only[go_sem,seval];try omega))only[go_sem,seval]
  have am:w2.heap[w1.heap.size]?=some (.map #[] 0):=by rw[hw2];simp -dsimp (disch:=first|omega|(simp only[go_sem,seval];try omega))only[go_sem,seval]
  have ab:w2.heap[w1.heap.size+1]?=some (.cells #[.int .i64 x,.int .i64 y,.int .i64 room,.map (some w1.heap.size),.int .i64 1,.bool false,.bool false,.int .i64 0,.slice none 0 0,.int .i64 0] 81):=by rw[hw2];simp -dsimp (disch:=first|omega|(simp only[go_sem,seval];try omega))only[go_sem,seval]
  clear hw2
  have ezs:(w1.alloc (Obj.map #[] 0)).heap.size=w1.heap.size+1:=by simp -dsimp (disch:=first|omega|(simp only[go_sem,seval];try omega))only[go_sem,seval]
  refine OpX.call Nj rfl (Calls.ret (OM w2 x (y-1) room x1 x2 (by omega) (by omega)) ?_)
  rintro v w3 ⟨V0,rfl,hV,vok,v1,v2,v3,v4,v5,hc3⟩
  have am3:=hc3.keep am (by simp)
  have ab3:=hc3.keep ab (by simp)
  obtain⟨S0,hS0⟩:∃S0:Ss,S0=⟨x,y,room,w1.heap.size,0,[],1,false,false,0,[],.slice none 0 0,0⟩:=⟨_,rfl⟩
  have A0:SsAt w1.heap.size w2 (w1.heap.size+1) S0:=by
   rw[hS0]
   exact⟨ab,am,by simp,by simp,by simp,Ox.nil _ _ _ _ _,by omega,by dsimp only;omega,by simp,by simp,by simp⟩
  have hlf:Bt ([]:AL) 1=none:=rfl
  have hpc:C9 ([]:AL) 1 0=0+1:=rfl
  have am3':w3.heap[w1.heap.size]?=some (.map (Av .i64 []) 0):=am3
  rw[ezs]
  simp -dsimp (disch:=first|omega|(simp only[go_sem,seval];try omega))only[go_sem,seval,ab3,am3',HO hlf,hpc]
  obtain⟨V,hVe⟩:∃V:Wn,V={ V0 with n:=1,born:=0 }:=⟨_,rfl⟩
  have hV':WnAt w2.heap.size w3 V:=by rw[hVe];exact⟨hV.hb,hV.lay,hV.hm,hV.each,hV.apart,hV.ids,hV.lo⟩
  have vok':V.ok:=by rw[hVe];exact⟨vok.lay,vok.act,vok.has,vok.size⟩
  obtain⟨A1,T1⟩:=A0.addWin hc3 (hV'.base_le (by omega)) (fun x hx=>hV'.lo x hx) (by rw[hVe,hS0]) (by rw[hS0];simp) (by omega)
  subst hS0
  rw[show V.ent=((1:Int),Value.pointer (some ⟨V0.b,0,none⟩),0) by rw[hVe];rfl] at A1 T1
  refine hK _ _ (.inr ⟨⟨x1,x2,y1,y2⟩,w1.heap.size+1,_,rfl,A1,⟨x1,x2,y1,y2,fun W hW=>?_,?_,Int.le_refl _,by show(0:Int)≤1000;decide,by simp,Int.le_refl _,by show(0:Int)≤1;decide⟩,⟨rfl,rfl,rfl,rfl,rfl,rfl,rfl,rfl,V,rfl,by rw[hVe],by rw[hVe];exact v1,by rw[hVe];exact v5⟩,?_⟩)
  ·simp only[List.nil_append,List.mem_singleton] at hW
   subst hW
   exact⟨vok',by rw[hVe];exact v3,by rw[hVe];dsimp only;omega,by rw[hVe];dsimp only;decide⟩
  ·simp [hVe]
  ·exact T1.base hc2 A0.lo
 ·rw[decide_eq_false hmay]
  simp -dsimp (disch:=first|omega|(simp only[go_sem,seval];try omega))only[go_sem,seval]
  exact hK _ _ (.inl ⟨hmay,rfl,rfl⟩)
end
def evF (e:Ev):List Value:=[.int .i64 e.kind,.int .i64 e.win,.int .i64 e.pane,.string (Ap e.s),.int .i64 e.w,.int .i64 e.h]
theorem Qk (e:Ev):(evF e).length=6:=rfl
theorem Uq {l l':List Int} (h:CG l) (h':CG l') (hp:l.Perm l'):l=l' :=
 List.Perm.eq_of_pairwise (fun a b _ _ h1 h2=>by omega) h h' hp
def D6 (n m k:Int):Int:=k+(n.tmod m+m).tmod m
theorem L3 {n m k:Int} (h:0<m):k≤D6 n m k∧D6 n m k<m+k:=by
 have h1:=Int.lt_tmod_of_pos n h
 have h2:=Int.tmod_nonneg m (show 0≤n.tmod m+m by omega)
 have h3:=Int.tmod_lt_of_pos (n.tmod m+m) h
 unfold D6
 omega
theorem KRun.one {S S':Ss} {k:Ky} {vs:List (List UInt8 × Value)} (h:KRun S [k] S' vs):∃word v,KRel S k S' word v∧vs=[(word,v)]:=by
 generalize hk:[k]=ks at h
 cases h with
 | nil=>cases hk
 | @snoc ks' k' S1 S2 vs' word v run rel =>
  cases ks' with
  | nil =>
   simp only[List.nil_append,List.cons.injEq,and_true] at hk
   subst hk
   generalize hn:([]:List Ky)=q at run
   cases run with
   | nil=>exact⟨word,v,rel,rfl⟩
   | snoc run2 rel2=>simp at hn
  | cons z l=>simp at hk
end Go.Proofs.YtelplojmbjnplaaGreat
namespace Lyc
open Go
section
variable {P:Program}
theorem Y4 (l:List UInt8):Go.Lib.strCells (Ap l)=l.flatMap Bx:=by rw[LA];rfl
theorem VQ {t u ty e:TypeId} {base:Nat} {v:Value} {l m:List UInt8} {K:Value→World→Prop} {w:World} (ht:BK P t=some (e,1,1)) (hz:(P.info? e).bind (·.zero)=some (.int .u8 0)) (hu:Ag P u=some 3) (h:Ox base w e 1 Bx v l) (hlen:l.length+m.length≤1000000000) (hbase:base≤w.heap.size)
  (hK:∀v' w',Ox base w' e 1 Bx v' (l++m)→Chg v.ownBlock.toList w w'→K v' w') :
  OpX P (.call { callee:=.builtin .append,args:=#[.const v,.const (.string (Ap m))],argTypes:=#[t,u] }) ty K w:=by
 obtain⟨h1,i,z,h2,h3,h4,h5,h6,-⟩:=E1 ht
 rw[h2] at hz
 have hz:i.zero=some (.int .u8 0):=hz
 have hx:=h
 unfold Ox at hx
 have hm:(1000000000:Nat)≤maxLen:=by simp [maxLen]
 obtain⟨v',w',hr,hown,hgr,-⟩:=Go.Lib.run_append_own_string (P:=P) w base t u ty e i h1 (Fg hu) h2 hz h4 h5 v l.length _ hx (Ap m) (by rw[F5];omega) (by rw[F5];omega) hbase
 rw[Bc (v:=v') (w':=w') fun ρ hg=>by simp [execOp,Ao,resolve,invoke,builtin,hg.1,hr]]
 refine hK v' w' ?_ (I2 hgr)
 unfold Ox
 rw[List.length_append,List.flatMap_append,←Y4 m]
 rw[F5] at hown
 exact hown
end
end Lyc
namespace Go.Proofs.YtelplojmbjnplaaGreat
open Lyc Go
def AN (n:Nat):List UInt8:=if h:n<10 then[UInt8.ofNat (48+n)] else AN (n / 10)++[UInt8.ofNat (48+n % 10)]
termination_by n
theorem Ju:∀(k n:Nat),n<10 ^ (k+1)→(AN n).length≤k+1
 | 0,n,h=>by
  rw[AN,dif_pos (by simpa using h)]
  simp
 | k+1,n,h=>by
  rw[AN]
  split
  ·simp
  ·have:=Ju k (n / 10) (by rw[Nat.div_lt_iff_lt_mul (by decide)];rw[Nat.pow_succ] at h;exact h)
   simp only[List.length_append,List.length_singleton]
   omega
structure DM (w0:World) (t3 t4:Nat) (w:World) (l:List UInt8):Prop where
 chg:Chg [t3] w0 w
 h3:∃v,w.heap[t3]?=some (.cells #[v] 161)∧Ox w0.heap.size w 5 1 Bx v l
theorem ZB {w0:World} {t3 t4:Nat} (l3:t3<w0.heap.size) (n34:t3≠t4) (h4:w0.heap[t4]?=some (.cells #[.func (.func 84) #[] #[.pointer (some ⟨t4,0,none⟩),.pointer (some ⟨t3,0,none⟩)]] 147)) :
  ∀(n k:Nat) (w:World) (l:List UInt8),DM w0 t3 t4 w l→n<10 ^ (k+1)→n≤9223372036854775807→l.length+k≤100000000→Calls Tryz.prog 84 #[.int .i64 n,.pointer (some ⟨t4,0,none⟩),.pointer (some ⟨t3,0,none⟩)] w (Ab fun _ w'=>DM w0 t3 t4 w' (l++AN n)):=by
 intro n
 induction n using Nat.strongRecOn with
 | _ n ih =>
  intro k w l h hk hn hl
  have h4w:=h.chg.keep h4 (by simp;exact fun e=>n34 e.symm)
  apply aH
  intro K hK
  unfold Mh
  refine Join0.cut (fun w'=>DM w0 t3 t4 w' (if n<10 then l else l++AN (n / 10))) ?_ ?_
  ·simp -dsimp (disch:=first|omega|(simp only[go_sem,seval];try omega))only[go_sem,seval]
   refine BrW.dec (fun g=>?_) (fun g=>?_)
   ·have hlt:n / 10<n:=by omega
    obtain⟨j,rfl⟩:∃j,k=j+1:=by
     cases k with
     | zero=>omega
     | succ j=>exact⟨j,rfl⟩
    have hq:=ih (n / 10) hlt j w l h (by rw[Nat.div_lt_iff_lt_mul (by decide)];rw[Nat.pow_succ] at hk;exact hk) (by omega) (by omega)
    have eq:(n:Int).tdiv 10=((n / 10:Nat):Int):=rfl
    simp -dsimp (disch:=first|omega|(simp only[go_sem,seval];try omega))only[go_sem,seval,h4w,eq]
    refine OpX.callV (us:=[]) (cs:=[.pointer (some ⟨t4,0,none⟩),.pointer (some ⟨t3,0,none⟩)]) Ol (C8 [_]) (Calls.ret hq ?_)
    rintro v w1 h1
    rw[if_neg (by omega)]
    exact h1
   ·rw[if_pos (by omega)]
    exact h
  ·intro w1 h1
   obtain⟨v,a3,o3⟩:=h1.h3
   obtain⟨a,c,rfl,-,-,-,-⟩:=o3.form
   have em:(n:Int).tmod 10=((n % 10:Nat):Int):=rfl
   have hmod:n % 10<10:=Nat.mod_lt _ (by decide)
   simp -dsimp (disch:=first|omega|(simp only[go_sem,seval];try omega))only[go_sem,seval,a3,em]
   have hdl:=Ju k n hk
   have hdn:(if n<10 then l else l++AN (n / 10))++[UInt8.ofNat (48+n % 10)]=l++AN n:=by
    conv=>rhs;rw[AN]
    split
    ·rename_i h9;rw[Nat.mod_eq_of_lt h9]
    ·rw[List.append_assoc]
   have hql:(if n<10 then l else l++AN (n / 10)).length≤100000100:=by
    have:=congrArg List.length hdn
    simp only[List.length_append,List.length_singleton] at this
    omega
   have hbv:((UInt8.ofNat (48+n % 10)).toNat:Int)=48+((n % 10:Nat):Int):=by
    rw[UInt8.toNat_ofNat']
    omega
   generalize (if n<10 then l else l++AN (n / 10))=q at *
   refine OpX.gen fun w2 hw2=>?_
   have hc2:Chg [] w1 w2:=by rw[hw2];(repeat (first|exact Chg.refl _ _|apply Chg.drew|apply Chg.alloc|(refine Chg.set ?_ _ _ (by first|(left;simp;done)|(right;omega)))))
   have hsa:Sx w2 (some 5) Bx (some ⟨w1.heap.size,0,none⟩) [UInt8.ofNat (48+n % 10)]:=Sx.built (c:=Bx (UInt8.ofNat (48+n % 10))) (by rw[hw2];simp only[Bx];rw[hbv];simp -dsimp (disch:=first|omega|(simp only[go_sem,seval];try omega))only[go_sem,seval]) (by simp)
   clear hw2
   have hz:=h1.chg.size
   have hz2:=hc2.size
   refine Bv Jn O7 J4 (o3.chg0 hc2) hsa rfl (by rw[List.length_singleton];omega) (by omega) (by omega) ?_
   intro v4 w4 ho4 hc4 hown4
   have a34:=hc4.keep (hc2.keep a3 (by simp)) (fun hm=>by have:=o3.own_ge _ hm;omega)
   have l34:=Aa a34
   obtain⟨a9,c9,rfl,-⟩:=ho4.form
   simp -dsimp (disch:=first|omega|(simp only[go_sem,seval];try omega))only[go_sem,seval,a34]
   rw[hdn] at ho4
   refine hK _ _ ⟨((h1.chg.trans0 hc2).trans hc4 (fun x hx=>.inr (o3.own_ge x hx))).set _ _ (by simp),_,As _ _ _ _ rfl l34,?_⟩
   rw[hdn]
   exact ho4.low ((Chg.refl [t3] _).set _ _ (by simp)) (by simp;exact l3)
theorem IY (w:World) (n:Int) (h0:0≤n) (h1:n≤9223372036854775807):Calls Tryz.prog 42 #[.int .i64 n] w (Ab fun v w'=>v=.string (Ap (AN n.toNat))∧Chg [] w w'):=by
 obtain⟨m,rfl⟩:=Int.eq_ofNat_of_zero_le h0
 apply Y5
 intro K hK
 unfold Qu
 simp -dsimp (disch:=first|omega|(simp only[go_sem,seval];try omega))only[go_sem,seval]
 refine OpX.gen fun w1 hw1=>?_
 have hc1:Chg [] w w1:=by rw[hw1];(repeat (first|exact Chg.refl _ _|apply Chg.drew|apply Chg.alloc|(refine Chg.set ?_ _ _ (by first|(left;simp;done)|(right;omega)))))
 have hz1:w1.heap.size=w.heap.size+2:=by rw[hw1];simp -dsimp (disch:=first|omega|(simp only[go_sem,seval];try omega))only[go_sem,seval]
 have a3:w1.heap[w.heap.size]?=some (.cells #[.slice none 0 0] 161):=by rw[hw1];simp -dsimp (disch:=first|omega|(simp only[go_sem,seval];try omega))only[go_sem,seval]
 have a4:w1.heap[w.heap.size+1]?=some (.cells #[.func (.func 84) #[] #[.pointer (some ⟨w.heap.size+1,0,none⟩),.pointer (some ⟨w.heap.size,0,none⟩)]] 147):=by rw[hw1];simp -dsimp (disch:=first|omega|(simp only[go_sem,seval];try omega))only[go_sem,seval]
 clear hw1
 have hd:=ZB (w0:=w1) (t3:=w.heap.size) (t4:=w.heap.size+1) (by omega) (by omega) a4 m 18 w1 [] ⟨Chg.refl _ _,_,a3,Ox.nil _ _ _ _ _⟩ (by omega) (by omega) (by simp)
 refine OpX.callV (us:=[]) (cs:=[.pointer (some ⟨w.heap.size+1,0,none⟩),.pointer (some ⟨w.heap.size,0,none⟩)]) Ol (C8 [_]) (Calls.ret hd ?_)
 rintro v w2 ⟨hc2,v3,b3,o3⟩
 obtain⟨a9,c9,rfl,-,hs9,-,-⟩:=o3.form
 rw[List.nil_append] at b3 hs9
 simp -dsimp (disch:=first|omega|(simp only[go_sem,seval];try omega))only[go_sem,seval,b3]
 rw[JJ (by kernel_rfl) (by kernel_rfl) hs9]
 exact hK _ _ ⟨rfl,hc1.trans hc2 (by simp)⟩
theorem HK (w:World) {e:Option TypeId} {a:Option Addr} {ls:List (List UInt8)} (hs:Sx w e bsF a ls) (cap:Nat) (hn:ls.length≤8) (hlen:∀p∈ls,p.length≤10000):Calls Tryz.prog 41 #[.slice a ls.length cap] w (Ab fun v w'=>v=.string (Ap ls.flatten)∧Chg [] w w'):=by
 have hsum:∀l:List (List UInt8),(∀p∈l,p.length≤10000)→l.flatten.length≤10000*l.length:=by
  intro l
  induction l with
  | nil=>simp
  | cons x l ih =>
   intro h
   have h1:=h x (by simp)
   have h2:=ih fun p hp=>h p (by simp [hp])
   simp only[List.flatten_cons,List.length_append,List.length_cons]
   omega
 apply Q4
 intro K hK
 unfold O6
 simp -dsimp (disch:=first|omega|(simp only[go_sem,seval];try omega))only[go_sem,seval]
 refine Loop2.st (fun q:Nat=>.int .i64 ((ls.take q).flatten.length:Int)) (fun q=>.int .i64 (q:Int)) (fun q w'=>q≤ls.length∧w'=w) (fun q=>ls.length-q) 0 rfl rfl ⟨by simp,rfl⟩ ?_
 rintro next i wi hn1 ⟨hi,rfl⟩
 have hti:=hsum (ls.take i) fun p hp=>hlen p (List.mem_of_mem_take hp)
 rw[List.length_take] at hti
 simp -dsimp (disch:=first|omega|(simp only[go_sem,seval];try omega))only[go_sem,seval]
 refine BrW.dec (fun g=>?_) (fun g=>?_)
 ·have hi':i<ls.length:=by omega
  obtain⟨b,o,rfl,hbl,hcell⟩:=hs.get1 (g:=fun l=>.string (Ap l)) (fun _=>rfl) (List.getElem?_eq_getElem hi')
  have hpl:=hlen _ (List.getElem_mem hi')
  have e1:(i:Int)+1=((i+1:Nat):Int):=by omega
  have ht:(ls.take (i+1)).flatten.length=(ls.take i).flatten.length+ls[i].length:=by rw[Cm hi',List.flatten_append];simp
  generalize ls[i]=x at *
  have e2:((ls.take i).flatten.length:Int)+(x.length:Int)=((ls.take (i+1)).flatten.length:Int):=by rw[ht];omega
  simp -dsimp (disch:=first|omega|(simp only[go_sem,seval];try omega))only[go_sem,seval,hcell,e1,e2]
  exact hn1 (i+1) _ ⟨by omega,rfl⟩ (by omega)
 have hil:i=ls.length:=by omega
 subst hil
 rw[List.take_length] at hti ⊢
 refine Jm (f:=Bx) (base:=wi.heap.size) an rfl (by omega) (by omega) (by decide) (by decide) (Nat.le_refl _) ?_
 intro w1 hw1 ho1
 have hc1:Chg [] wi w1:=by rw[hw1];(repeat (first|exact Chg.refl _ _|apply Chg.drew|apply Chg.alloc|(refine Chg.set ?_ _ _ (by first|(left;simp;done)|(right;omega)))))
 clear hw1
 generalize (((ls.flatten.length:Nat):Int)).toNat=cp at ho1 ⊢
 simp -dsimp (disch:=first|omega|(simp only[go_sem,seval];try omega))only[go_sem,seval]
 refine Loop2.st (fun q:Nat × Option Addr × Nat=>.slice q.2.1 (ls.take q.1).flatten.length q.2.2) (fun q=>.int .i64 (q.1:Int)) (fun q w'=>q.1≤ls.length∧Chg [] wi w'∧Ox wi.heap.size w' 5 1 Bx (.slice q.2.1 (ls.take q.1).flatten.length q.2.2) (ls.take q.1).flatten) (fun q=>ls.length-q.1) (0,some ⟨wi.heap.size,0,none⟩,cp) rfl rfl ⟨Nat.zero_le _,hc1,ho1⟩ ?_
 rintro next2 ⟨i,a2,c2⟩ wj hn2 ⟨hi,hc,ho⟩
 dsimp only at hi hc ho ⊢
 have htj:=hsum (ls.take i) fun p hp=>hlen p (List.mem_of_mem_take hp)
 rw[List.length_take] at htj
 simp -dsimp (disch:=first|omega|(simp only[go_sem,seval];try omega))only[go_sem,seval]
 refine BrW.dec (fun g=>?_) (fun g=>?_)
 ·have hi':i<ls.length:=by omega
  obtain⟨b,o,rfl,hbl,hcell⟩:=(hs.chg0 hc).get1 (g:=fun l=>.string (Ap l)) (fun _=>rfl) (List.getElem?_eq_getElem hi')
  have hpl:=hlen _ (List.getElem_mem hi')
  have e1:(i:Int)+1=((i+1:Nat):Int):=by omega
  have ht:(ls.take (i+1)).flatten=(ls.take i).flatten++ls[i]:=by rw[Cm hi',List.flatten_append];simp
  generalize ls[i]=x at *
  simp -dsimp (disch:=first|omega|(simp only[go_sem,seval];try omega))only[go_sem,seval,hcell]
  refine VQ Jn (by kernel_rfl) (by kernel_rfl) ho (by omega) (by have:=hc.size;omega) ?_
  intro v3 w3 ho3 hc3
  rw[←ht] at ho3
  obtain⟨a9,c9,rfl,-⟩:=ho3.form
  simp -dsimp (disch:=first|omega|(simp only[go_sem,seval];try omega))only[go_sem,seval,e1]
  exact hn2 (i+1,a9,c9) _ ⟨by dsimp only;omega,hc.trans hc3 (fun y hy=>.inr (ho.own_ge y hy)),ho3⟩ (by dsimp only;omega)
 ·have hil:i=ls.length:=by omega
  subst hil
  rw[List.take_length] at ho ⊢
  obtain⟨a9,c9,e9,-,hs9,-,-⟩:=ho.form
  simp only[Value.slice.injEq] at e9
  obtain⟨rfl,-,rfl⟩:=e9
  rw[JJ (by kernel_rfl) (by kernel_rfl) hs9]
  exact hK _ _ ⟨rfl,hc⟩
def BA (ks:List Int) (cur:Int):List UInt8:=(ks.map fun k=>[32]++AN k.toNat++(if k=cur then[42] else[])).flatten
def Cs (ks:List Int) (cur:Int) (cop:Bool) (back hands:Int):List UInt8 :=
 BA ks cur++(if cop then[32,99,111,112,121,32]++AN back.toNat else[])++(if 0<hands then[32,104,97,110,100,115,32]++AN hands.toNat else[])
theorem EI {n:Int} (h:n≤9223372036854775807):(AN n.toNat).length≤19:=Ju 18 _ (by omega)
theorem Ia (cur:Int):∀ks:List Int,(∀k∈ks,1≤k∧k≤9)→(BA ks cur).length≤30*ks.length
 | [],_=>by simp [BA]
 | k::ks,h=>by
  have h1:=Ia cur ks fun x hx=>h x (by simp [hx])
  have h2:=EI (n:=k) (by have:=h k (by simp);omega)
  have h3:(if k=cur then[42] else([]:List UInt8)).length≤1:=by split<;>simp
  have e:BA (k::ks) cur=([32]++AN k.toNat++(if k=cur then[42] else[]))++BA ks cur:=rfl
  rw[e]
  generalize (if k=cur then[42] else([]:List UInt8))=m at *
  simp only[List.length_append,List.length_cons,List.length_nil]
  omega
section
variable {base:Nat} {w w':World} {s:Nat} {S:Ss} {lim:Int}
theorem HC (h:SsAt base w s S) (ok:S.ok lim) (hands:Int) (hh:hands≤9223372036854775807):Calls Tryz.prog 14 #[.pointer (some ⟨s,0,none⟩),.int .i64 hands] w
  (Ab fun v w'=>∃ks,ks.Perm (S.wins.map (·.n))∧CG ks∧v=.string (Ap (Cs ks S.cur S.cop S.back hands))∧Chg [] w w'):=by
 have hlen:=h.len ok
 apply cj
 intro K hK
 unfold QC
 simp -dsimp (disch:=first|omega|(simp only[go_sem,seval];try omega))only[go_sem,seval]
 refine OpX.call Kl rfl (Calls.ret (P2 h (by omega)) ?_)
 rintro v w1 ⟨ks,k1,k2,ko,hc1⟩
 obtain⟨a,cap,rfl,-,hs,-,-⟩:=ko.form
 have hkl:ks.length≤9:=by rw[k1.length_eq,List.length_map];exact hlen
 have hkb:∀k∈ks,1≤k∧k≤9:=fun k hk=>by
  obtain⟨W,hW,e⟩:=List.mem_map.1 (k1.mem_iff.1 hk)
  have:=(ok.win W hW).2.2.2
  omega
 simp -dsimp (disch:=first|omega|(simp only[go_sem,seval];try omega))only[go_sem,seval]
 refine Loop2.st (fun q:Nat=>.string (Ap (BA (ks.take q) S.cur))) (fun q=>.int .i64 (q:Int)) (fun q w'=>q≤ks.length∧Chg [] w w'∧Chg [] w1 w') (fun q=>ks.length-q) 0 rfl rfl ⟨by simp,hc1,Chg.refl _ _⟩ ?_
 rintro next i wi hn ⟨hi,hc,hci⟩
 have hsl:=Ia S.cur (ks.take i) fun k hk=>hkb k (List.mem_of_mem_take hk)
 rw[List.length_take] at hsl
 have hA:=h.chg0 hc
 simp -dsimp (disch:=first|omega|(simp only[go_sem,seval];try omega))only[go_sem,seval]
 refine BrW.dec (fun g=>?_) (fun g=>?_)
 ·have hi':i<ks.length:=by omega
  obtain⟨b,o,rfl,hbl,hcell⟩:=(hs.chg0 hci).get1 (g:=fun n=>.int .i64 n) (fun _=>rfl) (List.getElem?_eq_getElem hi')
  have hkm:=hkb _ (List.getElem_mem hi')
  have e1:(i:Int)+1=((i+1:Nat):Int):=by omega
  have ht:BA (ks.take (i+1)) S.cur=[BA (ks.take i) S.cur,[32],AN ks[i].toNat,if ks[i]=S.cur then[42] else[]].flatten:=by unfold BA;rw[Cm hi',List.map_append,List.flatten_append];simp only[List.map_cons,List.map_nil,List.flatten_cons,List.flatten_nil,List.append_nil,List.append_assoc]
  generalize ks[i]=x at *
  simp -dsimp (disch:=first|omega|(simp only[go_sem,seval];try omega))only[go_sem,seval,hcell]
  refine Join1.cut (fun v w'=>v=.string (Ap (if x=S.cur then[42] else[]))∧w'=wi) ?_ ?_
  ·refine OpX.call F7 rfl (Calls.ret (Hj hA) ?_)
   rintro v w2 ⟨rfl,rfl⟩
   simp -dsimp (disch:=first|omega|(simp only[go_sem,seval];try omega))only[go_sem,seval]
   refine BrW.dec (fun g=>?_) (fun g=>?_)
   ·rw[if_pos g];exact⟨rfl,rfl⟩
   ·rw[if_neg g];exact⟨rfl,rfl⟩
  ·rintro v w2 ⟨rfl,rfl⟩
   refine OpX.call Ib rfl (Calls.ret (IY w2 x (by omega) (by omega)) ?_)
   rintro v w3 ⟨rfl,hc3⟩
   have hdl:=EI (n:=x) (by omega)
   simp -dsimp (disch:=first|omega|(simp only[go_sem,seval];try omega))only[go_sem,seval]
   refine OpX.gen fun w4 hw4=>?_
   have hc4:Chg [] w3 w4:=by rw[hw4];(repeat (first|exact Chg.refl _ _|apply Chg.drew|apply Chg.alloc|(refine Chg.set ?_ _ _ (by first|(left;simp;done)|(right;omega)))))
   have hsa:Sx w4 (some 9) bsF (some ⟨w3.heap.size,0,none⟩) [BA (ks.take i) S.cur,[32],AN x.toNat,if x=S.cur then[42] else[]]:=Sx.built (c:=bsF (BA (ks.take i) S.cur)++bsF [32]++bsF (AN x.toNat)++bsF (if x=S.cur then[42] else[])) (by rw[hw4];simp only[bsF];simp -dsimp (disch:=first|omega|(simp only[go_sem,seval];try omega))only[go_sem,seval];rfl) (by simp)
   clear hw4
   have hall:∀p∈([BA (ks.take i) S.cur,[32],AN x.toNat,if x=S.cur then[42] else[]]:List (List UInt8)),p.length≤10000:=by
    intro p hp
    simp only[List.mem_cons,List.not_mem_nil,or_false] at hp
    rcases hp with rfl|rfl|rfl|rfl
    ·omega
    ·simp
    ·omega
    ·split<;>simp
   refine OpX.call Iq rfl (Calls.ret (HK w4 hsa 4 (by simp) hall) ?_)
   rintro v w5 ⟨rfl,hc5⟩
   rw[←ht]
   simp -dsimp (disch:=first|omega|(simp only[go_sem,seval];try omega))only[go_sem,seval,e1]
   exact hn (i+1) _ ⟨by omega,((hc.trans0 hc3).trans0 hc4).trans0 hc5,((hci.trans0 hc3).trans0 hc4).trans0 hc5⟩ (by omega)
 ·have hil:i=ks.length:=by omega
  subst hil
  rw[List.take_length] at hsl ⊢
  have hb0:=ok.back0
  have hb1:=ok.back1
  have hbl:=EI (n:=S.back) (by omega)
  refine Join1.cut (fun v w'=>v=.string (Ap (BA ks S.cur++(if S.cop then[32,99,111,112,121,32]++AN S.back.toNat else[])))∧Chg [] w w') ?_ ?_
  ·refine OpX.call Wl rfl (Calls.ret (U6 hA) ?_)
   rintro v w2 ⟨rfl,hc2⟩
   have hc02:=hc.trans0 hc2
   have hA2:=h.chg0 hc02
   cases hcop:S.cop
   ·simp -dsimp (disch:=first|omega|(simp only[go_sem,seval];try omega))only[go_sem,seval]
    simp only[Bool.false_eq_true,if_false,List.append_nil]
    exact⟨trivial,hc02⟩
   ·simp -dsimp (disch:=first|omega|(simp only[go_sem,seval];try omega))only[go_sem,seval]
    refine OpX.call ZE rfl (Calls.ret (Sn hA2) ?_)
    rintro v w3 ⟨rfl,rfl⟩
    refine OpX.call Ib rfl (Calls.ret (IY _ S.back (by omega) (by omega)) ?_)
    rintro v w4 ⟨rfl,hc4⟩
    simp -dsimp (disch:=first|omega|(simp only[go_sem,seval];try omega))only[go_sem,seval]
    refine OpX.gen fun w5 hw5=>?_
    have hc5:Chg [] w4 w5:=by rw[hw5];(repeat (first|exact Chg.refl _ _|apply Chg.drew|apply Chg.alloc|(refine Chg.set ?_ _ _ (by first|(left;simp;done)|(right;omega)))))
    have hsa:Sx w5 (some 9) bsF (some ⟨w4.heap.size,0,none⟩) [BA ks S.cur,[32,99,111,112,121,32],AN S.back.toNat]:=Sx.built (c:=bsF (BA ks S.cur)++bsF [32,99,111,112,121,32]++bsF (AN S.back.toNat)) (by rw[hw5];simp only[bsF];simp -dsimp (disch:=first|omega|(simp only[go_sem,seval];try omega))only[go_sem,seval];rfl) (by simp)
    clear hw5
    have hall:∀p∈([BA ks S.cur,[32,99,111,112,121,32],AN S.back.toNat]:List (List UInt8)),p.length≤10000:=by
     intro p hp
     simp only[List.mem_cons,List.not_mem_nil,or_false] at hp
     rcases hp with rfl|rfl|rfl
     ·omega
     ·simp
     ·omega
    refine OpX.call Iq rfl (Calls.ret (HK w5 hsa 3 (by simp) hall) ?_)
    rintro v w6 ⟨rfl,hc6⟩
    refine⟨?_,((hc02.trans0 hc4).trans0 hc5).trans0 hc6⟩
    simp
  ·rintro v w2 ⟨rfl,hc2⟩
   have hcl:(if S.cop then[32,99,111,112,121,32]++AN S.back.toNat else([]:List UInt8)).length≤30:=by split<;>simp;omega
   have hhl:=EI hh
   obtain⟨q,hq⟩:∃q,q=BA ks S.cur++(if S.cop then[32,99,111,112,121,32]++AN S.back.toNat else[]):=⟨_,rfl⟩
   rw[←hq]
   have hql:q.length≤400:=by rw[hq,List.length_append];omega
   have hfin:Cs ks S.cur S.cop S.back hands=q++(if 0<hands then[32,104,97,110,100,115,32]++AN hands.toNat else[]):=by rw[hq];rfl
   refine Join1.cut (fun v w'=>v=.string (Ap (Cs ks S.cur S.cop S.back hands))∧Chg [] w w') ?_ (fun v w' h=>hK _ _ ⟨ks,k1,k2,h⟩)
   rw[hfin]
   simp -dsimp (disch:=first|omega|(simp only[go_sem,seval];try omega))only[go_sem,seval]
   refine BrW.dec (fun g=>?_) (fun g=>?_)
   ·refine OpX.call Ib rfl (Calls.ret (IY _ hands (by omega) hh) ?_)
    rintro v w4 ⟨rfl,hc4⟩
    simp -dsimp (disch:=first|omega|(simp only[go_sem,seval];try omega))only[go_sem,seval]
    refine OpX.gen fun w5 hw5=>?_
    have hc5:Chg [] w4 w5:=by rw[hw5];(repeat (first|exact Chg.refl _ _|apply Chg.drew|apply Chg.alloc|(refine Chg.set ?_ _ _ (by first|(left;simp;done)|(right;omega)))))
    have hsa:Sx w5 (some 9) bsF (some ⟨w4.heap.size,0,none⟩) [q,[32,104,97,110,100,115,32],AN hands.toNat]:=Sx.built (c:=bsF q++bsF [32,104,97,110,100,115,32]++bsF (AN hands.toNat)) (by rw[hw5];simp only[bsF];simp -dsimp (disch:=first|omega|(simp only[go_sem,seval];try omega))only[go_sem,seval];rfl) (by simp)
    clear hw5
    have hall:∀p∈([q,[32,104,97,110,100,115,32],AN hands.toNat]:List (List UInt8)),p.length≤10000:=by
     intro p hp
     simp only[List.mem_cons,List.not_mem_nil,or_false] at hp
     rcases hp with rfl|rfl|rfl
     ·omega
     ·simp
     ·omega
    refine OpX.call Iq rfl (Calls.ret (HK w5 hsa 3 (by simp) hall) ?_)
    rintro v w6 ⟨rfl,hc6⟩
    rw[if_pos g]
    refine⟨?_,((hc2.trans0 hc4).trans0 hc5).trans0 hc6⟩
    simp
   ·rw[if_neg g,List.append_nil]
    exact⟨rfl,hc2⟩
end
def AH (t:List UInt8) (x:Nat):Cel:=⟨(t[x]?.map fun b=>(b.toNat:Int)).getD 32,0,0,32⟩
def Fk (n:Nat) (t:List UInt8):List Cel:=AF n (AH t)
def BM (r:Rc):Cel:=⟨if r.w=1 then 124 else 45,0,0,0⟩
theorem _root_.Lyc.Ox.open_ {α:Type} {base:Nat} {w:World} {e:TypeId} {m:Nat} {f:α→List Value} {v:Value} {l:List α} (h:Ox base w e m f v l) (hf:∀x,(f x).length=m) {i:Nat} {x:α} (hi:l[i]?=some x) :
  ∃g cap pre post,v=.slice (some ⟨g,0,none⟩) l.length cap∧base≤g∧g<w.heap.size∧pre.length=i*m∧w.heap[g]?=some (.cells (pre++f x++post).toArray e (0,0))∧∀y w',w'.heap[g]?=some (.cells (pre++f y++post).toArray e (0,0))→Ox base w' e m f v (l.set i y):=by
 have hil:i<l.length:=(List.getElem?_eq_some_iff.1 hi).1
 obtain⟨hl,h⟩:=h
 rcases h with ⟨rfl,h0⟩|⟨g,cap,cur,rfl,hb,hg,hn,hm,hs,ht⟩
 ·omega
 ·have hset:=fun y=>FZ hf l i x y hi
  obtain⟨pre,post,h1,h2,-⟩:=hset x
  have h3:∀y,(l.set i y).flatMap f=pre++f y++post:=by
   intro y
   obtain⟨pre',post',k1,k2,k3⟩:=hset y
   rw[k3]
   have e1:=h1.symm.trans k1
   rw[List.append_assoc,List.append_assoc] at e1
   obtain⟨e2,e3⟩:=List.append_inj e1 (by omega)
   obtain⟨e4,e5⟩:=List.append_inj e3 rfl
   rw[←e2,←e5]
  have hcur:cur=(pre++f x++(post++cur.toList.drop (l.length*m))).toArray:=by
   have e1:cur.toList=l.flatMap f++cur.toList.drop (l.length*m):=by rw[←ht];simp
   apply Array.ext'
   rw[h1] at e1
   simpa using e1
  refine⟨g,cap,pre,post++cur.toList.drop (l.length*m),rfl,hb,Aa hg,h2,by rw[←hcur];exact hg,fun y w' hw=>?_⟩
  refine⟨by simp [AE hf],.inr ⟨g,cap,_,by simp,hb,hw,by simpa using hn,hm,?_,?_⟩⟩
  ·have:=congrArg Array.size hcur
   simp [hf] at this
   simp [hf]
   omega
  ·have hlen:(pre++f y++post).length=(l.set i y).length*m:=by rw[←h3,AE hf]
   show(pre++f y++(post++cur.toList.drop (l.length*m))).take _=_
   rw[h3,←List.append_assoc,List.take_append_of_le_length (by omega),List.take_of_length_le (by omega)]
theorem cu (w:World) (n:Nat) (n1:n≤200) (t:List UInt8) (ht:t.length≤10000):Calls Tryz.prog 36 #[.int .i64 n,.string (Ap t)] w (Ab fun v w'=>Ox w.heap.size w' 43 4 Cel.cells v (Fk n t)∧Chg [] w w'):=by
 apply TZ
 intro K hK
 unfold KF
 refine GR (z:=Cel.none) (f:=Cel.cells) (base:=w.heap.size) EB Cel.len rfl (by omega) (by decide) (by decide) (Nat.le_refl _) ?_
 intro w1 hw1 ho1
 have hc1:Chg [] w w1:=by rw[hw1];(repeat (first|exact Chg.refl _ _|apply Chg.drew|apply Chg.alloc|(refine Chg.set ?_ _ _ (by first|(left;simp;done)|(right;omega)))))
 clear hw1
 simp -dsimp (disch:=first|omega|(simp only[go_sem,seval];try omega))only[go_sem,seval]
 refine Loop1.st (fun q:Nat=>.int .i64 (q:Int)) (fun q w'=>q≤n∧Chg [] w w'∧Ox w.heap.size w' 43 4 Cel.cells (.slice (some ⟨w.heap.size,0,none⟩) n n) (AF n fun x=>if x<q then AH t x else Cel.none)) (fun q=>n-q) 0 rfl ⟨by omega,hc1,?_⟩ ?_
 ·have e:(AF n fun x=>if x<0 then AH t x else Cel.none)=List.replicate n Cel.none:=by
   unfold AF
   simp only[Nat.not_lt_zero,if_false]
   exact List.map_const'.trans (by rw[List.length_range])
  rw[e];exact ho1
 rintro next i wi hn ⟨hi,hc,ho⟩
 simp -dsimp (disch:=first|omega|(simp only[go_sem,seval];try omega))only[go_sem,seval]
 refine BrW.dec (fun g=>?_) (fun g=>?_)
 ·have hi':i<n:=by omega
  refine OpX.call DO rfl (Calls.ret (DX wi) ?_)
  rintro v w2 ⟨rfl,hc2⟩
  have ho2:=ho.chg0 hc2
  have e1:(i:Int)+1=((i+1:Nat):Int):=by omega
  have hll:(AF n fun x=>if x<i then AH t x else Cel.none).length=n:=AT _ _
  obtain⟨gb,cap,pre,post,ev,hgb,hgl,hpre,hblk,hcl⟩:=ho2.open_ Cel.len (Ds hi')
  rw[hll] at ev
  simp only[Value.slice.injEq,Option.some.injEq,Addr.mk.injEq,and_true,true_and] at ev
  obtain⟨rfl,rfl⟩:=ev
  rw[if_neg (by omega)] at hblk
  generalize hgs:w.heap.size=gb at *
  have hp1:Az w2.heap[gb]? (i*4) Cel.blank.cells=some (.cells (pre++Cel.blank.cells++post).toArray 43):=by rw[hblk];exact CC _ _ _ _ _ _ hpre rfl
  have hlast:∀y:Cel,Az (some (.cells (pre++y.cells++post).toArray 43)) (i*4+3) [.int .u8 32]=some (.cells (pre++({ y with a:=32 }:Cel).cells++post).toArray 43):=by
   intro y
   have:=CC (pre++[.int .i32 y.r,.int .u8 y.fg.toNat,.int .u8 y.bg.toNat]) [.int .u8 y.a.toNat] [.int .u8 32] post 43 (i*4+3) (by simp;omega) rfl
   simpa [Cel.cells] using this
  have hfst:∀(y:Cel) (r:Int),Az (some (.cells (pre++y.cells++post).toArray 43)) (i*4) [.int .i32 r]=some (.cells (pre++({ y with r:=r }:Cel).cells++post).toArray 43):=by
   intro y r
   have:=CC pre [.int .i32 y.r] [.int .i32 r] ([.int .u8 y.fg.toNat,.int .u8 y.bg.toNat,.int .u8 y.a.toNat]++post) 43 (i*4) hpre rfl
   simpa [Cel.cells] using this
  simp only[Cel.val,Cel.cells] at hp1 ⊢
  simp -dsimp (disch:=first|omega|(simp only[go_sem,seval];try omega))only[go_sem,seval,hp1]
  have lg:=hgl
  refine DS (F:=Join0 _ _) fun w3 hw3=>?_
  have hc3:Chg [gb] w2 w3:=by rw[hw3];(repeat (first|exact Chg.refl _ _|apply Chg.drew|apply Chg.alloc|(refine Chg.set ?_ _ _ (by first|(left;simp;done)|(right;omega)))))
  have hb3:w3.heap[gb]?=some (.cells (pre++Cel.blank.cells++post).toArray 43):=by rw[hw3];simp only[Cel.cells,List.append_assoc,List.cons_append,List.nil_append];exact As _ _ _ _ rfl hgl
  clear hw3
  refine Join0.cut (fun w'=>w'.heap[gb]?=some (.cells (pre++({ Cel.blank with r:=(AH t i).r }:Cel).cells++post).toArray 43)∧Chg [gb] w2 w') ?_ ?_
  ·simp -dsimp (disch:=first|omega|(simp only[go_sem,seval];try omega))only[go_sem,seval]
   refine BrW.dec (fun g9=>?_) (fun g9=>?_)
   ·have hti:i<t.length:=by omega
    have hch:chL (Ap t) i=some (.int .u8 t[i].toNat):=by rw[Ou,if_pos (by omega),Int.toNat_natCast,List.getElem?_eq_getElem hti];rfl
    have hr:(AH t i).r=(t[i].toNat:Int):=by unfold AH;rw[List.getElem?_eq_getElem hti];rfl
    have hub:=t[i].toNat_lt
    rw[hr]
    generalize t[i]=b at *
    have l3:=Aa hb3
    have hf3:=hfst Cel.blank (b.toNat:Int)
    rw[←hb3] at hf3
    simp -dsimp (disch:=first|omega|(simp only[go_sem,seval];try omega))only[go_sem,seval,hch,hf3]
    exact hc3.set _ _ (by simp)
   ·have hr:AH t i={ Cel.blank with a:=32 }:=by unfold AH;rw[List.getElem?_eq_none (by omega)];rfl
    rw[hr]
    exact⟨hb3,hc3⟩
  ·rintro w4 ⟨hb4,hc4⟩
   have l4:=Aa hb4
   have hl4:=hlast { Cel.blank with r:=(AH t i).r }
   rw[←hb4] at hl4
   simp -dsimp (disch:=first|omega|(simp only[go_sem,seval];try omega))only[go_sem,seval,hl4,e1]
   have hfin:=hcl { Cel.blank with r:=(AH t i).r,a:=32 } (Ac w4 gb (.cells (pre++({ Cel.blank with r:=(AH t i).r,a:=32 }:Cel).cells++post).toArray 43)) (As _ _ _ _ rfl l4)
   have hset:(AF n fun x=>if x<i then AH t x else Cel.none).set i { Cel.blank with r:=(AH t i).r,a:=32 }=AF n fun x=>if x<i+1 then AH t x else Cel.none:=by
    refine Qj hi' (by rw[if_pos (by omega)];rfl) fun k hk hne=>?_
    by_cases h9:k<i
    ·rw[if_pos h9,if_pos (by omega)]
    ·rw[if_neg h9,if_neg (by omega)]
   rw[hset] at hfin
   simp only[Cel.cells,List.append_assoc,List.cons_append,List.nil_append] at hfin
   refine hn (i+1) _ ⟨by omega,?_,hfin⟩ (by omega)
   exact((hc.trans0 hc2).trans hc4 (fun x hx=>.inr (by simp at hx;omega))).set _ _ (.inr (by omega))
 ·have hil:i=n:=by omega
  subst hil
  refine hK _ _ ⟨?_,hc⟩
  have e:(AF i fun x=>if x<i then AH t x else Cel.none)=Fk i t:=C6 fun x hx=>if_pos hx
  rw[e] at ho
  exact ho
def Wn.viewAt (W:Wn) (back:Int→Int) (id:Int):Gr:=match W.pts.find? (fun p=>p.ent.1 == id) with
 | some p=>CS p.M.S p.G.list (back id)
 | none=>⟨0,0,[]⟩
def CL (V:Int→Gr) (g:Gr) (l:List (Int × Rc)):Gr:=l.foldl (fun g p=>g.blit (V p.1) p.2.x p.2.y) g
def Ci (g:Gr) (l:List Rc):Gr:=l.foldl (fun g r=>g.fill r.x r.y r.w r.h (BM r)) g
def Ss.gridL (S:Ss) (W:Wn):Gr:=Ci (CL (W.viewAt (S.backOf S.cur W)) (Gr.plain S.w.toNat S.h.toNat Cel.blank) (W.L.root.panes W.L.R)) (W.L.root.bords W.L.R)
def Ss.grid (S:Ss) (W:Wn) (t:List UInt8):Gr:=(S.gridL W).put 0 (S.h-1) (Fk S.w.toNat t)
theorem FK {V:Int→Gr} {w h:Nat}:∀{l:List (Int × Rc)} {g:Gr},g.fit w h→(CL V g l).fit w h
 | [],_,h=>h
 | p::l,g,hg=>FK (l:=l) (g:=g.blit (V p.1) p.2.x p.2.y) ⟨Gr.chg_ok hg.ok fun _ _ _ _=>AT _ _,Gr.chg_right hg.ok hg.r fun _ _ _ _=>AT _ _,hg.w,hg.h⟩
theorem E8 {w h:Nat}:∀{l:List Rc} {g:Gr},g.fit w h→(Ci g l).fit w h
 | [],_,h=>h
 | r::l,g,hg=>E8 (l:=l) (g:=g.fill r.x r.y r.w r.h (BM r)) hg.fill
theorem cO (V:Int→Gr) (g:Gr) (l:List (Int × Rc)) (p:Int × Rc):CL V g (l++[p])=(CL V g l).blit (V p.1) p.2.x p.2.y:=by simp [CL]
theorem MG (g:Gr) (l:List Rc) (r:Rc):Ci g (l++[r])=(Ci g l).fill r.x r.y r.w r.h (BM r):=by simp [Ci]
theorem JF {w h:Nat} (w0:0<w) (w1:w≤200) (h0:0<h) (h1:h≤60):(Gr.plain w h Cel.blank).fit w h:=⟨Gr.plain_ok w0 w1 h0 h1 _,Gr.plain_right (by decide),rfl,rfl⟩
theorem O2 (r:Rc):(BM r).usual=true:=by unfold BM;split<;>decide
structure GC (w0:World) (t7:Nat) (wi:World) (g:Gr):Prop where
 chg:Chg [] w0 wi
 at_:∃nb cap,wi.heap[t7]?=some (.cells #[.int .i64 g.w,.int .i64 g.h,.slice (some ⟨nb,0,none⟩) g.cs.length cap] 38)∧g.cs.length≤cap∧w0.heap.size≤nb∧SxC wi (some 43) (some ⟨nb,0,none⟩) g.cs
section
variable {base:Nat} {w w':World} {s:Nat} {S:Ss} {lim:Int}
theorem df (h:SsAt base w s S) (ok:S.ok lim) (hands:Int) (hh:hands≤9223372036854775807):Calls Tryz.prog 12 #[.pointer (some ⟨s,0,none⟩),.int .i64 hands] w
  (Ab fun v w'=>∃W ks,S.get S.cur=some W∧ks.Perm (S.wins.map (·.n))∧CG ks∧GAt w.heap.size w' v (S.grid W (Cs ks S.cur S.cop S.back hands))∧Chg [] w w'):=by
 obtain⟨W,hg⟩:=S.get_cur ok
 obtain⟨hWm,hWn⟩:=Ss.get_mem hg
 obtain⟨wok,wR,wnew,wn⟩:=ok.win W hWm
 have s0:=ok.w0
 have s1:=ok.w1
 have s2:=ok.h0
 have s3:=ok.h1
 obtain⟨X,hX⟩:∃X:Nat,S.w=X:=⟨S.w.toNat,by omega⟩
 obtain⟨Y,hY⟩:∃Y:Nat,S.h=Y:=⟨S.h.toNat,by omega⟩
 apply Ux
 intro K hK
 unfold LX
 simp -dsimp (disch:=first|omega|(simp only[go_sem,seval];try omega))only[go_sem,seval]
 refine OpX.gen fun w1 hw1=>?_
 have hc1:Chg [] w w1:=by rw[hw1];(repeat (first|exact Chg.refl _ _|apply Chg.drew|apply Chg.alloc|(refine Chg.set ?_ _ _ (by first|(left;simp;done)|(right;omega)))))
 have a4:w1.heap[w.heap.size]?=some (.cells #[.int .i64 0,.int .i64 0,.slice none 0 0] 38):=by rw[hw1];simp -dsimp (disch:=first|omega|(simp only[go_sem,seval];try omega))only[go_sem,seval]
 clear hw1
 have h1:=h.chg0 hc1
 refine OpX.call O3 rfl (Calls.ret (MK h1) ?_)
 rintro v w2 ⟨rfl,hc2⟩
 rw[hX,hY]
 simp -dsimp (disch:=first|omega|(simp only[go_sem,seval];try omega))only[go_sem,seval]
 refine OpX.call EY rfl (Calls.ret (En w2 X Y (by omega) (by omega) (by omega) (by omega)) ?_)
 rintro v w3 ⟨hg3,hc3⟩
 obtain⟨nb3,cap3,rfl,q1,q2,q3,q4⟩:=hg3.sx
 have hpf:(Gr.plain X Y Cel.blank).fit X Y:=JF (by omega) (by omega) (by omega) (by omega)
 have hc03:=(hc1.trans0 hc2).trans0 hc3
 simp -dsimp (disch:=first|omega|(simp only[go_sem,seval];try omega))only[go_sem,seval,Gr.val]
 refine OpX.gen fun w4 hw4=>?_
 have hc4:Chg [] w3 w4:=by rw[hw4];(repeat (first|exact Chg.refl _ _|apply Chg.drew|apply Chg.alloc|(refine Chg.set ?_ _ _ (by first|(left;simp;done)|(right;omega)))))
 have a7:w4.heap[w3.heap.size]?=some (.cells #[.int .i64 (Gr.plain X Y Cel.blank).w,.int .i64 (Gr.plain X Y Cel.blank).h,.slice (some ⟨nb3,0,none⟩) (Gr.plain X Y Cel.blank).cs.length cap3] 38):=by rw[hw4];simp -dsimp (disch:=first|omega|(simp only[go_sem,seval];try omega))only[go_sem,seval]
 clear hw4
 have hz3:=hc03.size
 have hz2:=(hc1.trans0 hc2).size
 have l4:=Aa a4
 have hz1:=hc1.size
 have hz23:=hc3.size
 have hz22:=hc2.size
 have a44:=hc4.keep (hc3.keep (hc2.keep a4 (by simp)) (by simp)) (by simp)
 have hc04:=hc03.trans0 hc4
 have G0:GC w w3.heap.size w4 (Gr.plain X Y Cel.blank):=⟨hc04,nb3,cap3,a7,q1,by omega,q4.chg0 hc4⟩
 obtain⟨t7,ht7⟩:∃t7,t7=w3.heap.size:=⟨_,rfl⟩
 have n47:w.heap.size≠t7:=by omega
 have g7:w.heap.size≤t7:=by omega
 rw[←ht7] at G0 ⊢
 clear a7
 have h4:=h.chg0 hc04
 refine OpX.call F7 rfl (Calls.ret (Hj h4) ?_)
 rintro v w5 ⟨rfl,rfl⟩
 refine OpX.call WT rfl (Calls.ret (Zx h4 hg wok) ?_)
 rintro v w6 ⟨hpo,hc6⟩
 have hpk:=Mt.panes_ok wok.lay.fits wok.lay.R
 have hpi:=Mt.panes_ids W.L.root W.L.R
 obtain⟨ap,cp,rfl,-,hps,-,-⟩:=hpo.form
 have a46:=hc6.keep a44 (by simp)
 have G6:GC w t7 w6 (Gr.plain X Y Cel.blank):=by
  obtain⟨nb,cap,b1,b2,b3,b4⟩:=G0.at_
  exact⟨G0.chg.trans0 hc6,nb,cap,hc6.keep b1 (by simp),b2,b3,b4.chg0 hc6⟩
 clear G0
 simp -dsimp (disch:=first|omega|(simp only[go_sem,seval];try omega))only[go_sem,seval]
 refine Loop1.st (fun q:Nat=>.int .i64 (q:Int)) (fun q w'=>q≤(W.L.root.panes W.L.R).length∧GC w t7 w' (CL (W.viewAt (S.backOf S.cur W)) (Gr.plain X Y Cel.blank) ((W.L.root.panes W.L.R).take q))∧Chg [t7] w6 w') (fun q=>(W.L.root.panes W.L.R).length-q) 0 rfl ⟨Nat.zero_le _,G6,Chg.refl _ _⟩ ?_
 rintro next i wi hn ⟨hi,GI,hci⟩
 have hpl:=Mt.panes_len W.L.root W.L.R
 have hfew:=wok.lay.few
 simp -dsimp (disch:=first|omega|(simp only[go_sem,seval];try omega))only[go_sem,seval]
 refine BrW.dec (fun g=>?_) (fun g=>?_)
 ·have hi':i<(W.L.root.panes W.L.R).length:=by omega
  have hxm:=List.getElem_mem hi'
  have ht:=Cm hi'
  have hxe:(W.L.root.panes W.L.R)[i]?=some (W.L.root.panes W.L.R)[i]:=List.getElem?_eq_getElem hi'
  have hfit:(CL (W.viewAt (S.backOf S.cur W)) (Gr.plain X Y Cel.blank) ((W.L.root.panes W.L.R).take i)).fit X Y:=FK hpf
  have hsn:=cO (W.viewAt (S.backOf S.cur W)) (Gr.plain X Y Cel.blank) ((W.L.root.panes W.L.R).take i) (W.L.root.panes W.L.R)[i]
  rw[←ht] at hsn
  generalize (W.L.root.panes W.L.R)[i]=x at *
  generalize CL (W.viewAt (S.backOf S.cur W)) (Gr.plain X Y Cel.blank) ((W.L.root.panes W.L.R).take i)=g at *
  obtain⟨nb,cap,b1,b2,b3,b4⟩:=GI.at_
  have hsi:Sx wi (some 59) Cg ap (W.L.root.panes W.L.R):=hps.chg hci fun b o e hne hm=>by
   simp only[List.mem_singleton] at hm
   obtain⟨nb6,cap6,c1,-⟩:=G6.at_
   exact hps.ne e hne c1 rfl hm
  obtain⟨b',o,rfl,hbl,hcell⟩:=hsi.get FF hxe
  obtain⟨xr,-⟩:=hpk x hxm
  have hxid:x.1∈W.L.root.ids:=by rw[←hpi];exact List.mem_map.2 ⟨x,hxm,rfl⟩
  obtain⟨p,hp,hpe⟩:=List.mem_map.1 ((wok.has x.1).2 hxid)
  simp only[Cg,Rc.cells] at hcell
  have l7:=Aa b1
  have hai:Chg [] wi (wi.alloc (.cells #[.int .i64 x.1,.int .i64 x.2.x,.int .i64 x.2.y,.int .i64 x.2.w,.int .i64 x.2.h] 59)).drew:=(Ay _ _).drew
  have h8:=(h.chg0 GI.chg).chg0 hai
  have hw8:=(h8.each W hWm).each p hp
  have hview:=aR h8 hg hp
  rw[hpe] at hview
  have hvw:W.viewAt (S.backOf S.cur W) x.1=CS p.M.S p.G.list (S.backOf S.cur W x.1):=by
   have:=HX (h8.each W hWm) hp
   rw[hpe] at this
   unfold Wn.viewAt
   rw[this]
  rw[hvw] at hsn
  have hvf:=Ry hw8.1.scr.ok (L:=p.G.list) (S.backOf S.cur W x.1)
  have e1:(i:Int)+1=((i+1:Nat):Int):=by omega
  have c0:=xr.x0
  have c1:=xr.y0
  have c2:=xr.xw
  have c3:=xr.yh
  have c4:=xr.w0
  have c5:=xr.h0
  simp -dsimp (disch:=first|omega|(simp only[go_sem,seval];try omega))only[go_sem,seval,hcell,b1]
  have a8:(wi.alloc (.cells #[.int .i64 x.1,.int .i64 x.2.x,.int .i64 x.2.y,.int .i64 x.2.w,.int .i64 x.2.h] 59)).drew.heap[wi.heap.size]?=some (.cells #[.int .i64 x.1,.int .i64 x.2.x,.int .i64 x.2.y,.int .i64 x.2.w,.int .i64 x.2.h] 59):=by simp -dsimp (disch:=first|omega|(simp only[go_sem,seval];try omega))only[go_sem,seval]
  have b8:=hai.keep b1 (by simp)
  have b48:=b4.chg0 hai
  have hzi:(wi.alloc (.cells #[.int .i64 x.1,.int .i64 x.2.x,.int .i64 x.2.y,.int .i64 x.2.w,.int .i64 x.2.h] 59)).drew.heap.size=wi.heap.size+1:=by simp -dsimp (disch:=first|omega|(simp only[go_sem,seval];try omega))only[go_sem,seval]
  generalize (wi.alloc (.cells #[.int .i64 x.1,.int .i64 x.2.x,.int .i64 x.2.y,.int .i64 x.2.w,.int .i64 x.2.h] 59)).drew=w8 at *
  refine OpX.call Rf rfl (Calls.ret (hview) ?_)
  rintro v w9 ⟨hv9,hc9⟩
  obtain⟨nb9,cap9,rfl,p1,p2,p3,p4⟩:=hv9.sx
  have a9:=hc9.keep a8 (by simp)
  have b9:=hc9.keep b8 (by simp)
  simp -dsimp (disch:=first|omega|(simp only[go_sem,seval];try omega))only[go_sem,seval,Gr.val,a9,b9]
  have hbl:=Zn (X:=x.2.x) (Y:=x.2.y) hfit.ok hfit.r hvf.ok hvf.r (b48.chg0 hc9) cap b2 p4 cap9 p1 (by omega) (by omega)
  simp only[Gr.val] at hbl
  refine OpX.call ZA rfl (Calls.ret (hbl) ?_)
  rintro v w10 ⟨hv10,hc10⟩
  rw[←hsn] at hv10
  obtain⟨nb10,cap10,rfl,r1,r2,r3,r4⟩:=hv10.sx
  have b10:=hc10.keep b9 (by simp)
  have l10:=Aa b10
  have hz9:=hc9.size
  have hz0i:=GI.chg.size
  simp -dsimp (disch:=first|omega|(simp only[go_sem,seval];try omega))only[go_sem,seval,Gr.val,b10,e1]
  have hcs:∀o,Chg [t7] w10 (Ac w10 t7 o):=fun o=>(Chg.refl _ _).set _ _ (by simp)
  refine hn (i+1) _ ⟨by omega,⟨(((GI.chg.trans0 hai).trans0 hc9).trans0 hc10).trans (hcs _) (by simp;omega),nb10,cap10,As _ _ _ _ rfl l10,r1,by omega,r4.chg (hcs _) fun b o e hne hm=>?_⟩,(((hci.trans0 hai).trans0 hc9).trans0 hc10).trans (hcs _) (by simp)⟩ (by omega)
  cases e
  simp at hm
  omega
 ·have hil:i=(W.L.root.panes W.L.R).length:=by omega
  subst hil
  rw[List.take_length] at GI
  have hgf:(CL (W.viewAt (S.backOf S.cur W)) (Gr.plain X Y Cel.blank) (W.L.root.panes W.L.R)).fit X Y:=FK hpf
  obtain⟨gb,hgb⟩:∃gb,gb=CL (W.viewAt (S.backOf S.cur W)) (Gr.plain X Y Cel.blank) (W.L.root.panes W.L.R):=⟨_,rfl⟩
  rw[←hgb] at GI hgf
  have a4i:=hci.keep a46 (by simpa using n47)
  have hAi:=h.chg0 GI.chg
  refine OpX.call Ma rfl (Calls.ret (OP hAi hg wok) ?_)
  rintro v wb ⟨hbo,hcb⟩
  have hbk:=Mt.bords_ok wok.lay.fits wok.lay.R
  have hbn:=Mt.bords_len W.L.root W.L.R
  obtain⟨ab,cb,rfl,-,hbs,-,-⟩:=hbo.form
  have a4b:=hcb.keep a4i (by simp)
  have GB:GC w t7 wb gb:=by
   obtain⟨nb,cap,b1,b2,b3,b4⟩:=GI.at_
   exact⟨GI.chg.trans0 hcb,nb,cap,hcb.keep b1 (by simp),b2,b3,b4.chg0 hcb⟩
  simp -dsimp (disch:=first|omega|(simp only[go_sem,seval];try omega))only[go_sem,seval]
  refine Loop1.st (fun q:Nat=>.int .i64 (q:Int)) (fun q w'=>q≤(W.L.root.bords W.L.R).length∧GC w t7 w' (Ci gb ((W.L.root.bords W.L.R).take q))∧Chg [t7] wb w') (fun q=>(W.L.root.bords W.L.R).length-q) 0 rfl ⟨Nat.zero_le _,GB,Chg.refl _ _⟩ ?_
  rintro next2 i wj hn2 ⟨hi,GJ,hcj⟩
  simp -dsimp (disch:=first|omega|(simp only[go_sem,seval];try omega))only[go_sem,seval]
  refine BrW.dec (fun g2=>?_) (fun g2=>?_)
  ·have hi':i<(W.L.root.bords W.L.R).length:=by omega
   have hxm:=List.getElem_mem hi'
   have ht:=Cm hi'
   have hxe:(W.L.root.bords W.L.R)[i]?=some (W.L.root.bords W.L.R)[i]:=List.getElem?_eq_getElem hi'
   have hfit:(Ci gb ((W.L.root.bords W.L.R).take i)).fit X Y:=E8 hgf
   have hsn:=MG gb ((W.L.root.bords W.L.R).take i) (W.L.root.bords W.L.R)[i]
   rw[←ht] at hsn
   generalize (W.L.root.bords W.L.R)[i]=x at *
   generalize Ci gb ((W.L.root.bords W.L.R).take i)=g at *
   obtain⟨nb,cap,b1,b2,b3,b4⟩:=GJ.at_
   have hsi:Sx wj (some 49) Rc.cells ab (W.L.root.bords W.L.R):=hbs.chg hcj fun b o e hne hm=>by
    simp only[List.mem_singleton] at hm
    obtain⟨nb6,cap6,c1,-⟩:=GB.at_
    exact hbs.ne e hne c1 rfl hm
   obtain⟨b',o,rfl,hbl,hcell⟩:=hsi.get (m:=4) (fun _=>rfl) hxe
   obtain⟨xr,-⟩:=hbk x hxm
   have c0:=xr.x0
   have c1:=xr.y0
   have c2:=xr.xw
   have c3:=xr.yh
   have c4:=xr.w0
   have c5:=xr.h0
   have e1:(i:Int)+1=((i+1:Nat):Int):=by omega
   simp only[Rc.cells] at hcell
   have l7:=Aa b1
   simp -dsimp (disch:=first|omega|(simp only[go_sem,seval];try omega))only[go_sem,seval,hcell]
   have hai:Chg [] wj (wj.alloc (.cells #[.int .i64 x.x,.int .i64 x.y,.int .i64 x.w,.int .i64 x.h] 49)):=Ay _ _
   have a8:(wj.alloc (.cells #[.int .i64 x.x,.int .i64 x.y,.int .i64 x.w,.int .i64 x.h] 49)).heap[wj.heap.size]?=some (.cells #[.int .i64 x.x,.int .i64 x.y,.int .i64 x.w,.int .i64 x.h] 49):=by simp -dsimp (disch:=first|omega|(simp only[go_sem,seval];try omega))only[go_sem,seval]
   have hz8:(wj.alloc (.cells #[.int .i64 x.x,.int .i64 x.y,.int .i64 x.w,.int .i64 x.h] 49)).heap.size=wj.heap.size+1:=by simp -dsimp (disch:=first|omega|(simp only[go_sem,seval];try omega))only[go_sem,seval]
   generalize (wj.alloc (.cells #[.int .i64 x.x,.int .i64 x.y,.int .i64 x.w,.int .i64 x.h] 49))=w8 at *
   refine OpX.call DO rfl (Calls.ret (DX w8) ?_)
   rintro v w9 ⟨rfl,hc9⟩
   have a9:=hc9.keep a8 (by simp)
   have l9:=Aa a9
   simp only[Cel.val]
   simp -dsimp (disch:=first|omega|(simp only[go_sem,seval];try omega))only[go_sem,seval]
   refine DS (F:=Join0 _ _) fun w10 hw10=>?_
   have hc10:Chg [] w9 w10:=by rw[hw10];(repeat (first|exact Chg.refl _ _|apply Chg.drew|apply Chg.alloc|(refine Chg.set ?_ _ _ (by first|(left;simp;done)|(right;omega)))))
   have d10:w10.heap[w9.heap.size]?=some (.cells #[.int .i32 45,.int .u8 Cel.blank.fg.toNat,.int .u8 Cel.blank.bg.toNat,.int .u8 Cel.blank.a.toNat] 43):=by rw[hw10];simp -dsimp (disch:=first|omega|(simp only[go_sem,seval];try omega))only[go_sem,seval]
   clear hw10
   have a10:=hc10.keep a9 (by simp)
   have hz9:=hc9.size
   have hz10:=hc10.size
   refine Join0.cut (fun w'=>w'.heap[w9.heap.size]?=some (.cells (BM x).cells.toArray 43)∧Chg [w9.heap.size] w10 w') ?_ ?_
   ·simp -dsimp (disch:=first|omega|(simp only[go_sem,seval];try omega))only[go_sem,seval,a10]
    refine BrW.dec (fun g3=>?_) (fun g3=>?_)
    ·have l10:=Aa d10
     simp -dsimp (disch:=first|omega|(simp only[go_sem,seval];try omega))only[go_sem,seval,d10]
     have e:BM x=⟨124,0,0,0⟩:=by unfold BM;rw[if_pos g3]
     rw[e]
     exact⟨rfl,(Chg.refl _ _).set _ _ (by simp)⟩
    ·have e:(BM x).cells.toArray=#[.int .i32 45,.int .u8 Cel.blank.fg.toNat,.int .u8 Cel.blank.bg.toNat,.int .u8 Cel.blank.a.toNat]:=by unfold BM;rw[if_neg g3];rfl
     rw[e]
     exact⟨d10,Chg.refl _ _⟩
   ·rintro w11 ⟨d11,hc11⟩
    have hcj11:Chg [] wj w11:=(((hai.trans0 hc9).trans0 hc10).trans hc11 (by simp;omega))
    have b11:=hcj11.keep b1 (by simp)
    have a11:=hc11.keep a10 (by simp;omega)
    have b411:=b4.chg0 hcj11
    have l11:=Aa b11
    simp only[Cel.cells] at d11
    simp -dsimp (disch:=first|omega|(simp only[go_sem,seval];try omega))only[go_sem,seval,b11,a11,d11]
    have hfl:=Ir (X:=x.x) (Y:=x.y) (W:=x.w) (H:=x.h) hfit.ok hfit.r b411 cap b2 (O2 x) (by omega) (by omega) (by omega) (by omega)
    simp only[Gr.val,Cel.val] at hfl
    refine OpX.call HA rfl (Calls.ret (hfl) ?_)
    rintro v w12 ⟨hv12,hc12⟩
    rw[←hsn] at hv12
    obtain⟨nb12,cap12,rfl,r1,r2,r3,r4⟩:=hv12.sx
    have b12:=hc12.keep b11 (by simp)
    have l12:=Aa b12
    have hz0j:=GJ.chg.size
    have hz11:=hcj11.size
    simp -dsimp (disch:=first|omega|(simp only[go_sem,seval];try omega))only[go_sem,seval,Gr.val,b12,e1]
    have hcs:∀o,Chg [t7] w12 (Ac w12 t7 o):=fun o=>(Chg.refl _ _).set _ _ (by simp)
    refine hn2 (i+1) _ ⟨by omega,⟨((GJ.chg.trans0 hcj11).trans0 hc12).trans (hcs _) (by simp;omega),nb12,cap12,As _ _ _ _ rfl l12,r1,by omega,r4.chg (hcs _) fun b o e hne hm=>?_⟩,((hcj.trans0 hcj11).trans0 hc12).trans (hcs _) (by simp)⟩ (by omega)
    cases e
    simp at hm
    omega
  ·have hil:i=(W.L.root.bords W.L.R).length:=by omega
   subst hil
   rw[List.take_length] at GJ
   have hlf:(Ci gb (W.L.root.bords W.L.R)).fit X Y:=E8 hgf
   have hLe:Ci gb (W.L.root.bords W.L.R)=S.gridL W:=by unfold Ss.gridL;rw[hgb,hX,hY];rfl
   rw[hLe] at GJ hlf
   obtain⟨nb,cap,b1,b2,b3,b4⟩:=GJ.at_
   have a4j:=hcj.keep a4b (by simpa using n47)
   have l7:=Aa b1
   simp -dsimp (disch:=first|omega|(simp only[go_sem,seval];try omega))only[go_sem,seval,b1]
   have hdj:Chg [] wj wj.drew:=(Chg.refl _ _).drew
   refine OpX.call IG rfl (Calls.ret (HC ((h.chg0 GJ.chg).chg0 hdj) ok hands hh) ?_)
   rintro v wk ⟨ks,k1,k2,rfl,hck⟩
   have hck:Chg [] wj wk:=hdj.trans0 hck
   have hst:(Cs ks S.cur S.cop S.back hands).length≤1000:=by
    have e1:=Ia S.cur ks (fun k hk=>by
     obtain⟨U,hU,e⟩:=List.mem_map.1 (k1.mem_iff.1 hk)
     have:=(ok.win U hU).2.2.2
     omega)
    have e2:=EI (n:=S.back) (by have:=ok.back1;omega)
    have e3:=EI hh
    have e4:=h.len ok
    have e5:=k1.length_eq
    rw[List.length_map] at e5
    have f1:(if S.cop then[32,99,111,112,121,32]++AN S.back.toNat else([]:List UInt8)).length≤30:=by split<;>simp;omega
    have f2:(if 0<hands then[32,104,97,110,100,115,32]++AN hands.toNat else([]:List UInt8)).length≤30:=by split<;>simp;omega
    unfold Cs
    rw[List.length_append,List.length_append]
    omega
   generalize htx:Cs ks S.cur S.cop S.back hands=tx at *
   have bk:=hck.keep b1 (by simp)
   have hzk:=hck.size
   simp -dsimp (disch:=first|omega|(simp only[go_sem,seval];try omega))only[go_sem,seval,bk]
   refine OpX.call WS rfl (Calls.ret (cu wk X (by omega) tx (by omega)) ?_)
   rintro v wl ⟨hrow,hcl⟩
   obtain⟨ar,cr,rfl,-,hrs,-,-⟩:=hrow.form
   have bl:=hcl.keep bk (by simp)
   have hzl:=hcl.size
   have hckl:=hck.trans0 hcl
   have hrl:(Fk X tx).length=X:=AT _ _
   simp -dsimp (disch:=first|omega|(simp only[go_sem,seval];try omega))only[go_sem,seval,bl]
   have hpt:=Mc (X:=0) (Y:=(Y:Int)-1) hlf.ok hlf.r (b4.chg0 hckl) cap b2 hrs cr (by omega) (by omega) (by omega)
   simp only[Gr.val] at hpt
   refine OpX.call N6 rfl (Calls.ret (hpt) ?_)
   rintro v wm ⟨hv,hcm⟩
   have hgr:(S.gridL W).put 0 ((Y:Int)-1) (Fk X tx)=S.grid W tx:=by unfold Ss.grid;rw[hX,hY];rfl
   rw[hgr] at hv
   obtain⟨nbm,capm,rfl,r1,r2,r3,r4⟩:=hv.sx
   have a4m:=(hckl.trans0 hcm).keep a4j (by simp)
   have l4m:=Aa a4m
   have hzj:=GJ.chg.size
   simp -dsimp (disch:=first|omega|(simp only[go_sem,seval];try omega))only[go_sem,seval,Gr.val,a4m]
   have hcs:∀o,Chg [w.heap.size] wm (Ac wm w.heap.size o):=fun o=>(Chg.refl _ _).set _ _ (by simp)
   obtain⟨nb',cap',sp',ev,v1,v2,v3⟩:=hv
   refine hK _ _ ⟨W,ks,hg,k1,k2,?_,((GJ.chg.trans0 hckl).trans0 hcm).trans (hcs _) (by simp)⟩
   rw[htx]
   exact⟨nb',cap',sp',ev,v1,by omega,(hcs _).keep v3 (by simp;omega)⟩
end
theorem Wr (w:World) (x y:Int):Calls Tryz.prog 7 #[.agg #[.int .i64 x,.int .i64 y]] w
  (Ab fun v w'=>v=.tuple #[.int .i64 (D6 x 40 1),.int .i64 (D6 y 19 2)]∧Chg [] w w'):=by
 have b1:=GW x 40 (by omega)
 have b2:=GW y 19 (by omega)
 have b3:=GW (x.tmod 40+40) 40 (by omega)
 have b4:=GW (y.tmod 19+19) 19 (by omega)
 apply RB
 intro K hK
 unfold NH
 simp -dsimp (disch:=first|omega|(simp only[go_sem,seval];try omega))only[go_sem,seval]
 exact hK _ _ ⟨rfl,(Ay _ _).drew⟩
theorem Sq (w:World) (e:Ev):Calls Tryz.prog 10 #[e.val] w (Ab fun v w'=>∃e':Ev,v=e'.val∧Chg [] w w'):=by
 apply af
 intro K hK
 unfold NU
 unfold Ev.val
 simp -dsimp (disch:=first|omega|(simp only[go_sem,seval];try omega))only[go_sem,seval]
 refine DS (F:=Join0 _ _) fun w1 hw1=>?_
 have hc1:Chg [] w w1:=by rw[hw1];(repeat (first|exact Chg.refl _ _|apply Chg.drew|apply Chg.alloc|(refine Chg.set ?_ _ _ (by first|(left;simp;done)|(right;omega)))))
 have a1:w1.heap[w.heap.size]?=some (.cells #[.int .i64 e.kind,.int .i64 e.win,.int .i64 e.pane,.string (Ap e.s),.int .i64 e.w,.int .i64 e.h] 34):=by rw[hw1];simp -dsimp (disch:=first|omega|(simp only[go_sem,seval];try omega))only[go_sem,seval]
 have a2:w1.heap[w.heap.size+1]?=some (.cells #[.int .i64 0,.int .i64 0,.int .i64 0,.string (Ap []),.int .i64 0,.int .i64 0] 34):=by rw[hw1];simp -dsimp (disch:=first|omega|(simp only[go_sem,seval];try omega))only[go_sem,seval];rfl
 clear hw1
 refine Join0.cut (fun w'=>∃l:List UInt8,w'.heap[w.heap.size]?=some (.cells #[.int .i64 e.kind,.int .i64 e.win,.int .i64 e.pane,.string (Ap l),.int .i64 e.w,.int .i64 e.h] 34)∧w'.heap[w.heap.size+1]?=some (.cells #[.int .i64 0,.int .i64 0,.int .i64 0,.string (Ap []),.int .i64 0,.int .i64 0] 34)∧Chg [] w w') ?_ ?_
 ·have l1:=Aa a1
  simp -dsimp (disch:=first|omega|(simp only[go_sem,seval];try omega))only[go_sem,seval,a1]
  refine BrW.dec (fun g=>?_) (fun g=>⟨e.s,a1,a2,hc1⟩)
  simp -dsimp (disch:=first|omega|(simp only[go_sem,seval];try omega))only[go_sem,seval,a1]
  exact⟨((Ap e.s).extract 0 40).toList,by rw[Nt],a2,hc1.set _ _ (.inr (Nat.le_refl _))⟩
 ·rintro w2 ⟨l,c1,c2,hc2⟩
  have l1:=Aa c1
  have l2:=Aa c2
  simp -dsimp (disch:=first|omega|(simp only[go_sem,seval];try omega))only[go_sem,seval,c1,c2]
  exact hK _ _ ⟨⟨_,_,_,l,_,_⟩,rfl,(hc2.set _ _ (.inr (Nat.le_refl _))).set _ _ (.inr (by omega))⟩
theorem Vo:AN 1=[49]:=by rw[AN];rfl
theorem Zd (w:World):Calls Tryz.prog 6 #[] w (Ab fun v w'=>v=.bool true∧Chg [] w w'):=by
 apply bL
 intro K hK
 unfold KO
 refine OpX.call OA rfl (Calls.ret (Kg w 9 4 5) ?_)
 rintro v w1 (⟨hno,-⟩|⟨-,s,S,rfl,A1,ok1,fr,hc1⟩)
 ·exact absurd ⟨by decide,by decide,by decide,by decide⟩ hno
 simp -dsimp (disch:=first|omega|(simp only[go_sem,seval];try omega))only[go_sem,seval]
 obtain⟨V,hw,hn,hact,t,hroot⟩:=fr.wins
 refine OpX.call My rfl (Calls.ret (L0 A1 ok1 hc1.size (by decide) ⟨1,0,0,[2,37],0,0⟩) ?_)
 rintro v w2 ⟨S',A2,ok2,T2,rel⟩
 have hc2:Chg [] w w2:=T2.base hc1 A1.lo
 have hks:BX S.cop S.pre [2,37]=⟨false,false,[⟨2,0,[]⟩],[]⟩:=by rw[fr.cop,fr.pre];rfl
 have hfin:S'.cur=1∧S'.cop=false∧S'.wins.map (·.n)=[1]:=by
  cases rel with
  | keys vs h1 h2 run h3 h4 =>
   dsimp only at run
   rw[hks] at run
   obtain⟨word,v0,rel,-⟩:=run.one
   obtain⟨W,hg,hcur,hd⟩:=rel.k2 rfl
   have hcur:S'.cur=1:=by rw[hcur];exact fr.cur
   have hWV:W=V:=by
    have:=(Ss.get_mem hg).1
    rw[show({ S with cop:=false,pre:=false }:Ss).wins=S.wins from rfl,hw] at this
    simpa using this
   subst hWV
   rcases hd with ⟨-,hcop,W',nb,n1,n2,R,-,hn',-,hwins⟩|hd
   ·refine⟨hcur,hcop,?_⟩
    rw[hwins,Gf]
    show S.wins.map (·.n)=[1]
    rw[hw]
    simp [hn]
   ·exfalso
    rcases hd with hd|⟨nb,R,hR,hlt⟩
    ·rw[hroot] at hd
     simp [Mt.ids] at hd
    ·rw[hroot] at hR
     simp only[Mt.all,List.mem_singleton,Prod.mk.injEq] at hR
     obtain⟨-,rfl⟩:=hR
     have hR0:=(ok1.win W (by rw[hw];simp)).2.1
     rw[hR0,fr.w] at hlt
     simp [Rc.len] at hlt
  | long h=>simp at h
  | outN _ h=>cases h
  | outY _ _ _ _ _ h=>cases h
  | sizeA _ h=>cases h
  | sizeN _ h=>cases h
  | sizeY _ _ h=>cases h
  | kind _ h=>exact absurd rfl h
 obtain⟨f1,f2,f3⟩:=hfin
 refine OpX.call IG rfl (Calls.ret (HC A2 ok2 0 (by decide)) ?_)
 rintro v w3 ⟨ks,k1,k2,rfl,hc3⟩
 rw[f3] at k1
 have hk1:=List.perm_singleton.1 k1
 subst hk1
 have hst:Cs [1] S'.cur S'.cop S'.back 0=[32,49,42]:=by
  rw[f1,f2]
  unfold Cs BA
  simp only[List.map_cons,List.map_nil]
  rw[show(1:Int).toNat=1 from rfl,Vo]
  rfl
 rw[hst]
 simp -dsimp (disch:=first|omega|(simp only[go_sem,seval];try omega))only[go_sem,seval]
 refine hK _ _ ⟨?_,hc2.trans0 hc3⟩
 show Value.bool ([32,49,42] == (Ap [32,49,42]).toList)=_
 rw[Re]
 rfl
end Go.Proofs.YtelplojmbjnplaaGreat
namespace Go.Proofs.YtelplojmbjnplaaGreat
open Lyc Go Go.Joins Go.ChangeShapes Go.WideShapes Go.ChangeAt Go.RowKit Go.Deep
set_option maxRecDepth 100000
theorem own:ownKnob Tryz.prog.godebug=none:=by kernel_rfl
theorem ay:laidOutB Tryz.prog=true:=by kernel_rfl
theorem Wg {H:Type} {enc:TypeId × Value→H} {w:World} {base b0:Nat} {spare:Nat→Bool} {held:Bool} {v:Value} {d:DataW H} {p:List MemPlace} (hv:Value.okWide Tryz.prog w .any b0 23 v) (h:DataW.Trod enc Tryz.prog w base spare held 23 v d p):∃x y:Int,v=.agg #[.int .i64 x,.int .i64 y]:=by
 obtain⟨x0,x1,y0,y1,n,rfl,-,-,t0,t1⟩:=open_agg2 Tryz.underlying23 (by kernel_rfl) (by kernel_rfl) hv h
 obtain⟨k0,e0,-,-⟩:=DataW.trod_int Tryz.underlying3 t0
 obtain⟨k1,e1,-,-⟩:=DataW.trod_int Tryz.underlying3 t1
 cases e0;cases e1
 exact⟨k0,k1,rfl⟩
theorem Uc {H:Type} {enc:TypeId × Value→H} {w:World} {base:Nat} {spare:Nat→Bool} {held:Bool} (n:Nat) (cs:List Value) (y:DataW H × List MemPlace) (h:DataW.trod enc Tryz.prog w base spare held n 34 cs=some y):∃e:Ev,cs=evF e∧True:=by
 have hlen:cs.length=6:=by
  obtain⟨-,-,-,-,hl,-⟩:=DataW.trod_struct Tryz.underlying34 h
  rw[hl];kernel_rfl
 obtain⟨_,_,f0⟩:=ES Tryz.underlying34 h 0 _ rfl (ft:=3) (off:=0) (sz:=1) rfl rfl (by kernel_rfl)
 obtain⟨_,_,f1⟩:=ES Tryz.underlying34 h 1 _ rfl (ft:=3) (off:=1) (sz:=1) rfl rfl (by kernel_rfl)
 obtain⟨_,_,f2⟩:=ES Tryz.underlying34 h 2 _ rfl (ft:=3) (off:=2) (sz:=1) rfl rfl (by kernel_rfl)
 obtain⟨_,_,f3⟩:=ES Tryz.underlying34 h 3 _ rfl (ft:=9) (off:=3) (sz:=1) rfl rfl (by kernel_rfl)
 obtain⟨_,_,f4⟩:=ES Tryz.underlying34 h 4 _ rfl (ft:=3) (off:=4) (sz:=1) rfl rfl (by kernel_rfl)
 obtain⟨_,_,f5⟩:=ES Tryz.underlying34 h 5 _ rfl (ft:=3) (off:=5) (sz:=1) rfl rfl (by kernel_rfl)
 obtain⟨k0,e0,-,-⟩:=Fm Tryz.underlying3 f0
 obtain⟨k1,e1,-,-⟩:=Fm Tryz.underlying3 f1
 obtain⟨k2,e2,-,-⟩:=Fm Tryz.underlying3 f2
 obtain⟨s3,e3,-,-⟩:=DataW.trod_string Tryz.underlying9 f3
 obtain⟨k4,e4,-,-⟩:=Fm Tryz.underlying3 f4
 obtain⟨k5,e5,-,-⟩:=Fm Tryz.underlying3 f5
 refine⟨⟨k0,k1,k2,s3.toList,k4,k5⟩,?_,trivial⟩
 have s:=EC e0
 rw[List.drop_zero,EC e1,EC e2,EC e3,EC e4,EC e5,List.drop_eq_nil_of_le (by omega)] at s
 rw[s]
 unfold evF
 rw[Nt]
 rfl
theorem RY {H:Type} {enc:TypeId × Value→H} {w:World} {base b0:Nat} {spare:Nat→Bool} {held:Bool} {v:Value} {d:DataW H} {p:List MemPlace} (hv:Value.okWide Tryz.prog w .any b0 24 v) (h:DataW.Trod enc Tryz.prog w base spare held 24 v d p) :
  ∃(a:Option Addr) (l:List Ev) (cap:Nat),v=.slice a l.length cap∧Sx w none evF a l∧l.length≤maxLen:=by
 obtain⟨a,l,cap,rfl,hs,-,hm,-⟩:=TU (m:=6) evF (fun _=>True) Tryz.underlying24 (by kernel_rfl) (by omega) Qk (fun n cs y h=>Uc n cs y h) hv h
 exact⟨a,l,cap,rfl,hs,hm⟩
end Go.Proofs.YtelplojmbjnplaaGreat
namespace Go.Proofs.YtelplojmbjnplaaGreat
open Lyc Go
theorem Yd {g:Gr} (hg:g.ok) {top fin:Int} {f:Nat→List Cel} (hf:∀y,y<g.h→top≤(y:Int)→(y:Int)<fin→(f y).length=g.w) {x y:Nat} (hx:x<g.w) (hy:y<g.h) {c:Cel} (hc:c.single=true)
  (h:top≤(y:Int)→(y:Int)<fin→(f y)[x]?=some c) (h':¬(top≤(y:Int)∧(y:Int)<fin)→g.at x y=c):(g.chg top fin f).at x y=c:=by
 have hat:=Gr.chg_at hg hf hx hy
 by_cases hyy:top≤(y:Int)∧(y:Int)<fin
 ·rw[if_pos hyy,Eu _ _ _ (h hyy.1 hyy.2),H9 hc] at hat
  simpa using hat
 ·rw[if_neg hyy,hg.row_get hx hy,h' hyy] at hat
  simpa using hat
theorem S7 {g:Gr} (hg:g.ok) {top fin:Int} {f:Nat→List Cel} (hf:∀y,y<g.h→top≤(y:Int)→(y:Int)<fin→(f y).length=g.w) {x y:Nat} (hx:x<g.w) (hy:y<g.h) (hn:¬(top≤(y:Int)∧(y:Int)<fin)):(g.chg top fin f).at x y=g.at x y:=by
 have hat:=Gr.chg_at hg hf hx hy
 rw[if_neg hn,hg.row_get hx hy] at hat
 simpa using hat
theorem YV {g:Gr} (hg:g.ok) {Y:Nat} (hY:Y+1=g.h) {l:List Cel} (hl:l.length=g.w) {x:Nat} (hx:x<g.w) {c:Cel} (hlx:l[x]?=some c) (hc:c.single=true):(g.put 0 Y l).at x Y=c:=by
 have hs:=EP (x:=(Y:Int)) (n:=1) (size:=(g.h:Int)) (i:=(Y:Int)) (by omega) (by omega)
 have hsx:=EP (x:=0) (n:=(l.length:Int)) (size:=(g.w:Int)) (i:=(x:Int)) (by omega) (by omega)
 refine Yd hg (fun _ _ _ _=>AT _ _) hx (by omega) hc (fun h1 h2=>?_) (fun hn=>absurd (hs.2 ⟨by omega,by omega⟩) hn)
 rw[Ds hx,if_pos (hsx.2 ⟨by omega,by omega⟩)]
 rw[List.getD_eq_getElem?_getD,show((x:Int)-0).toNat=x by omega,hlx]
 rfl
theorem Xr {g:Gr} (hg:g.ok) {Y:Nat} (hY:Y+1=g.h) {l:List Cel} {x y:Nat} (hx:x<g.w) (hy:y<Y):(g.put 0 Y l).at x y=g.at x y:=by
 have hs:=EP (x:=(Y:Int)) (n:=1) (size:=(g.h:Int)) (i:=(y:Int)) (by omega) (by omega)
 exact S7 hg (fun _ _ _ _=>AT _ _) hx (by omega) fun hn=>by have:=hs.1 hn;omega
theorem KK {w h:Nat} {x y:Nat} (hx:x<w) (hy:y<h):∀(n:Nat) (l:List Rc) (g:Gr),l.length=n→g.fit w h→(∃r∈l,r.x≤x∧(x:Int)<r.x+r.w∧r.y≤y∧(y:Int)<r.y+r.h)→∃r',(Ci g l).at x y=BM r'
 | 0,l,g,hl,_,⟨r,hr,_⟩=>by
  rw[List.eq_nil_of_length_eq_zero hl] at hr
  cases hr
 | n+1,l,g,hl,hg,hin=>by
  have hne:l≠[]:=fun e=>by rw[e] at hl;simp at hl
  obtain⟨l0,r0,rfl⟩:∃l0 r0,l=l0++[r0]:=⟨l.dropLast,l.getLast hne,(List.dropLast_concat_getLast hne).symm⟩
  rw[MG]
  have hf:(Ci g l0).fit w h:=E8 hg
  have hfa:=cB hf.ok hf.r (O2 r0) (X:=r0.x) (Y:=r0.y) (W:=r0.w) (H:=r0.h) (x:=x) (y:=y) (by rw[hf.w];exact hx) (by rw[hf.h];exact hy)
  by_cases h0:r0.x≤x∧(x:Int)<r0.x+r0.w∧r0.y≤y∧(y:Int)<r0.y+r0.h
  ·exact⟨r0,hfa.1 h0⟩
  ·obtain⟨r,hr,hrin⟩:=hin
   have hr0:r∈l0:=by
    rcases List.mem_append.1 hr with h|h
    ·exact h
    ·simp at h;subst h;exact absurd hrin h0
   obtain⟨r',e⟩:=KK hx hy n l0 g (by simpa using hl) hg ⟨r,hr0,hrin⟩
   refine⟨r',?_⟩
   by_cases hsame:((Ci g l0).fill r0.x r0.y r0.w r0.h (BM r0)).at x y=(Ci g l0).at x y
   ·rw[hsame,e]
   ·have:=(hfa.2 h0 hsame).2.1
    rw[e] at this
    exact absurd this (by show ¬64≤(0#8).toNat;decide)
theorem ZP:∀(n:Nat),∀b∈AN n,48≤b.toNat∧b.toNat≤57:=by
 intro n
 induction n using Nat.strongRecOn with
 | _ n ih =>
  rw[AN]
  split
  ·intro b hb
   simp only[List.mem_singleton] at hb
   subst hb
   rw[UInt8.toNat_ofNat']
   omega
  ·intro b hb
   rcases List.mem_append.1 hb with hb|hb
   ·exact ih (n / 10) (by omega) b hb
   ·simp only[List.mem_singleton] at hb
    subst hb
    rw[UInt8.toNat_ofNat']
    omega
theorem aU (ks:List Int) (cur:Int) (cop:Bool) (back hands:Int):∀b∈Cs ks cur cop back hands,32≤b.toNat∧b.toNat≤126:=by
 have hd:∀n,∀b∈AN n,32≤b.toNat∧b.toNat≤126:=fun n b hb=>by have:=ZP n b hb;omega
 intro b hb
 unfold Cs at hb
 rw[List.mem_append,List.mem_append] at hb
 rcases hb with (hb|hb)|hb
 ·unfold BA at hb
  obtain⟨l,hl,hb⟩:=List.mem_flatten.1 hb
  obtain⟨k,-,rfl⟩:=List.mem_map.1 hl
  rw[List.mem_append,List.mem_append] at hb
  rcases hb with (hb|hb)|hb
  ·simp at hb;subst hb;decide
  ·exact hd _ b hb
  ·split at hb
   ·simp at hb;subst hb;decide
   ·cases hb
 ·split at hb
  ·rcases List.mem_append.1 hb with hb|hb
   ·simp only[List.mem_cons,List.not_mem_nil,or_false] at hb
    rcases hb with rfl|rfl|rfl|rfl|rfl|rfl<;>decide
   ·exact hd _ b hb
  ·cases hb
 ·split at hb
  ·rcases List.mem_append.1 hb with hb|hb
   ·simp only[List.mem_cons,List.not_mem_nil,or_false] at hb
    rcases hb with rfl|rfl|rfl|rfl|rfl|rfl|rfl<;>decide
   ·exact hd _ b hb
  ·cases hb
theorem UM {t:List UInt8} (ht:∀b∈t,32≤b.toNat∧b.toNat≤126) (x:Nat):(AH t x).single=true:=by
 have hr:32≤(AH t x).r∧(AH t x).r≤126:=by
  unfold AH
  cases h:t[x]? with
  | none=>simp
  | some b =>
   have:=ht b (List.mem_of_getElem? h)
   simp only[Option.map_some,Option.getD_some]
   omega
 have hw:AO (AH t x).r=1:=by
  unfold AO
  rw[if_neg (by omega),if_pos (by omega)]
 have e:AH t x=⟨(AH t x).r,0,0,32⟩:=rfl
 generalize (AH t x).r=r at *
 rw[e]
 unfold Cel.single Cel.check
 rw[show(⟨r,0,0,32⟩:Cel).tail=false from(by show(decide (¬(32#8 &&& 128#8=0#8)))=false;decide),show(⟨r,0,0,32⟩:Cel).wide=false from(by show(decide (¬(32#8 &&& 64#8=0#8)))=false;decide),show(⟨r,0,0,32⟩:Cel).plain=true from(by show(decide (32#8 &&& 192#8=0#8))=true;decide)]
 simp [hw]
section
variable {base:Nat} {w:World} {s:Nat} {S:Ss} {lim:Int}
theorem IU (ok:S.ok lim) (W:Wn):(S.gridL W).fit S.w.toNat S.h.toNat:=by
 have a:=ok.w0
 have b:=ok.w1
 have c:=ok.h0
 have d:=ok.h1
 exact E8 (FK (JF (by omega) (by omega) (by omega) (by omega)))
theorem RU (ok:S.ok lim) (W:Wn) (t:List UInt8):(S.grid W t).fit S.w.toNat S.h.toNat:=(IU ok W).put
theorem SQ (ok:S.ok lim) (W:Wn) {t:List UInt8} (ht:∀b∈t,32≤b.toNat∧b.toNat≤126) {x:Nat} (hx:(x:Int)<S.w):(S.grid W t).at x (S.h-1).toNat=AH t x:=by
 have hf:=IU ok W
 have a:=ok.w0
 have c:=ok.h0
 obtain⟨Y,hY⟩:∃Y:Nat,S.h-1=Y:=⟨(S.h-1).toNat,by omega⟩
 unfold Ss.grid
 rw[hY]
 have hh:=hf.h
 have hw:=hf.w
 exact YV hf.ok (by omega) (by rw[hw];exact AT _ _) (by omega) (Ds (by omega)) (UM ht x)
theorem Sh (ok:S.ok lim) (W:Wn) (t:List UInt8) {x y:Nat} (hx:(x:Int)<S.w) (hy:(y:Int)<S.h-1):(S.grid W t).at x y=(S.gridL W).at x y:=by
 have hf:=IU ok W
 have c:=ok.h0
 obtain⟨Y,hY⟩:∃Y:Nat,S.h-1=Y:=⟨(S.h-1).toNat,by omega⟩
 unfold Ss.grid
 rw[hY]
 have hh:=hf.h
 have hw:=hf.w
 exact Xr hf.ok (by omega) (by omega) (by omega)
theorem aV (ok:S.ok lim) {W:Wn} (hW:W∈S.wins) (t:List UInt8) {r:Rc} (hr:r∈W.L.root.bords W.L.R) {x y:Nat} (h1:r.x≤x) (h2:(x:Int)<r.x+r.w) (h3:r.y≤y) (h4:(y:Int)<r.y+r.h) :
  (x:Int)<S.w∧(y:Int)<S.h-1∧∃r',(S.grid W t).at x y=BM r':=by
 obtain⟨wok,wR,-,-⟩:=ok.win W hW
 obtain⟨-,rin⟩:=Mt.bords_ok wok.lay.fits wok.lay.R r hr
 rw[wR] at rin
 have i1:=rin.c
 have i2:=rin.d
 dsimp only at i1 i2
 have a:=ok.w0
 have b:=ok.w1
 have c:=ok.h0
 have d:=ok.h1
 have hx:(x:Int)<S.w:=by omega
 have hy:(y:Int)<S.h-1:=by omega
 refine⟨hx,hy,?_⟩
 rw[Sh ok W t hx hy]
 exact KK (by omega) (by omega) _ _ _ rfl (FK (JF (by omega) (by omega) (by omega) (by omega))) ⟨r,hr,h1,h2,h3,h4⟩
end
set_option maxRecDepth 100000
def N0 (p0:Value) (K:Value→World→Prop):World→Prop :=
 xB 38 p0 fun t1 =>
 xF 38 t1 0 fun t6 =>
 xL 3 t6 fun t7 =>
 xF 38 t1 1 fun t8 =>
 xL 3 t8 fun t9 =>
 xC 37 [.const t7,.const t9] [3,3] 4 fun t10 =>
 Join1 (fun k1 =>
 xN 4 t10 fun t12 =>
 xW t12
 (k1 (.bool true)) <|
 xF 38 t1 2 fun t14 =>
 xL 36 t14 fun t15 =>
 xU t15 36 fun t16 =>
 xF 38 t1 0 fun t17 =>
 xL 3 t17 fun t18 =>
 xF 38 t1 1 fun t19 =>
 xL 3 t19 fun t20 =>
 xO .mul 3 t18 t20 fun t21 =>
 xO .neq 3 t16 t21 fun t22 =>
 k1 t22) fun t23 =>
 xW t23
 (K (.bool false)) <|
 Loop1 (.int .i64 0) fun t4 next2 =>
 xF 38 t1 1 fun t25 =>
 xL 3 t25 fun t26 =>
 xO .lss 3 t4 t26 fun t27 =>
 xW t27
 (xL 38 t1 fun t30 =>
 xC 39 [.const t30,.const t4] [38,3] 36 fun t32 =>
 xC 38 [.const t32] [36] 4 fun t33 =>
 xN 4 t33 fun t35 =>
 xW t35
 (K (.bool false)) <|
 xO .add 3 t4 (.int .i64 1) fun t29 =>
 next2 t29) <|
 K (.bool true)
theorem Vt (p0:Value):Lk 13 #[p0] (N0 p0):=lk [p0] [(6,[23]),(16,[4])] Tryz.func13
theorem Ut:Ad Tryz.prog 13:=bd Tryz.func13
def L1 (p0 p1 p2:Value) (K:Value→World→Prop):World→Prop :=
 xB 38 p0 fun t3 =>
 xA 43 fun t6 =>
 xL 38 t3 fun t8 =>
 xC 39 [.const t8,.const p2] [38,3] 36 fun t10 =>
 Join1 (fun k1 =>
 xO .lss 3 p1 (.int .i64 0) fun t12 =>
 xW t12
 (k1 (.bool true)) <|
 xU t10 36 fun t16 =>
 xO .geq 3 p1 t16 fun t17 =>
 k1 t17) fun t18 =>
 xW t18
 (OpX Tryz.prog (.build 43 #[]) 43 fun t19 =>
 xS 43 t6 t19 <|
 xD 43 t6 fun t6_1 =>
 K t6_1) <|
 xI 36 t10 p1 fun t22 =>
 xL 43 t22 fun t23 =>
 xS 43 t6 t23 <|
 xD 43 t6 fun t6_2 =>
 K t6_2
theorem RD (p0 p1 p2:Value):Lk 15 #[p0,p1,p2] (L1 p0 p1 p2):=lk [p0,p1,p2] [(6,[18])] Tryz.func15
theorem NC:Ad Tryz.prog 15:=bd Tryz.func15
def JS (p0 p1:Value) (K:Value→World→Prop):World→Prop :=
 Join1 (fun k1 =>
 xO .geq 3 p0 (.int .i64 1) fun t6 =>
 xW t6
 (xO .leq 3 p0 (.int .i64 200) fun t9 =>
 xW t9
 (xO .geq 3 p1 (.int .i64 1) fun t13 =>
 xW t13
 (xO .leq 3 p1 (.int .i64 60) fun t17 =>
 k1 t17) <|
 k1 (.bool false)) <|
 k1 (.bool false)) <|
 k1 (.bool false)) fun t4 =>
 K t4
theorem SI (p0 p1:Value):Lk 37 #[p0,p1] (JS p0 p1):=lk [p0,p1] [(3,[4])] Tryz.func37
theorem au:Ad Tryz.prog 37:=bd Tryz.func37
def IP (p0 p1:Value) (K:Value→World→Prop):World→Prop :=
 xB 38 p0 fun t2 =>
 Ai <|
 Join1 (fun k1 =>
 qP .lss 3 p1 (.int .i64 0) fun t6 =>
 xW t6
 (k1 (.bool true)) <|
 qF 38 t2 1 fun t9 =>
 qL 3 t9 fun t10 =>
 qP .geq 3 p1 t10 fun t11 =>
 xW t11
 (k1 (.bool true)) <|
 qF 38 t2 0 fun t14 =>
 qL 3 t14 fun t15 =>
 qP .lss 3 t15 (.int .i64 1) fun t16 =>
 xW t16
 (k1 (.bool true)) <|
 qF 38 t2 1 fun t19 =>
 qL 3 t19 fun t20 =>
 qF 38 t2 2 fun t21 =>
 qL 36 t21 fun t22 =>
 xR (.call { callee:=.builtin .len,args:=#[.const t22],argTypes:=#[36] }) 3 fun t23 =>
 qF 38 t2 0 fun t24 =>
 qL 3 t24 fun t25 =>
 qP .quo 3 t23 t25 fun t26 =>
 qP .gtr 3 t20 t26 fun t27 =>
 k1 t27) fun t28 =>
 xW t28
 (K (.slice none 0 0)) <|
 OpX Tryz.prog (.buildSlice 36 0 #[]) 36 fun t29 =>
 xF 38 t2 2 fun t30 =>
 xL 36 t30 fun t31 =>
 xF 38 t2 0 fun t33 =>
 xL 3 t33 fun t34 =>
 xO .mul 3 p1 t34 fun t35 =>
 xF 38 t2 0 fun t37 =>
 xL 3 t37 fun t38 =>
 xO .mul 3 p1 t38 fun t39 =>
 xF 38 t2 0 fun t40 =>
 xL 3 t40 fun t41 =>
 xO .add 3 t39 t41 fun t42 =>
 OpX Tryz.prog (.slice 36 (.const t31) (some (.const t35)) (some (.const t42)) none) 36 fun t43 =>
 OpX Tryz.prog (.call { callee:=.builtin .append,args:=#[.const t29,.const t43],argTypes:=#[36,36] }) 36 fun t44 =>
 K t44
theorem Pn (p0 p1:Value):Lk 39 #[p0,p1] (IP p0 p1):=lk [p0,p1] [(4,[28])] Tryz.func39
theorem I8:Ad Tryz.prog 39:=bd Tryz.func39
theorem UR (x:BitVec 8):(x.toNat:Int).tmod 64=((x &&& 63#8).toNat:Int):=by
 have h:∀x:BitVec 8,x.toNat % 64=(x &&& 63#8).toNat:=by decide +kernel
 rw[show(64:Int)=((64:Nat):Int) from rfl,←Int.ofNat_tmod,h]
theorem RQ (x:BitVec 8):(x &&& 63#8).toNat<64:=by
 have h:∀x:BitVec 8,(x &&& 63#8).toNat<64:=by decide +kernel
 exact h x
theorem jm (x:BitVec 8):((x &&& 63#8).toNat:Int)+64=(((x &&& 63#8) ||| 64#8).toNat:Int):=by
 have h:∀x:BitVec 8,(x &&& 63#8).toNat+64=((x &&& 63#8) ||| 64#8).toNat:=by decide +kernel
 have:=h x;omega
theorem YM (x:BitVec 8):((x &&& 63#8).toNat:Int)+128=(((x &&& 63#8) ||| 128#8).toNat:Int):=by
 have h:∀x:BitVec 8,(x &&& 63#8).toNat+128=((x &&& 63#8) ||| 128#8).toNat:=by decide +kernel
 have:=h x;omega
theorem dm (x:BitVec 8):((x &&& 63#8) ||| 64#8) &&& 63#8=x &&& 63#8:=by
 have h:∀x:BitVec 8,((x &&& 63#8) ||| 64#8) &&& 63#8=x &&& 63#8:=by decide +kernel
 exact h x
theorem V9 (w:World) (r:Int):Calls Tryz.prog 196 #[.int .i32 r] w (Ab fun v w'=>v=.bool (decide (r<0∨1114111<r∨(55296≤r∧r≤57343)))∧w'=w):=by
 apply cg
 intro K hK
 unfold Ml
 refine Join1.inl ?_
 simp -dsimp (disch:=first|omega|(simp only[go_sem,seval];try omega))only[go_sem,seval]
 refine BrW.dec (fun h1=>?_) (fun h1=>?_)
 ·exact hK _ _ ⟨by simp [h1],rfl⟩
 ·simp -dsimp (disch:=first|omega|(simp only[go_sem,seval];try omega))only[go_sem,seval]
  refine BrW.dec (fun h2=>?_) (fun h2=>?_)
  ·exact hK _ _ ⟨by simp [h2],rfl⟩
  ·simp -dsimp (disch:=first|omega|(simp only[go_sem,seval];try omega))only[go_sem,seval]
   refine BrW.dec (fun h3=>?_) (fun h3=>?_)
   ·simp -dsimp (disch:=first|omega|(simp only[go_sem,seval];try omega))only[go_sem,seval]
    refine hK _ _ ⟨?_,rfl⟩
    congr 1
    simp [h1,h2,h3]
   ·simp -dsimp (disch:=first|omega|(simp only[go_sem,seval];try omega))only[go_sem,seval]
    refine hK _ _ ⟨?_,rfl⟩
    congr 1
    simp [h1,h2,h3]
theorem B0 (w:World) (r a b:Int) (h1:-2147483648≤r) (h2:r≤2147483647):Calls Tryz.prog 197 #[.int .i32 r,.int .i64 a,.int .i64 b] w (Ab fun v w'=>v=.bool (decide (a≤r∧r≤b))∧w'=w):=by
 apply RH
 intro K hK
 unfold KL
 refine Join1.inl ?_
 simp -dsimp (disch:=first|omega|(simp only[go_sem,seval];try omega))only[go_sem,seval]
 refine BrW.dec (fun h3=>?_) (fun h3=>?_)
 ·simp -dsimp (disch:=first|omega|(simp only[go_sem,seval];try omega))only[go_sem,seval]
  exact hK _ _ ⟨by simp [h3],rfl⟩
 ·simp -dsimp (disch:=first|omega|(simp only[go_sem,seval];try omega))only[go_sem,seval]
  exact hK _ _ ⟨by simp [h3],rfl⟩
def w0 (r:Int):Prop:=(r<0∨1114111<r∨(55296≤r∧r≤57343))∨r<32∨(127≤r∧r≤159)∨(768≤r∧r≤879)∨(8203≤r∧r≤8207)∨(65024≤r∧r≤65039)
def w2 (r:Int):Prop:=(4352≤r∧r≤4447)∨(11904≤r∧r≤12350)∨(12353≤r∧r≤42191)∨(44032≤r∧r≤55203)∨(63744≤r∧r≤64255)∨(65072≤r∧r≤65135)∨(65281≤r∧r≤65376)∨(65504≤r∧r≤65510)∨(127744≤r∧r≤128591)∨(129280≤r∧r≤129535)∨(131072≤r∧r≤262141)
instance (r:Int):Decidable (w0 r):=by unfold w0;infer_instance
instance (r:Int):Decidable (w2 r):=by unfold w2;infer_instance
theorem SC {r:Int} (h:w0 r):AO r=0:=by
 unfold w0 at h
 simp only[AO,Bz,BW]
 repeat' split
 all_goals first|rfl|omega
theorem b7 {r:Int} (h0:¬w0 r) (h:w2 r):AO r=2:=by
 unfold w0 at h0
 unfold w2 at h
 simp only[AO,Bz,BW]
 repeat' split
 all_goals first|rfl|omega
theorem cm {r:Int} (h0:¬w0 r) (h:¬w2 r):AO r=1:=by
 unfold w0 at h0
 unfold w2 at h
 simp only[AO,Bz,BW]
 repeat' split
 all_goals first|rfl|omega
theorem ZR (w:World) (r:Int) (h1:-2147483648≤r) (h2:r≤2147483647):Calls Tryz.prog 137 #[.int .i32 r] w (Ab fun v w'=>v=.int .i64 (AO r)∧w'=w):=by
 apply bA
 intro K hK
 unfold MR
 refine Join1.cut (fun v w'=>v=.bool (decide (w0 r))∧w'=w) ?_ ?_
 ·refine OpX.call VS rfl (Calls.ret (V9 w r) ?_)
  rintro v w1 ⟨rfl,rfl⟩
  refine BrW.dec (fun h=>⟨by simp [w0,h],rfl⟩) (fun h3=>?_)
  simp -dsimp (disch:=first|omega|(simp only[go_sem,seval];try omega))only[go_sem,seval]
  refine BrW.dec (fun h=>⟨by simp [w0,h],rfl⟩) (fun h4=>?_)
  refine OpX.call BV rfl (Calls.ret (B0 _ r 127 159 h1 h2) ?_)
  rintro v w1 ⟨rfl,rfl⟩
  refine BrW.dec (fun h=>⟨by simp [w0,h],rfl⟩) (fun h5=>?_)
  refine OpX.call BV rfl (Calls.ret (B0 _ r 768 879 h1 h2) ?_)
  rintro v w1 ⟨rfl,rfl⟩
  refine BrW.dec (fun h=>⟨by simp [w0,h],rfl⟩) (fun h6=>?_)
  refine OpX.call BV rfl (Calls.ret (B0 _ r 8203 8207 h1 h2) ?_)
  rintro v w1 ⟨rfl,rfl⟩
  refine BrW.dec (fun h=>⟨by simp [w0,h],rfl⟩) (fun h7=>?_)
  refine OpX.call BV rfl (Calls.ret (B0 _ r 65024 65039 h1 h2) ?_)
  rintro v w1 ⟨rfl,rfl⟩
  refine⟨?_,rfl⟩
  congr 1
  unfold w0
  simp only[h3,h4,h5,h6,h7,false_or]
 ·rintro v w1 ⟨rfl,rfl⟩
  refine BrW.dec (fun h=>hK _ _ ⟨by rw[SC h],rfl⟩) (fun h0=>?_)
  refine Join1.cut (fun v w'=>v=.bool (decide (w2 r))∧w'=w1) ?_ ?_
  ·refine OpX.call BV rfl (Calls.ret (B0 _ r 4352 4447 h1 h2) ?_)
   rintro v w1 ⟨rfl,rfl⟩
   refine BrW.dec (fun h=>⟨by simp [w2,h],rfl⟩) (fun h3=>?_)
   refine OpX.call BV rfl (Calls.ret (B0 _ r 11904 12350 h1 h2) ?_)
   rintro v w1 ⟨rfl,rfl⟩
   refine BrW.dec (fun h=>⟨by simp [w2,h],rfl⟩) (fun h4=>?_)
   refine OpX.call BV rfl (Calls.ret (B0 _ r 12353 42191 h1 h2) ?_)
   rintro v w1 ⟨rfl,rfl⟩
   refine BrW.dec (fun h=>⟨by simp [w2,h],rfl⟩) (fun h5=>?_)
   refine OpX.call BV rfl (Calls.ret (B0 _ r 44032 55203 h1 h2) ?_)
   rintro v w1 ⟨rfl,rfl⟩
   refine BrW.dec (fun h=>⟨by simp [w2,h],rfl⟩) (fun h6=>?_)
   refine OpX.call BV rfl (Calls.ret (B0 _ r 63744 64255 h1 h2) ?_)
   rintro v w1 ⟨rfl,rfl⟩
   refine BrW.dec (fun h=>⟨by simp [w2,h],rfl⟩) (fun h7=>?_)
   refine OpX.call BV rfl (Calls.ret (B0 _ r 65072 65135 h1 h2) ?_)
   rintro v w1 ⟨rfl,rfl⟩
   refine BrW.dec (fun h=>⟨by simp [w2,h],rfl⟩) (fun h8=>?_)
   refine OpX.call BV rfl (Calls.ret (B0 _ r 65281 65376 h1 h2) ?_)
   rintro v w1 ⟨rfl,rfl⟩
   refine BrW.dec (fun h=>⟨by simp [w2,h],rfl⟩) (fun h9=>?_)
   refine OpX.call BV rfl (Calls.ret (B0 _ r 65504 65510 h1 h2) ?_)
   rintro v w1 ⟨rfl,rfl⟩
   refine BrW.dec (fun h=>⟨by simp [w2,h],rfl⟩) (fun h10=>?_)
   refine OpX.call BV rfl (Calls.ret (B0 _ r 127744 128591 h1 h2) ?_)
   rintro v w1 ⟨rfl,rfl⟩
   refine BrW.dec (fun h=>⟨by simp [w2,h],rfl⟩) (fun h11=>?_)
   refine OpX.call BV rfl (Calls.ret (B0 _ r 129280 129535 h1 h2) ?_)
   rintro v w1 ⟨rfl,rfl⟩
   refine BrW.dec (fun h=>⟨by simp [w2,h],rfl⟩) (fun h12=>?_)
   refine OpX.call BV rfl (Calls.ret (B0 _ r 131072 262141 h1 h2) ?_)
   rintro v w1 ⟨rfl,rfl⟩
   refine⟨?_,rfl⟩
   congr 1
   unfold w2
   simp only[h3,h4,h5,h6,h7,h8,h9,h10,h11,h12,false_or]
  ·rintro v w1 ⟨rfl,rfl⟩
   refine BrW.dec (fun h=>hK _ _ ⟨by rw[b7 h0 h],rfl⟩) (fun h=>hK _ _ ⟨by rw[cm h0 h],rfl⟩)
theorem S4 (w:World) (c:Cel):Calls Tryz.prog 138 #[c.val] w (Ab fun v w'=>v=(⟨0,c.fg,c.bg,(c.a &&& 63#8) ||| 128#8⟩:Cel).val∧Chg [] w w'):=by
 have:=RQ c.a
 apply Tt
 intro K hK
 unfold KR
 simp -dsimp (disch:=first|omega|(simp only[go_sem,seval];try omega))only[go_sem,seval,UR,YM]
 exact hK _ _ ⟨rfl,((Chg.refl [] w).alloc _).alloc _⟩
theorem WA (c:Cel):(⟨0,c.fg,c.bg,(c.a &&& 63#8) ||| 128#8⟩:Cel)=c.tailOf:=by
 have h:∀a:BitVec 8,(a &&& 63#8) ||| 128#8=(a &&& ~~~64#8) ||| 128#8:=by decide
 simp only[Cel.tailOf,h]
theorem El (w:World) (c:Cel):Calls Tryz.prog 79 #[c.val] w (Ab fun v w'=>v=.bool c.wide∧Chg [] w w'):=by
 have h:∀a:BitVec 8,decide (a.toNat / 64 % 2=1)=decide (¬a &&& 64#8=0#8):=by decide
 have hb:=c.a.isLt
 apply al
 intro K hK
 unfold QB
 simp -dsimp (disch:=first|omega|(simp only[go_sem,seval];try omega))only[go_sem,seval]
 refine hK _ _ ⟨?_,Ay _ _⟩
 unfold Cel.wide
 rw[←h c.a]
 congr 1
 apply decide_eq_decide.2
 have e1:(c.a.toNat:Int).tdiv 64=((c.a.toNat / 64:Nat):Int):=by rw[Int.tdiv_eq_ediv_of_nonneg (by omega)];rfl
 rw[e1,E3 _ (by omega) (by omega)]
 have e2:((c.a.toNat / 64:Nat):Int).tmod 2=((c.a.toNat / 64 % 2:Nat):Int):=by rw[Int.tmod_eq_emod_of_nonneg (by omega)];rfl
 rw[e2]
 omega
theorem GG (w:World) (c:Cel):Calls Tryz.prog 81 #[c.val] w (Ab fun v w'=>v=.bool c.tail∧Chg [] w w'):=by
 have h:∀a:BitVec 8,decide (a.toNat / 128=1)=decide (¬a &&& 128#8=0#8):=by decide
 have hb:=c.a.isLt
 apply Z0
 intro K hK
 unfold NJ
 simp -dsimp (disch:=first|omega|(simp only[go_sem,seval];try omega))only[go_sem,seval]
 refine hK _ _ ⟨?_,Ay _ _⟩
 unfold Cel.tail
 rw[←h c.a]
 congr 1
 apply decide_eq_decide.2
 have e1:(c.a.toNat:Int).tdiv 128=((c.a.toNat / 128:Nat):Int):=by rw[Int.tdiv_eq_ediv_of_nonneg (by omega)];rfl
 rw[e1,E3 _ (by omega) (by omega)]
 omega
theorem JB (w:World) (c:Cel) (hc:c.fits):Calls Tryz.prog 78 #[c.val] w (Ab fun v w'=>v=.bool c.check∧Chg [] w w'):=by
 apply YX
 intro K hK
 unfold QU
 simp -dsimp (disch:=first|omega|(simp only[go_sem,seval];try omega))only[go_sem,seval]
 have hc0:=Ay w (.cells c.cells.toArray 43)
 have hb0:(w.alloc (.cells c.cells.toArray 43)).heap[w.heap.size]?=some (.cells c.cells.toArray 43):=by simp -dsimp (disch:=first|omega|(simp only[go_sem,seval];try omega))only[go_sem,seval]
 refine OpX.call U8 rfl (Calls.ret (ZR _ c.r hc.1 hc.2) ?_)
 rintro v w1 ⟨rfl,rfl⟩
 simp -dsimp (disch:=first|omega|(simp only[go_sem,seval];try omega))only[go_sem,seval]
 refine OpX.call F3 rfl (Calls.ret (GG _ c) ?_)
 rintro v w2 ⟨rfl,hc2⟩
 have hb2:=hc2.keep hb0 (by simp)
 have hc02:=hc0.trans0 hc2
 unfold Cel.check at hK
 refine BrW.by (fun h=>?_) (fun h=>?_)
 ·rw[if_pos h] at hK
  refine Join1.inl ?_
  simp -dsimp (disch:=first|omega|(simp only[go_sem,seval];try omega))only[go_sem,seval,hb2]
  refine OpX.call EL rfl (Calls.ret (El _ c) ?_)
  rintro v w3 ⟨rfl,hc3⟩
  have hb3:=hc3.keep hb2 (by simp)
  simp -dsimp (disch:=first|omega|(simp only[go_sem,seval];try omega))only[go_sem,seval]
  refine BrW.by (fun h=>?_) (fun h=>?_)
  ·simp -dsimp (disch:=first|omega|(simp only[go_sem,seval];try omega))only[go_sem,seval,hb3]
   refine hK _ _ ⟨?_,hc02.trans0 hc3⟩
   simp at h;simp [h]
  ·refine hK _ _ ⟨?_,hc02.trans0 hc3⟩
   simp at h;simp [h]
 ·rw[if_neg (by simp [h])] at hK
  refine Join1.inl ?_
  simp -dsimp (disch:=first|omega|(simp only[go_sem,seval];try omega))only[go_sem,seval]
  refine BrW.dec (fun h1=>?_) (fun h1=>?_)
  ·simp -dsimp (disch:=first|omega|(simp only[go_sem,seval];try omega))only[go_sem,seval,hb2]
   refine OpX.call EL rfl (Calls.ret (El _ c) ?_)
   rintro v w3 ⟨rfl,hc3⟩
   have hb3:=hc3.keep hb2 (by simp)
   simp -dsimp (disch:=first|omega|(simp only[go_sem,seval];try omega))only[go_sem,seval]
   refine BrW.by (fun h2=>?_) (fun h2=>?_)
   ·simp at h2
    refine hK _ _ ⟨?_,hc02.trans0 hc3⟩
    simp [h2,h1]
   ·simp at h2
    simp -dsimp (disch:=first|omega|(simp only[go_sem,seval];try omega))only[go_sem,seval]
    have h3:¬AO c.r=2:=by omega
    refine BrW.dec (fun h4=>absurd h4 h3) (fun h4=>?_)
    refine hK _ _ ⟨?_,hc02.trans0 hc3⟩
    simp [h2,h3]
  ·simp -dsimp (disch:=first|omega|(simp only[go_sem,seval];try omega))only[go_sem,seval]
   refine BrW.dec (fun h4=>?_) (fun h4=>?_)
   ·simp -dsimp (disch:=first|omega|(simp only[go_sem,seval];try omega))only[go_sem,seval,hb2]
    refine OpX.call EL rfl (Calls.ret (El _ c) ?_)
    rintro v w3 ⟨rfl,hc3⟩
    refine hK _ _ ⟨?_,hc02.trans0 hc3⟩
    cases hw:c.wide<;>simp [h1,h4]
   ·refine hK _ _ ⟨?_,hc02⟩
    cases hw:c.wide<;>simp [h1,h4]
theorem E9 {w:World} {e:Option TypeId} {a:Option Addr} {l:List Cel} (hs:SxC w e a l) (cap:Nat) (i:Int) (h1:-1≤i) (h2:i≤l.length) (hl:l.length≤1000000) (hf:∀c∈l,c.fits):Calls Tryz.prog 80 #[.slice a l.length cap,.int .i64 i] w
  (Ab fun v w'=>v=.bool (decide (0≤i) && AA l i.toNat)∧Chg [] w w'):=by
 apply Xd
 intro K hK
 unfold PJ
 refine Join1.cut (fun v w'=>v=.bool (decide (0≤i) && AA l i.toNat)∧Chg [] w w') ?_ ?_
 ·simp -dsimp (disch:=first|omega|(simp only[go_sem,seval];try omega))only[go_sem,seval]
  refine BrW.dec (fun h3=>?_) (fun h3=>⟨by simp [h3],(Chg.refl _ _).drew⟩)
  obtain⟨k,rfl⟩:=Int.eq_ofNat_of_zero_le h3
  simp -dsimp (disch:=first|omega|(simp only[go_sem,seval];try omega))only[go_sem,seval]
  refine BrW.dec (fun h4=>?_) (fun h4=>⟨by have:=@F2 l k;simp;cases hp:AA l k<;>simp_all;omega,(Chg.refl _ _).drew⟩)
  have hk:k<l.length:=by omega
  have hk1:k+1<l.length:=by omega
  have hpa:AA l k=Bm l[k] l[k+1]:=by
   unfold AA;rw[List.getElem?_eq_getElem hk,List.getElem?_eq_getElem hk1]
  have hgo:(decide (0≤(k:Int)) && AA l (k:Int).toNat)=Bm l[k] l[k+1]:=by simp [hpa]
  rw[hgo]
  obtain⟨b,o,rfl,hb,m1,-⟩:=SxC.cel hs (List.getElem?_eq_getElem hk)
  simp -dsimp (disch:=first|omega|(simp only[go_sem,seval];try omega))only[go_sem,seval,m1]
  refine OpX.call Jb rfl (Calls.ret (JB _ l[k] (hf _ (List.getElem_mem hk))) ?_)
  rintro v w1 ⟨rfl,hc1⟩
  refine BrW.by (fun h5=>?_) (fun h5=>⟨by simp [Bm,h5],hc1.low_drew⟩)
  obtain⟨b',o',hbo,hb',m1,-⟩:=SxC.cel ((hs.chg0 (Chg.refl _ _).drew).chg0 hc1) (List.getElem?_eq_getElem hk)
  cases hbo
  simp -dsimp (disch:=first|omega|(simp only[go_sem,seval];try omega))only[go_sem,seval,m1]
  refine OpX.call EL rfl (Calls.ret (El _ l[k]) ?_)
  rintro v w2 ⟨rfl,hc2⟩
  have hc12:=hc1.trans0 hc2
  refine BrW.by (fun h6=>?_) (fun h6=>⟨by simp [Bm,h6],hc12.low_drew⟩)
  obtain⟨b',o',hbo,hb',m1,-⟩:=SxC.cel ((hs.chg0 (Chg.refl _ _).drew).chg0 hc12) (List.getElem?_eq_getElem hk)
  cases hbo
  obtain⟨b',o',hbo,hb',m2,-⟩:=SxC.cel ((hs.chg0 (Chg.refl _ _).drew).chg0 hc12) (List.getElem?_eq_getElem hk1)
  cases hbo
  have ek:(k:Int)+1=((k+1:Nat):Int):=by simp
  simp -dsimp (disch:=first|omega|(simp only[go_sem,seval];try omega))only[go_sem,seval,m1,m2,ek]
  refine OpX.call WD rfl (Calls.ret (S4 _ l[k]) ?_)
  rintro v w3 ⟨rfl,hc3⟩
  rw[WA]
  obtain⟨b',o',hbo,hb',m2,-⟩:=SxC.cel (((hs.chg0 (Chg.refl _ _).drew).chg0 hc12).chg0 hc3) (List.getElem?_eq_getElem hk1)
  cases hbo
  simp -dsimp (disch:=first|omega|(simp only[go_sem,seval];try omega))only[go_sem,seval,m2]
  refine⟨by simp [Bm,h5,h6],(hc12.trans0 hc3).low_drew⟩
 ·rintro v w1 ⟨rfl,hc⟩
  exact hK _ _ ⟨rfl,hc⟩
theorem aA (l:List Cel) (i:Nat):AU l i=(AA l i || (decide (0≤(i:Int)-1) && AA l ((i:Int)-1).toNat)):=by
 cases i with
 | zero=>simp [AU]
 | succ i =>
  have e1:(((i+1:Nat):Int)-1).toNat=i:=by omega
  have e2:decide (0≤((i+1:Nat):Int)-1)=true:=by apply decide_eq_true;omega
  rw[e1,e2];simp [AU]
theorem I3 (c:Cel):c.single=(c.check && (!c.wide && !c.tail)):=by
 have h:∀a:BitVec 8,decide (a &&& 192#8=0#8)=(!decide (¬a &&& 64#8=0#8) && !decide (¬a &&& 128#8=0#8)):=by decide
 unfold Cel.single Cel.plain Cel.wide Cel.tail
 rw[h,Bool.and_comm]
theorem gG {w:World} {e:Option TypeId} {a:Option Addr} {l:List Cel} (hs:SxC w e a l) (cap:Nat) (hl:l.length≤100000) (hf:∀c∈l,c.fits):Calls Tryz.prog 102 #[.slice a l.length cap] w
  (Ab fun v w'=>Ox w.heap.size w' 43 4 Cel.cells v (AI l)∧Chg [] w w'):=by
 apply VN
 intro K hK
 unfold P5
 refine Loop2.st (fun s:Value × Nat=>s.1) (fun s:Value × Nat=>.int .i64 s.2) (fun s w'=>Chg [] w w'∧Ox w.heap.size w' 43 4 Cel.cells s.1 ((AI l).take s.2)∧s.2≤l.length) (fun s=>l.length-s.2) (.slice none 0 0,0) rfl rfl ⟨Chg.refl _ _,Ox.nil _ _ _ _ _,by simp⟩ ?_
 rintro next ⟨v,k⟩ w1 hn ⟨hc1,ho1,hk1⟩
 dsimp only at ho1 hk1 ⊢
 simp -dsimp (disch:=first|omega|(simp only[go_sem,seval];try omega))only[go_sem,seval]
 refine BrW.dec (fun h1=>?_) (fun h1=>?_)
 ·have hk:k<l.length:=by omega
  have hs1:=hs.chg0 hc1
  obtain⟨b,o,rfl,hb,m1,-⟩:=SxC.cel hs1 (List.getElem?_eq_getElem hk)
  simp -dsimp (disch:=first|omega|(simp only[go_sem,seval];try omega))only[go_sem,seval,m1]
  have hc2:=Ay w1 (.cells l[k].cells.toArray 43)
  have hb2:(w1.alloc (.cells l[k].cells.toArray 43)).heap[w1.heap.size]?=some (.cells l[k].cells.toArray 43):=by simp -dsimp (disch:=first|omega|(simp only[go_sem,seval];try omega))only[go_sem,seval]
  refine OpX.call Jb rfl (Calls.ret (JB _ l[k] (hf _ (List.getElem_mem hk))) ?_)
  rintro v3 w3 ⟨rfl,hc3⟩
  have hc23:=hc2.trans0 hc3
  have hb3:=hc3.keep hb2 (by simp)
  refine OpX.call Fs rfl (Calls.ret (E9 (hs1.chg0 hc23) cap (k:Int) (by omega) (by omega) (by omega) hf) ?_)
  rintro v4 w4 ⟨rfl,hc4⟩
  have hc24:=hc23.trans0 hc4
  have hb4:=hc4.keep hb3 (by simp)
  simp -dsimp (disch:=first|omega|(simp only[go_sem,seval];try omega))only[go_sem,seval]
  refine OpX.call Fs rfl (Calls.ret (E9 (hs1.chg0 hc24) cap ((k:Int)-1) (by omega) (by omega) (by omega) hf) ?_)
  rintro v5 w5 ⟨rfl,hc5⟩
  have hc25:=hc24.trans0 hc5
  have hb5:=hc5.keep hb4 (by simp)
  have hg:=Eu l k _ (List.getElem?_eq_getElem hk)
  have hn0:AU l k=(AA l k || (decide (0≤(k:Int)-1) && AA l ((k:Int)-1).toNat)):=aA l k
  have hp0:(decide (0≤(k:Int)) && AA l (k:Int).toNat)=AA l k:=by simp
  rw[hp0]
  refine Join0.cut (fun w6=>Chg [w1.heap.size] w5 w6∧∃c,w6.heap[w1.heap.size]?=some (.cells c.cells.toArray 43)∧(AI l)[k]?=some c) ?_ ?_
  ·refine Join1.cut (fun v w6=>v=.bool (!(AU l k || l[k].single))∧Chg [] w5 w6) ?_ ?_
   ·refine BrW.by (fun h2=>?_) (fun h2=>?_)
    ·simp -dsimp (disch:=first|omega|(simp only[go_sem,seval];try omega))only[go_sem,seval]
     have hnt:AU l k=true:=by rw[hn0,h2];rfl
     exact⟨by rw[hnt];rfl,Chg.refl _ _⟩
    ·refine BrW.by (fun h3=>?_) (fun h3=>?_)
     ·simp -dsimp (disch:=first|omega|(simp only[go_sem,seval];try omega))only[go_sem,seval]
      have hnt:AU l k=true:=by rw[hn0,h2,h3];rfl
      exact⟨by rw[hnt];rfl,Chg.refl _ _⟩
     ·have hnf:AU l k=false:=by rw[hn0,h2,h3];rfl
      refine BrW.by (fun h4=>?_) (fun h4=>?_)
      ·simp -dsimp (disch:=first|omega|(simp only[go_sem,seval];try omega))only[go_sem,seval,hb5]
       refine OpX.call EL rfl (Calls.ret (El _ l[k]) ?_)
       rintro v7 w7 ⟨rfl,hc7⟩
       have hb7:=hc7.keep hb5 (by simp)
       simp -dsimp (disch:=first|omega|(simp only[go_sem,seval];try omega))only[go_sem,seval]
       refine BrW.by (fun h5=>?_) (fun h5=>?_)
       ·simp -dsimp (disch:=first|omega|(simp only[go_sem,seval];try omega))only[go_sem,seval,hb7]
        refine OpX.call F3 rfl (Calls.ret (GG _ l[k]) ?_)
        rintro v8 w8 ⟨rfl,hc8⟩
        simp -dsimp (disch:=first|omega|(simp only[go_sem,seval];try omega))only[go_sem,seval]
        refine⟨?_,hc7.trans0 hc8⟩
        simp at h5
        simp [hnf,I3,h4,h5]
       ·simp -dsimp (disch:=first|omega|(simp only[go_sem,seval];try omega))only[go_sem,seval]
        refine⟨?_,hc7⟩
        simp at h5
        simp [hnf,I3,h5]
      ·simp -dsimp (disch:=first|omega|(simp only[go_sem,seval];try omega))only[go_sem,seval]
       exact⟨by simp [hnf,I3,h4],Chg.refl _ _⟩
   ·rintro v6 w6 ⟨rfl,hc6⟩
    have hb6:=hc6.keep hb5 (by simp)
    have hl6:=Aa hb6
    refine BrW.by (fun h2=>?_) (fun h2=>?_)
    ·simp -dsimp (disch:=first|omega|(simp only[go_sem,seval];try omega))only[go_sem,seval,hb6]
     refine⟨(hc6.mono (by simp)).set _ _ (by simp),⟨32,l[k].fg,l[k].bg,0⟩,rfl,?_⟩
     simp at h2
     rw[hg,h2.1]
     simp [Cel.fix,h2.2]
    ·refine⟨hc6.mono (by simp),l[k],hb6,?_⟩
     rw[hg]
     cases hn1:AU l k
     ·simp [hn1] at h2
      simp [Cel.fix,h2]
     ·rfl
  ·rintro w6 ⟨hc6,c,hb6,hg6⟩
   have hc16:=hc25.trans hc6 (by simp)
   have ho6:=ho1.chg0 hc16
   simp -dsimp (disch:=first|omega|(simp only[go_sem,seval];try omega))only[go_sem,seval,hb6]
   refine Bv (l2:=[c]) Hn Cel.len Cel.ok (ho6.chg0 (Ay _ _)) (Sx.built (c:=c.cells) (by simp -dsimp (disch:=first|omega|(simp only[go_sem,seval];try omega))only[go_sem,seval];rfl) (by simp)) rfl (by simp;omega) (by omega) (by simp -dsimp (disch:=first|omega|(simp only[go_sem,seval];try omega))only[go_sem,seval];have:=hc1.size;have:=hc16.size;omega) ?_
   intro v' w' ho' hc' _
   have hca:Chg v.ownBlock.toList w6 w':=((Chg.refl _ w6).alloc _).trans hc' (fun x hx=>.inl hx)
   have hc1':=EO ho6 (hc1.trans0 hc16) hca
   simp -dsimp (disch:=first|omega|(simp only[go_sem,seval];try omega))only[go_sem,seval]
   refine hn (v',k+1) _ ⟨hc1',?_,by dsimp only;omega⟩ (by dsimp only;omega)
   dsimp only
   have hkm:k<(AI l).length:=by rw[CR];exact hk
   have e1:(AI l)[k]=c:=by have:=hg6;rw[List.getElem?_eq_getElem hkm] at this;exact Option.some.inj this
   rw[Cm hkm,e1]
   exact ho'
 ·have hk:k=l.length:=by omega
  subst hk
  refine hK _ _ ⟨?_,hc1⟩
  rwa [List.take_of_length_le (by rw[CR];omega)] at ho1
theorem Kp (l:List Cel) (i:Nat):(decide (0≤(i:Int)-1) && AA l ((i:Int)-1).toNat)=Du l i:=by
 cases i with
 | zero=>simp [Du]
 | succ i =>
  have e1:(((i+1:Nat):Int)-1).toNat=i:=by omega
  have e2:decide (0≤((i+1:Nat):Int)-1)=true:=by apply decide_eq_true;omega
  rw[e1,e2];simp [Du]
theorem Vl {w:World} {e:Option TypeId} {a:Option Addr} {l:List Cel} (hs:SxC w e a l) (cap:Nat) (hl:l.length≤100000) (hf:∀c∈l,c.fits):Calls Tryz.prog 38 #[.slice a l.length cap] w
  (Ab fun v w'=>v=.bool (right l)∧Chg [] w w'):=by
 apply WV
 intro K hK
 unfold Kb
 refine Loop1.st (fun k:Nat=>.int .i64 k) (fun k w'=>Chg [] w w'∧k≤l.length∧∀i c,i<k→l[i]?=some c→AU l i=true∨c.single=true) (fun k=>l.length-k) 0 rfl ⟨Chg.refl _ _,by omega,by simp⟩ ?_
 rintro next k w1 hn ⟨hc1,hk1,hi1⟩
 simp -dsimp (disch:=first|omega|(simp only[go_sem,seval];try omega))only[go_sem,seval]
 refine BrW.dec (fun h1=>?_) (fun h1=>?_)
 ·have hk:k<l.length:=by omega
  have hs1:=hs.chg0 hc1
  have hgk:=List.getElem?_eq_getElem hk
  have hiff:=Pz hgk
  refine Join1.cut (fun v w'=>v=.bool (!decide (AU l k=true∨l[k].single=true))∧Chg [] w1 w') ?_ ?_
  ·obtain⟨b,o,rfl,hb,m1,-⟩:=SxC.cel hs1 hgk
   simp -dsimp (disch:=first|omega|(simp only[go_sem,seval];try omega))only[go_sem,seval,m1]
   refine OpX.call Jb rfl (Calls.ret (JB _ l[k] (hf _ (List.getElem_mem hk))) ?_)
   rintro v2 w2 ⟨rfl,hc2⟩
   simp -dsimp (disch:=first|omega|(simp only[go_sem,seval];try omega))only[go_sem,seval]
   refine BrW.by (fun h2=>⟨?_,hc2⟩) (fun h2=>?_)
   ·simp at h2;simp [hiff,h2]
   ·simp at h2
    obtain⟨b',o',hbo,hb',m2,-⟩:=SxC.cel (hs1.chg0 hc2) hgk
    cases hbo
    simp -dsimp (disch:=first|omega|(simp only[go_sem,seval];try omega))only[go_sem,seval,m2]
    refine OpX.call EL rfl (Calls.ret (El _ l[k]) ?_)
    rintro v3 w3 ⟨rfl,hc3⟩
    have hc13:=hc2.trans0 hc3
    obtain⟨b',o',hbo,hb',m3,-⟩:=SxC.cel (hs1.chg0 hc13) hgk
    cases hbo
    refine BrW.by (fun h3=>?_) (fun h3=>?_)
    ·refine OpX.call Fs rfl (Calls.ret (E9 (hs1.chg0 hc13) cap (k:Int) (by omega) (by omega) (by omega) hf) ?_)
     rintro v4 w4 ⟨rfl,hc4⟩
     have hc14:=hc13.trans0 hc4
     have hp0:(decide (0≤(k:Int)) && AA l (k:Int).toNat)=AA l k:=by simp
     rw[hp0]
     simp -dsimp (disch:=first|omega|(simp only[go_sem,seval];try omega))only[go_sem,seval]
     refine BrW.by (fun h4=>⟨?_,hc14⟩) (fun h4=>?_)
     ·simp at h4;simp [hiff,h3,h4]
     ·simp at h4
      obtain⟨b',o',hbo,hb',m4,-⟩:=SxC.cel (hs1.chg0 hc14) hgk
      cases hbo
      simp -dsimp (disch:=first|omega|(simp only[go_sem,seval];try omega))only[go_sem,seval,m4]
      refine OpX.call F3 rfl (Calls.ret (GG _ l[k]) ?_)
      rintro v5 w5 ⟨rfl,hc5⟩
      have hc15:=hc14.trans0 hc5
      refine BrW.by (fun h5=>?_) (fun h5=>?_)
      ·simp -dsimp (disch:=first|omega|(simp only[go_sem,seval];try omega))only[go_sem,seval]
       refine OpX.call Fs rfl (Calls.ret (E9 (hs1.chg0 hc15) cap ((k:Int)-1) (by omega) (by omega) (by omega) hf) ?_)
       rintro v6 w6 ⟨rfl,hc6⟩
       rw[Kp]
       simp -dsimp (disch:=first|omega|(simp only[go_sem,seval];try omega))only[go_sem,seval]
       refine⟨?_,hc15.trans0 hc6⟩
       simp [hiff,h2,h4,h5]
      ·refine⟨?_,hc15⟩
       simp [hiff,h2,h4,h5]
    ·simp -dsimp (disch:=first|omega|(simp only[go_sem,seval];try omega))only[go_sem,seval,m3]
     refine OpX.call F3 rfl (Calls.ret (GG _ l[k]) ?_)
     rintro v5 w5 ⟨rfl,hc5⟩
     have hc15:=hc13.trans0 hc5
     refine BrW.by (fun h5=>?_) (fun h5=>?_)
     ·simp -dsimp (disch:=first|omega|(simp only[go_sem,seval];try omega))only[go_sem,seval]
      refine OpX.call Fs rfl (Calls.ret (E9 (hs1.chg0 hc15) cap ((k:Int)-1) (by omega) (by omega) (by omega) hf) ?_)
      rintro v6 w6 ⟨rfl,hc6⟩
      rw[Kp]
      simp -dsimp (disch:=first|omega|(simp only[go_sem,seval];try omega))only[go_sem,seval]
      refine⟨?_,hc15.trans0 hc6⟩
      simp [hiff,h2,h3,h5]
     ·refine⟨?_,hc15⟩
      simp [hiff,h2,h3,h5]
  ·rintro v w2 ⟨rfl,hc2⟩
   refine BrW.by (fun h2=>?_) (fun h2=>?_)
   ·have hnr:right l=false:=by
     cases hr:right l
     ·rfl
     ·simp at h2
      rcases FN l hr k _ hgk with h|h
      ·rw[h] at h2;simp at h2
      ·rw[h] at h2;simp at h2
    exact hK _ _ ⟨by rw[hnr],hc1.trans0 hc2⟩
   ·simp -dsimp (disch:=first|omega|(simp only[go_sem,seval];try omega))only[go_sem,seval]
    refine hn (k+1) _ ⟨hc1.trans0 hc2,by omega,?_⟩ (by omega)
    intro i c hi hic
    by_cases he:i=k
    ·subst he
     rw[hgk] at hic;cases hic
     rw[Bool.not_eq_false'] at h2
     exact of_decide_eq_true h2
    ·exact hi1 i c (by omega) hic
 ·have hk:k=l.length:=by omega
  refine hK _ _ ⟨?_,hc1⟩
  rw[Hh l fun i c hic=>hi1 i c (by rw[hk];exact(List.getElem?_eq_some_iff.1 hic).1) hic]
theorem Rv (w:World) (x y:Int):Calls Tryz.prog 37 #[.int .i64 x,.int .i64 y] w (Ab fun v w'=>v=.bool (BH x y)∧w'=w):=by
 apply SI
 intro K hK
 unfold JS
 refine Join1.inl ?_
 simp -dsimp (disch:=first|omega|(simp only[go_sem,seval];try omega))only[go_sem,seval]
 refine BrW.dec (fun h1=>?_) (fun h1=>?_)
 ·simp -dsimp (disch:=first|omega|(simp only[go_sem,seval];try omega))only[go_sem,seval]
  refine BrW.dec (fun h2=>?_) (fun h2=>?_)
  ·simp -dsimp (disch:=first|omega|(simp only[go_sem,seval];try omega))only[go_sem,seval]
   refine BrW.dec (fun h3=>?_) (fun h3=>?_)
   ·simp -dsimp (disch:=first|omega|(simp only[go_sem,seval];try omega))only[go_sem,seval]
    refine hK _ _ ⟨?_,rfl⟩
    simp [BH,h1,h2,h3]
   ·refine hK _ _ ⟨?_,rfl⟩
    simp [BH,h3]
  ·refine hK _ _ ⟨?_,rfl⟩
   simp [BH,h2]
 ·refine hK _ _ ⟨?_,rfl⟩
  simp [BH,h1]
theorem bq {g:Gr} (hg:g.ok):(g.cs.length:Int).tdiv g.w=g.h:=by
 rw[hg.len]
 have h0:=hg.w0
 have:((g.w*g.h:Nat):Int)=(g.w:Int)*g.h:=by simp
 rw[this,Int.mul_tdiv_cancel_left _ (by omega)]
theorem O1 {w:World} {g:Gr} (hg:g.ok) {e:Option TypeId} {a:Option Addr} (hs:SxC w e a g.cs) (cap:Nat) (hcap:g.cs.length≤cap) (y:Nat) (hy:y<g.h):Calls Tryz.prog 39 #[g.val a cap,.int .i64 y] w
  (Ab fun v w'=>Ox w.heap.size w' 43 4 Cel.cells v (g.row y)∧Chg [] w w'):=by
 have h1:=hg.row_lt hy
 have h2:=hg.le
 have h3:=hg.w0
 have h4:=hg.w1
 have h5:=hg.h1
 have hd:=bq hg
 obtain⟨b,o,_,_,_,_,_,rfl,hb0,_⟩:=hs.at_ hg.ne
 clear hb0
 apply Pn
 intro K hK
 unfold IP
 simp -dsimp (disch:=first|omega|(simp only[go_sem,seval];try omega))only[go_sem,seval,Gr.val]
 have hc0:=Ay w (.cells #[.int .i64 g.w,.int .i64 g.h,.slice (some ⟨b,o,none⟩) g.cs.length cap] 38)
 have hg0:(w.alloc (.cells #[.int .i64 g.w,.int .i64 g.h,.slice (some ⟨b,o,none⟩) g.cs.length cap] 38)).heap[w.heap.size]?=some (.cells #[.int .i64 g.w,.int .i64 g.h,.slice (some ⟨b,o,none⟩) g.cs.length cap] 38):=by simp -dsimp (disch:=first|omega|(simp only[go_sem,seval];try omega))only[go_sem,seval]
 refine Join1.cut (fun v w'=>v=.bool false∧w'=(w.alloc (.cells #[.int .i64 g.w,.int .i64 g.h,.slice (some ⟨b,o,none⟩) g.cs.length cap] 38)).drew) ?_ ?_
 ·simp -dsimp (disch:=first|omega|(simp only[go_sem,seval];try omega))only[go_sem,seval]
  refine BrW.dec (fun h=>by omega) (fun _=>?_)
  simp -dsimp (disch:=first|omega|(simp only[go_sem,seval];try omega))only[go_sem,seval]
  refine BrW.dec (fun h=>by omega) (fun _=>?_)
  simp -dsimp (disch:=first|omega|(simp only[go_sem,seval];try omega))only[go_sem,seval]
  refine BrW.dec (fun h=>by omega) (fun _=>?_)
  simp -dsimp (disch:=first|omega|(simp only[go_sem,seval];try omega))only[go_sem,seval,hd]
  simp
 ·rintro v w1 ⟨rfl,rfl⟩
  have e1:(y:Int)*(g.w:Int)=((y*g.w:Nat):Int):=by simp
  have e2:((y*g.w:Nat):Int)+(g.w:Int)=((y*g.w+g.w:Nat):Int):=by simp
  simp -dsimp (disch:=first|omega|(simp only[go_sem,seval];try omega))only[go_sem,seval,e1,e2]
  have e3:slo o cap (y*g.w) 4=o+y*g.w*4:=by unfold slo;rw[if_neg (by omega)]
  have e4:y*g.w+g.w-y*g.w=g.w:=by omega
  rw[e3,e4]
  have hrl:=hg.row_len hy
  have hs1:SxC (((w.alloc (.cells #[.int .i64 g.w,.int .i64 g.h,.slice (some ⟨b,o,none⟩) g.cs.length cap] 38)).alloc (.cells #[] 43)).drew) e (some ⟨b,o+y*g.w*4,none⟩) (g.row y):=Sx.sub (hs.chg0 (BC _ _ _).drew) Cel.len (y*g.w) g.w _ (.inr (.inr rfl))
  have ho:Ox w.heap.size (((w.alloc (.cells #[.int .i64 g.w,.int .i64 g.h,.slice (some ⟨b,o,none⟩) g.cs.length cap] 38)).alloc (.cells #[] 43)).drew) 43 4 Cel.cells (.slice (some ⟨w.heap.size+1,0,none⟩) 0 0) []:=Ox.built (c:=[]) (by simp -dsimp (disch:=first|omega|(simp only[go_sem,seval];try omega))only[go_sem,seval]) Cel.len (by omega) rfl rfl (by omega) rfl
  refine Bv (l:=[]) (l2:=g.row y) Hn Cel.len Cel.ok ho hs1 (by rw[hrl]) (by simp;omega) (by omega) (by simp -dsimp (disch:=first|omega|(simp only[go_sem,seval];try omega))only[go_sem,seval];omega) ?_
  intro v' w' ho' hc' _
  exact hK _ _ ⟨by simpa using ho',EO ho (BC _ _ _).drew hc'⟩
theorem XC {w:World} {g:Gr} (hg:g.ok) (hr:g.right=true) {e:Option TypeId} {a:Option Addr} (hs:SxC w e a g.cs) (cap:Nat) (hcap:g.cs.length≤cap):Calls Tryz.prog 13 #[g.val a cap] w
  (Ab fun v w'=>v=.bool true∧Chg [] w w'):=by
 have hle:=hg.le
 have hm:(g.w:Int)*(g.h:Int)=(g.cs.length:Int):=by rw[hg.len];simp
 have h4:=hg.w1
 have h5:=hg.h1
 apply Vt
 intro K hK
 unfold N0
 simp -dsimp (disch:=first|omega|(simp only[go_sem,seval];try omega))only[go_sem,seval,Gr.val]
 have hc0:=Ay w (.cells #[.int .i64 g.w,.int .i64 g.h,.slice a g.cs.length cap] 38)
 have hg0:(w.alloc (.cells #[.int .i64 g.w,.int .i64 g.h,.slice a g.cs.length cap] 38)).heap[w.heap.size]?=some (.cells #[.int .i64 g.w,.int .i64 g.h,.slice a g.cs.length cap] 38):=by simp -dsimp (disch:=first|omega|(simp only[go_sem,seval];try omega))only[go_sem,seval]
 refine OpX.call au rfl (Calls.ret (Rv _ g.w g.h) ?_)
 rintro v w1 ⟨rfl,rfl⟩
 refine Join1.inl ?_
 simp -dsimp (disch:=first|omega|(simp only[go_sem,seval];try omega))only[go_sem,seval,hg.fits,hm]
 refine Loop1.st (fun k:Nat=>.int .i64 k) (fun k w'=>Chg [] w w'∧k≤g.h∧w'.heap[w.heap.size]?=some (.cells #[.int .i64 g.w,.int .i64 g.h,.slice a g.cs.length cap] 38)) (fun k=>g.h-k) 0 rfl ⟨hc0,by omega,hg0⟩ ?_
 rintro next k w2 hn ⟨hc2,hk,hg2⟩
 simp -dsimp (disch:=first|omega|(simp only[go_sem,seval];try omega))only[go_sem,seval,hg2]
 refine BrW.dec (fun h1=>?_) (fun h1=>hK _ _ ⟨rfl,hc2⟩)
 have hky:k<g.h:=by omega
 simp -dsimp (disch:=first|omega|(simp only[go_sem,seval];try omega))only[go_sem,seval,hg2]
 refine OpX.call I8 rfl (Calls.ret (O1 hg (hs.chg0 hc2) cap hcap k hky) ?_)
 rintro v3 w3 ⟨ho3,hc3⟩
 obtain⟨a3,cap3,rfl,hcap3,hs3,-⟩:=ho3.form
 have hrl:=hg.row_len hky
 have hrr:=Gr.right.at hr hky
 refine OpX.call aK rfl (Calls.ret (Vl hs3 cap3 (by omega) (RG hrr)) ?_)
 rintro v4 w4 ⟨rfl,hc4⟩
 rw[hrr]
 simp -dsimp (disch:=first|omega|(simp only[go_sem,seval];try omega))only[go_sem,seval]
 exact hn (k+1) _ ⟨(hc2.trans0 hc3).trans0 hc4,by omega,(hc3.trans0 hc4).keep hg2 (by simp)⟩ (by omega)
theorem Tl {w:World} (g:Gr) (a:Option Addr) (cap:Nat) (y:Int) (hy:y<0):Calls Tryz.prog 39 #[g.val a cap,.int .i64 y] w
  (Ab fun v w'=>v=.slice none 0 0∧Chg [] w w'):=by
 apply Pn
 intro K hK
 unfold IP
 simp -dsimp (disch:=first|omega|(simp only[go_sem,seval];try omega))only[go_sem,seval,Gr.val]
 refine Join1.inl ?_
 simp -dsimp (disch:=first|omega|(simp only[go_sem,seval];try omega))only[go_sem,seval]
 refine BrW.dec (fun _=>?_) (fun h=>absurd hy h)
 simp -dsimp (disch:=first|omega|(simp only[go_sem,seval];try omega))only[go_sem,seval]
 exact hK _ _ ⟨rfl,(Ay _ _).drew⟩
theorem Mr {w:World} {g:Gr} (hg:g.ok) {e:Option TypeId} {a:Option Addr} (hs:SxC w e a g.cs) (cap:Nat) (hcap:g.cs.length≤cap) {x:Nat} (hx:x<g.w) {y:Int} (hy:y<g.h):Calls Tryz.prog 15 #[g.val a cap,.int .i64 x,.int .i64 y] w
  (Ab fun v w'=>v=(if 0≤y then g.at x y.toNat else Cel.none).val∧Chg [] w w'):=by
 apply RD
 intro K hK
 unfold L1
 simp -dsimp (disch:=first|omega|(simp only[go_sem,seval];try omega))only[go_sem,seval,Gr.val]
 have hc0:=BC w (.cells #[.int .i64 g.w,.int .i64 g.h,.slice a g.cs.length cap] 38) (.cells #[.int .i32 0,.int .u8 0,.int .u8 0,.int .u8 0] 43)
 have ho0:((w.alloc (.cells #[.int .i64 g.w,.int .i64 g.h,.slice a g.cs.length cap] 38)).alloc (.cells #[.int .i32 0,.int .u8 0,.int .u8 0,.int .u8 0] 43)).heap[w.heap.size+1]?=some (.cells #[.int .i32 0,.int .u8 0,.int .u8 0,.int .u8 0] 43):=by simp -dsimp (disch:=first|omega|(simp only[go_sem,seval];try omega))only[go_sem,seval]
 generalize ((w.alloc (.cells #[.int .i64 g.w,.int .i64 g.h,.slice a g.cs.length cap] 38)).alloc (.cells #[.int .i32 0,.int .u8 0,.int .u8 0,.int .u8 0] 43))=w0 at hc0 ho0 ⊢
 by_cases h0:0≤y
 ·obtain⟨yn,rfl⟩:=Int.eq_ofNat_of_zero_le h0
  have hyn:yn<g.h:=by omega
  have hw1:=hg.w1
  have hrl:=hg.row_len hyn
  refine OpX.call I8 rfl (Calls.ret (O1 hg (hs.chg0 hc0) cap hcap yn hyn) ?_)
  rintro v w1 ⟨ho1,hc1⟩
  have hb1:=hc1.keep ho0 (by simp)
  have hlb:=Aa hb1
  obtain⟨a1,cap1,rfl,-,hs1,-⟩:=ho1.form
  rw[hrl]
  obtain⟨b,o,rfl,hb,hl1,hcell,-⟩:=SxC.cel hs1 (i:=x) (hg.row_get hx hyn)
  refine Join1.cut (fun v w'=>v=.bool false∧w'=w1) ?_ ?_
  ·simp -dsimp (disch:=first|omega|(simp only[go_sem,seval];try omega))only[go_sem,seval]
   refine BrW.dec (fun h=>by omega) (fun _=>?_)
   simp -dsimp (disch:=first|omega|(simp only[go_sem,seval];try omega))only[go_sem,seval]
   simp;omega
  ·rintro v w2 ⟨rfl,rfl⟩
   simp -dsimp (disch:=first|omega|(simp only[go_sem,seval];try omega))only[go_sem,seval,hl1,hb1]
   exact hK _ _ ⟨by rw[if_pos h0];simp [Cel.val],(hc0.trans0 hc1).set _ _ (by simp)⟩
 ·refine OpX.call I8 rfl (Calls.ret (Tl g a cap y (by omega)) ?_)
  rintro v w1 ⟨rfl,hc1⟩
  have hb1:=hc1.keep ho0 (by simp)
  have hlb:=Aa hb1
  refine Join1.inl ?_
  simp -dsimp (disch:=first|omega|(simp only[go_sem,seval];try omega))only[go_sem,seval]
  refine BrW.dec (fun h=>by omega) (fun _=>?_)
  simp -dsimp (disch:=first|omega|(simp only[go_sem,seval];try omega))only[go_sem,seval]
  refine BrW.dec (fun _=>?_) (fun h=>by omega)
  simp -dsimp (disch:=first|omega|(simp only[go_sem,seval];try omega))only[go_sem,seval,hb1]
  refine hK _ _ ⟨?_,(hc0.trans0 hc1).set _ _ (by simp)⟩
  rw[if_neg h0];rfl
theorem R6 {w:World} {e0:Option TypeId} {a:Option Addr} {es:List Ev} (hs:Sx w e0 evF a es) (cap:Nat) (hes:es.length≤maxLen) (x y b:Int):Calls Tryz.prog 3 #[.agg #[.int .i64 x,.int .i64 y],.slice a es.length cap,.int .i64 b] w
  (Ab fun v w'=>v=.bool true∧Chg [] w w'):=by
 have hml:maxLen=9223372036854775807:=rfl
 have hba:=cG b 255 (by omega) (by omega)
 apply cH
 intro K hK
 unfold MX
 simp -dsimp (disch:=first|omega|(simp only[go_sem,seval];try omega))only[go_sem,seval]
 have hca:=Ay w (.cells #[.int .i64 x,.int .i64 y] 23)
 have haz:(w.alloc (.cells #[.int .i64 x,.int .i64 y] 23)).heap[w.heap.size]?=some (.cells #[.int .i64 x,.int .i64 y] 23):=by simp -dsimp (disch:=first|omega|(simp only[go_sem,seval];try omega))only[go_sem,seval]
 generalize w.alloc (.cells #[.int .i64 x,.int .i64 y] 23)=wz at *
 refine OpX.call SN rfl (Calls.ret (Zd wz) ?_)
 rintro v w1 ⟨rfl,hc1⟩
 have az1:=hc1.keep haz (by simp)
 simp -dsimp (disch:=first|omega|(simp only[go_sem,seval];try omega))only[go_sem,seval,az1]
 refine OpX.call We rfl (Calls.ret (Wr w1 x y) ?_)
 rintro v w2 ⟨rfl,hc2⟩
 obtain⟨x1,x2⟩:=L3 (n:=x) (m:=40) (k:=1) (by omega)
 obtain⟨y1,y2⟩:=L3 (n:=y) (m:=19) (k:=2) (by omega)
 generalize D6 x 40 1=X at *
 generalize D6 y 19 2=Y at *
 simp -dsimp (disch:=first|omega|(simp only[go_sem,seval];try omega))only[go_sem,seval]
 refine OpX.call OA rfl (Calls.ret (Kg w2 X Y 6) ?_)
 rintro v w3 (⟨hno,-⟩|⟨-,s,S0,rfl,A3,ok3,fr,hc3⟩)
 ·exact absurd ⟨by omega,by omega,by omega,by omega⟩ hno
 have hc02:=(hca.trans0 hc1).trans0 hc2
 have hc03:=hc02.trans0 hc3
 have hz02:=hc02.size
 simp -dsimp (disch:=first|omega|(simp only[go_sem,seval];try omega))only[go_sem,seval]
 refine Loop1.st (fun q:Nat × Ss=>.int .i64 (q.1:Int)) (fun q w'=>q.1≤25∧q.1≤es.length∧SsAt w2.heap.size w' s q.2∧q.2.ok (1+5000*q.1)∧Chg [] w w') (fun q=>25-q.1) (0,S0) rfl ⟨Nat.zero_le _,Nat.zero_le _,A3,ok3.mono (by omega),hc03⟩ ?_
 rintro next ⟨i,S⟩ wi hn ⟨hi,hie,A,ok,hci⟩
 dsimp only at hi hie A ok ⊢
 have hzi:=hci.size
 refine Join1.cut (fun v w'=>v=.bool (decide (i<es.length∧i<25))∧w'=wi) ?_ ?_
 ·simp -dsimp (disch:=first|omega|(simp only[go_sem,seval];try omega))only[go_sem,seval]
  refine BrW.dec (fun g=>?_) (fun g=>⟨congrArg Value.bool (decide_eq_false (by omega)).symm,rfl⟩)
  simp -dsimp (disch:=first|omega|(simp only[go_sem,seval];try omega))only[go_sem,seval]
  exact congrArg Value.bool (decide_eq_decide.2 ⟨fun h=>by omega,fun h=>by omega⟩)
 rintro v wi' ⟨rfl,rfl⟩
 refine BrW.dec (fun g=>?_) (fun g=>?_)
 ·have hi':i<es.length:=g.1
  obtain⟨b',o,rfl,hbl,hcell⟩:=(hs.chg0 hci).get Qk (List.getElem?_eq_getElem hi')
  generalize es[i]=e at *
  simp only[evF] at hcell
  have e1:(i:Int)+1=((i+1:Nat):Int):=by omega
  simp -dsimp (disch:=first|omega|(simp only[go_sem,seval];try omega))only[go_sem,seval,hcell]
  have hcd:∀w8:World,Chg [] wi' w8→w2.heap.size≤w8.heap.size:=fun w8 h8=>by have:=h8.size;have:=hc03.size;have:=A.lt _ (.inl rfl);have:=A.los;omega
  refine OpX.call RT rfl (Calls.ret (Sq wi' e) ?_)
  rintro v w4 ⟨e',rfl,hc4⟩
  refine OpX.call My rfl (Calls.ret (L0 (A.chg0 hc4) ok (hcd _ hc4) (by omega) e') ?_)
  rintro v w5 ⟨S',A5,ok5,T5,-⟩
  simp -dsimp (disch:=first|omega|(simp only[go_sem,seval];try omega))only[go_sem,seval,e1]
  have hc5:Chg [] w w5:=by
   obtain⟨F,hF,hFo⟩:=T5.chg
   exact(hci.trans0 hc4).trans hF fun z hz=>.inr (by have:=A.lo z (hFo z hz);omega)
  exact hn (i+1,S') _ ⟨by dsimp only;omega,by dsimp only;omega,A5,ok5.mono (by dsimp only;omega),hc5⟩ (by dsimp only;omega)
 ·refine OpX.call O3 rfl (Calls.ret (MK A) ?_)
  rintro v w4 ⟨rfl,hc4⟩
  have A4:=A.chg0 hc4
  simp -dsimp (disch:=first|omega|(simp only[go_sem,seval];try omega))only[go_sem,seval]
  refine OpX.call Xn rfl (Calls.ret (df A4 ok _ (by omega)) ?_)
  rintro v w5 ⟨W,ks,hg,k1,k2,hG,hc5⟩
  have A5:=A4.chg0 hc5
  obtain⟨hWm,-⟩:=Ss.get_mem hg
  obtain⟨wok,wR,wnew,wn⟩:=ok.win W hWm
  have s0:=ok.w0
  have s1:=ok.w1
  have s2:=ok.h0
  have s3:=ok.h1
  have hb8:=aU ks S.cur S.cop S.back (AS .and .i64 b 255)
  obtain⟨t,ht⟩:∃t,t=Cs ks S.cur S.cop S.back (AS .and .i64 b 255):=⟨_,rfl⟩
  rw[←ht] at hG hb8
  have hf:=RU ok W t
  have hlast:∀k:Nat,(k:Int)<S.w→(S.grid W t).at k (S.h-1).toNat=AH t k:=fun k hk=>SQ ok W hb8 hk
  have hline:=fun r (hr:r∈W.L.root.bords W.L.R) (k j:Nat)=>@aV S _ ok W hWm t r hr k j
  generalize S.grid W t=G at *
  obtain⟨nb,cp,rfl,q1,q2,q3,q4⟩:=hG.sx
  have hgw:=hf.w
  have hgh:=hf.h
  simp -dsimp (disch:=first|omega|(simp only[go_sem,seval];try omega))only[go_sem,seval,Gr.val]
  have hw6:Chg [] w5 (w5.alloc (.cells #[.int .i64 G.w,.int .i64 G.h,.slice (some ⟨nb,0,none⟩) G.cs.length cp] 38)):=Ay _ _
  have a6:(w5.alloc (.cells #[.int .i64 G.w,.int .i64 G.h,.slice (some ⟨nb,0,none⟩) G.cs.length cp] 38)).heap[w5.heap.size]?=some (.cells #[.int .i64 G.w,.int .i64 G.h,.slice (some ⟨nb,0,none⟩) G.cs.length cp] 38):=by simp -dsimp (disch:=first|omega|(simp only[go_sem,seval];try omega))only[go_sem,seval]
  generalize w5.alloc (.cells #[.int .i64 G.w,.int .i64 G.h,.slice (some ⟨nb,0,none⟩) G.cs.length cp] 38)=w6 at *
  obtain⟨t12,ht12⟩:∃t12,t12=w5.heap.size:=⟨_,rfl⟩
  rw[←ht12] at a6 ⊢
  have hcheck:=XC hf.ok hf.r (q4.chg0 hw6) cp q1
  simp only[Gr.val] at hcheck
  refine OpX.call Ut rfl (Calls.ret (hcheck) ?_)
  rintro v w7 ⟨rfl,hc7⟩
  have a7:=hc7.keep a6 (by simp)
  have A7:=(A5.chg0 hw6).chg0 hc7
  have q7:=(q4.chg0 hw6).chg0 hc7
  have hci7:Chg [] w w7:=(((hci.trans0 hc4).trans0 hc5).trans0 hw6).trans0 hc7
  have egw:(G.w:Int)=S.w:=by omega
  have egh:(G.h:Int)=S.h:=by omega
  refine Join1.cut (fun v w'=>v=.bool false∧w'=w7) ?_ ?_
  ·simp -dsimp (disch:=first|omega|(simp only[go_sem,seval];try omega))only[go_sem,seval,a7]
   refine BrW.dec (fun h=>absurd egw h) (fun _=>?_)
   simp -dsimp (disch:=first|omega|(simp only[go_sem,seval];try omega))only[go_sem,seval,a7]
   exact congrArg Value.bool (decide_eq_false (by rw[egh];simp))
  rintro v w8 ⟨rfl,rfl⟩
  simp -dsimp (disch:=first|omega|(simp only[go_sem,seval];try omega))only[go_sem,seval]
  refine OpX.call IG rfl (Calls.ret (HC A7 ok _ (by omega)) ?_)
  rintro v w9 ⟨ks',k1',k2',rfl,hc9⟩
  have hkk:ks'=ks:=Uq k2' k2 (k1'.trans k1.symm)
  subst hkk
  rw[←ht]
  have a9:=hc9.keep a7 (by simp)
  have A9:=A7.chg0 hc9
  have q9:=q7.chg0 hc9
  have hci9:=hci7.trans0 hc9
  refine Loop1.st (fun q:Nat=>.int .i64 (q:Int)) (fun q w'=>(q:Int)≤S.w∧Chg [] w9 w') (fun q=>S.w.toNat-q) 0 rfl ⟨by omega,Chg.refl _ _⟩ ?_
  rintro next4 k wj hn4 ⟨hk,hcj⟩
  have aj:=hcj.keep a9 (by simp)
  have qj:=q9.chg0 hcj
  simp -dsimp (disch:=first|omega|(simp only[go_sem,seval];try omega))only[go_sem,seval]
  refine BrW.dec (fun g4=>?_) (fun g4=>?_)
  ·have e1:(k:Int)+1=((k+1:Nat):Int):=by omega
   have hat:=Mr (x:=k) (y:=S.h-1) hf.ok qj cp q1 (by omega) (by omega)
   rw[if_pos (by omega),hlast k g4] at hat
   simp only[Gr.val,Cel.val] at hat
   simp -dsimp (disch:=first|omega|(simp only[go_sem,seval];try omega))only[go_sem,seval,aj]
   refine OpX.call NC rfl (Calls.ret (hat) ?_)
   rintro v wk ⟨rfl,hck⟩
   simp -dsimp (disch:=first|omega|(simp only[go_sem,seval];try omega))only[go_sem,seval]
   have hal:=Ay wk (.cells #[.int .i32 (AH t k).r,.int .u8 (AH t k).fg.toNat,.int .u8 (AH t k).bg.toNat,.int .u8 (AH t k).a.toNat] 43)
   have am:(wk.alloc (.cells #[.int .i32 (AH t k).r,.int .u8 (AH t k).fg.toNat,.int .u8 (AH t k).bg.toNat,.int .u8 (AH t k).a.toNat] 43)).heap[wk.heap.size]?=some (.cells #[.int .i32 (AH t k).r,.int .u8 0,.int .u8 0,.int .u8 32] 43):=by simp -dsimp (disch:=first|omega|(simp only[go_sem,seval];try omega))only[go_sem,seval];rfl
   generalize wk.alloc (.cells #[.int .i32 (AH t k).r,.int .u8 (AH t k).fg.toNat,.int .u8 (AH t k).bg.toNat,.int .u8 (AH t k).a.toNat] 43)=wm at *
   refine Join1.cut (fun v w'=>v=.int .i32 (AH t k).r∧w'=wm) ?_ ?_
   ·simp -dsimp (disch:=first|omega|(simp only[go_sem,seval];try omega))only[go_sem,seval]
    refine BrW.dec (fun g5=>?_) (fun g5=>?_)
    ·have hkt:k<t.length:=by omega
     have hch:chL (Ap t) k=some (.int .u8 t[k].toNat):=by rw[Ou,if_pos (by omega),Int.toNat_natCast,List.getElem?_eq_getElem hkt];rfl
     have hr:(AH t k).r=(t[k].toNat:Int):=by unfold AH;rw[List.getElem?_eq_getElem hkt];rfl
     rw[hr]
     have hub:=t[k].toNat_lt
     generalize t[k]=bb at *
     simp -dsimp (disch:=first|omega|(simp only[go_sem,seval];try omega))only[go_sem,seval,hch]
    ·have hr:(AH t k).r=32:=by unfold AH;rw[List.getElem?_eq_none (by omega)];rfl
     rw[hr]
     exact⟨rfl,rfl⟩
   rintro v wm' ⟨rfl,rfl⟩
   refine Join1.cut (fun v w'=>v=.bool false∧w'=wm') ?_ ?_
   ·simp -dsimp (disch:=first|omega|(simp only[go_sem,seval];try omega))only[go_sem,seval,am]
   rintro v wm2 ⟨rfl,rfl⟩
   simp -dsimp (disch:=first|omega|(simp only[go_sem,seval];try omega))only[go_sem,seval,e1]
   exact hn4 (k+1) _ ⟨by omega,(hcj.trans0 hck).trans0 hal⟩ (by omega)
  ·have Aj:=A9.chg0 hcj
   refine OpX.call F7 rfl (Calls.ret (Hj Aj) ?_)
   rintro v wk ⟨rfl,rfl⟩
   refine OpX.call Ma rfl (Calls.ret (OP Aj hg wok) ?_)
   rintro v wb ⟨hbo,hcb⟩
   obtain⟨ab,cb,rfl,-,hbs,-,-⟩:=hbo.form
   have hbk:=Mt.bords_ok wok.lay.fits wok.lay.R
   have hbn:=Mt.bords_len W.L.root W.L.R
   have hfew:=wok.lay.few
   have ab9:=hcb.keep aj (by simp)
   have qb:=qj.chg0 hcb
   have hcib:Chg [] w wb:=(hci9.trans0 hcj).trans0 hcb
   refine Loop1.st (fun q:Nat=>.int .i64 (q:Int)) (fun q w'=>q≤(W.L.root.bords W.L.R).length∧Chg [] wb w') (fun q=>(W.L.root.bords W.L.R).length-q) 0 rfl ⟨Nat.zero_le _,Chg.refl _ _⟩ ?_
   rintro next7 k7 w17 hn7 ⟨hk7,hc17⟩
   simp -dsimp (disch:=first|omega|(simp only[go_sem,seval];try omega))only[go_sem,seval]
   refine BrW.dec (fun g7=>?_) (fun g7=>?_)
   ·have hi7:k7<(W.L.root.bords W.L.R).length:=by omega
    have hxm:=List.getElem_mem hi7
    have hxe:(W.L.root.bords W.L.R)[k7]?=some (W.L.root.bords W.L.R)[k7]:=List.getElem?_eq_getElem hi7
    have hlr:=hline _ hxm
    generalize (W.L.root.bords W.L.R)[k7]=r at *
    obtain⟨xr,-⟩:=hbk r hxm
    have z0:=xr.x0
    have z1:=xr.y0
    have z2:=xr.xw
    have z3:=xr.yh
    have z4:=xr.w0
    have z5:=xr.h0
    have hl7:k7<(W.L.root.bords W.L.R).length:=hi7
    obtain⟨bb,o,rfl,hbl,-⟩:=(hbs.chg0 hc17).get (m:=4) (fun _=>rfl) hxe
    have hcell:∀w',Chg [] wb w'→Aw w'.heap[bb]? (o+k7*4)=some (.int .i64 r.x)∧Aw w'.heap[bb]? (o+k7*4+1)=some (.int .i64 r.y)∧Aw w'.heap[bb]? (o+k7*4+2)=some (.int .i64 r.w)∧Aw w'.heap[bb]? (o+k7*4+3)=some (.int .i64 r.h):=by
     intro w' hw'
     obtain⟨b2,o2,e2,-,h2⟩:=(hbs.chg0 hw').get (m:=4) (fun _=>rfl) hxe
     simp only[Option.some.injEq,Addr.mk.injEq,and_true] at e2
     obtain⟨rfl,rfl⟩:=e2
     exact⟨B8 h2 0 (by omega),B8 h2 1 (by omega),B8 h2 2 (by omega),B8 h2 3 (by omega)⟩
    obtain⟨d0,d1,d2,d3⟩:=hcell w17 hc17
    have e7:(k7:Int)+1=((k7+1:Nat):Int):=by omega
    simp -dsimp (disch:=first|omega|(simp only[go_sem,seval];try omega))only[go_sem,seval,d1]
    refine Loop1.st (fun j:Nat=>.int .i64 (r.y+j)) (fun j w'=>(j:Int)≤r.h∧Chg [] wb w') (fun j=>r.h.toNat-j) 0 (show Value.int .i64 r.y=Value.int .i64 (r.y+((0:Nat):Int)) by simp) ⟨by omega,hc17⟩ ?_
    rintro next8 j w20 hn8 ⟨hj,hc20⟩
    obtain⟨f0,f1,f2,f3⟩:=hcell w20 hc20
    simp -dsimp (disch:=first|omega|(simp only[go_sem,seval];try omega))only[go_sem,seval,f1,f3]
    refine BrW.dec (fun g8=>?_) (fun g8=>?_)
    ·have hd20:Chg [] wb w20.drew:=hc20.drew
     obtain⟨i0,i1,i2,i3⟩:=hcell _ hd20
     have e8:r.y+(j:Int)+1=r.y+((j+1:Nat):Int):=by omega
     simp -dsimp (disch:=first|omega|(simp only[go_sem,seval];try omega))only[go_sem,seval,f0]
     refine Loop1.st (fun m:Nat=>.int .i64 (r.x+m)) (fun m w'=>(m:Int)≤r.w∧Chg [] wb w') (fun m=>r.w.toNat-m) 0 (show Value.int .i64 r.x=Value.int .i64 (r.x+((0:Nat):Int)) by simp) ⟨by omega,hd20⟩ ?_
     rintro next9 m w21 hn9 ⟨hm,hc21⟩
     obtain⟨j0,j1,j2,j3⟩:=hcell w21 hc21
     simp -dsimp (disch:=first|omega|(simp only[go_sem,seval];try omega))only[go_sem,seval,j0,j2]
     refine BrW.dec (fun g9=>?_) (fun g9=>?_)
     ·obtain⟨P,hP⟩:∃P:Nat,r.x+m=P:=⟨(r.x+m).toNat,by omega⟩
      obtain⟨Q,hQ⟩:∃Q:Nat,r.y+j=Q:=⟨(r.y+j).toNat,by omega⟩
      obtain⟨l1,l2,r',hat0⟩:=hlr P Q (by omega) (by omega) (by omega) (by omega)
      have e9:(P:Int)+1=r.x+((m+1:Nat):Int):=by omega
      have hd21:Chg [] wb w21.drew:=hc21.drew
      have hat:=Mr (x:=P) (y:=(Q:Int)) hf.ok (qb.chg0 hd21) cp q1 (by omega) (by omega)
      rw[if_pos (by omega),Int.toNat_natCast,hat0] at hat
      simp only[Gr.val,Cel.val] at hat
      have a21:=hd21.keep ab9 (by simp)
      rw[hP,hQ] at *
      simp -dsimp (disch:=first|omega|(simp only[go_sem,seval];try omega))only[go_sem,seval,a21]
      refine OpX.call NC rfl (Calls.ret (hat) ?_)
      rintro v w22 ⟨rfl,hc22⟩
      have hlc:BM r'=⟨124,0,0,0⟩∨BM r'=⟨45,0,0,0⟩:=by
       unfold BM
       split
       ·exact .inl rfl
       ·exact .inr rfl
      obtain⟨rr,hrr,hrc⟩:∃rr:Int,(rr=124∨rr=45)∧BM r'=⟨rr,0,0,0⟩:=hlc.elim (fun h=>⟨124,.inl rfl,h⟩) (fun h=>⟨45,.inr rfl,h⟩)
      rw[hrc]
      simp -dsimp (disch:=first|omega|(simp only[go_sem,seval];try omega))only[go_sem,seval]
      have hal:=Ay w22 (.cells #[.int .i32 rr,.int .u8 0,.int .u8 0,.int .u8 0] 43)
      have am:(w22.alloc (.cells #[.int .i32 rr,.int .u8 0,.int .u8 0,.int .u8 0] 43)).heap[w22.heap.size]?=some (.cells #[.int .i32 rr,.int .u8 0,.int .u8 0,.int .u8 0] 43):=by simp -dsimp (disch:=first|omega|(simp only[go_sem,seval];try omega))only[go_sem,seval]
      generalize w22.alloc (.cells #[.int .i32 rr,.int .u8 0,.int .u8 0,.int .u8 0] 43)=wm at *
      refine Join1.cut (fun v w'=>v=.bool false∧w'=wm) ?_ ?_
      ·simp -dsimp (disch:=first|omega|(simp only[go_sem,seval];try omega))only[go_sem,seval,am]
       refine BrW.dec (fun g10=>?_) (fun g10=>?_)
       ·simp -dsimp (disch:=first|omega|(simp only[go_sem,seval];try omega))only[go_sem,seval,am]
        refine BrW.dec (fun g11=>absurd hrr (by omega)) (fun g11=>?_)
        simp -dsimp (disch:=first|omega|(simp only[go_sem,seval];try omega))only[go_sem,seval]
        exact congrArg Value.bool (decide_eq_false (by omega))
       ·simp -dsimp (disch:=first|omega|(simp only[go_sem,seval];try omega))only[go_sem,seval]
        exact congrArg Value.bool (decide_eq_false (by omega))
      rintro v wm2 ⟨rfl,rfl⟩
      simp -dsimp (disch:=first|omega|(simp only[go_sem,seval];try omega))only[go_sem,seval,e9]
      exact hn9 (m+1) _ ⟨by omega,(hd21.trans0 hc22).trans0 hal⟩ (by omega)
     ·simp -dsimp (disch:=first|omega|(simp only[go_sem,seval];try omega))only[go_sem,seval,e8]
      exact hn8 (j+1) _ ⟨by omega,hc21.drew⟩ (by omega)
    ·simp -dsimp (disch:=first|omega|(simp only[go_sem,seval];try omega))only[go_sem,seval,e7]
     exact hn7 (k7+1) _ ⟨by omega,hc20.drew⟩ (by omega)
   ·exact hK _ _ ⟨rfl,hcib.trans0 hc17⟩
end Go.Proofs.YtelplojmbjnplaaGreat
