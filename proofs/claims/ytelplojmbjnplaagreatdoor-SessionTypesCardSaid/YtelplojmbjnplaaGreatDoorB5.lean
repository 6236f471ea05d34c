/- Helpers of this claim, part 5: engine, translated functions, contracts, plain laws. -/
import Derived.Test.YtelplojmbjnplaaGreatDoorB4
set_option linter.unusedSimpArgs false
set_option linter.unusedVariables false
namespace Go.Proofs.YtelplojmbjnplaaGreatDoor
open Lyc Go
theorem Oa:∀(t:List UInt8) (ks:List Ky) (tx:List UInt8),(∀b∈t,b≠2)→Kst.feed ⟨false,false,ks,tx⟩ t=⟨false,false,ks,tx++t⟩
 | [],ks,tx,_=>by rw[List.append_nil];rfl
 | b::t,ks,tx,h=>by
  have hb:b≠2:=h b (by simp)
  have e:Kst.step ⟨false,false,ks,tx⟩ b=⟨false,false,ks,tx++[b]⟩:=by unfold Kst.step;simp [hb]
  show Kst.feed (Kst.step ⟨false,false,ks,tx⟩ b) t=_
  rw[e,Oa t ks (tx++[b]) (fun x hx=>h x (by simp [hx])),List.append_assoc]
  rfl
theorem TR {t:List UInt8} (h:∀b∈t,b≠2):∃ks:List Ky,Bs false false (t++[2,2])=⟨false,false,ks,[]⟩∧(∀k∈ks,k.kind=1)∧(ks.map (·.s)).flatten=t++[2]∧ks.length≤2:=by
 have e:Kst.feed ⟨false,false,[],[]⟩ (t++[2,2])=Kst.feed ⟨false,false,[],t⟩ [2,2]:=by
  unfold Kst.feed
  rw[List.foldl_append]
  have:=Oa t [] [] h
  unfold Kst.feed at this
  rw[this,List.nil_append]
 unfold Bs
 rw[e]
 cases t with
 | nil=>exact⟨[⟨1,0,[2]⟩],rfl,by simp,rfl,by simp⟩
 | cons b t=>exact⟨[⟨1,0,b::t⟩,⟨1,0,[2]⟩],rfl,by simp,by simp,by simp⟩
theorem KRun.texts {S S':Ss} {ks:List Ky} {vs:List (List UInt8 × Value)} (run:KRun S ks S' vs) {W:Wn} (hg:S.get S.cur=some W) (hk:∀k∈ks,k.kind=1) (hl:S.typed.length+ks.length≤100) :
  S'.wins=S.wins∧S'.cur=S.cur∧S'.back=S.back∧S'.typed=S.typed++ks.map (fun k=>⟨S.cur,W.active,k.s⟩)∧∀p∈vs,p.2=.nilIface:=by
 induction run with
 | nil=>exact⟨rfl,rfl,rfl,by simp,by simp⟩
 | @snoc ks k S1 S2 vs word v run rel ih =>
  rw[List.length_append] at hl
  obtain⟨h1,h2,h3,h4,h5⟩:=ih (fun k hk'=>hk k (by simp [hk'])) (by omega)
  obtain⟨rfl,W1,g1,e1,e2,e3,e4⟩:=rel.k1 (hk k (by simp))
  have hW:W1=W:=by
   unfold Ss.get at g1 hg
   rw[h1,h2] at g1
   exact Option.some.inj (g1.symm.trans hg)
  subst hW
  refine⟨e2.trans h1,e3.trans h2,e4.trans h3,?_,?_⟩
  ·rw[e1,h4,h2]
   unfold By
   have hz:∀l:List Tp,l.length≤100→l.drop (l.length-100)=l:=fun l h=>by rw[show l.length-100=0 by omega,List.drop_zero]
   rw[hz _ (by simp at hl ⊢;omega),List.map_append,List.append_assoc]
   rfl
  ·intro p hp
   rcases List.mem_append.1 hp with hp|hp
   ·exact h5 p hp
   ·simp at hp;subst hp;rfl
theorem DRel.keysR {S:Ss} {e:Ev} {S':Ss} {v:Value} {w':World} (h:DRel S e S' v w') (hl:e.s.length≤2000) (hk:e.kind=1) {ks:List Ky} {c p:Bool} (hks:Bs S.cop S.pre e.s=⟨c,p,ks,[]⟩) :
  ∃vs,KRun { S with cop:=c,pre:=p } ks S' vs∧((∀p∈vs,p.2=.nilIface)→v=.nilIface):=by
 cases h with
 | keys vs h1 h2 run h3 h4 =>
  rw[hks] at run
  exact⟨vs,run,h3⟩
 | long h=>omega
 | outN _ h=>omega
 | outY _ _ _ _ _ h=>omega
 | sizeA _ h=>omega
 | sizeN _ h=>omega
 | sizeY _ _ h=>omega
 | kind _ h=>exact absurd hk h
theorem Ou {α:Type} (l:List (List α)) (q:Nat):(l.take q).flatten.length≤l.flatten.length:=by
 conv=>rhs;rw[←List.take_append_drop q l,List.flatten_append,List.length_append]
 omega
section
variable {base:Nat} {w w':World} {s:Nat} {S:Ss} {lim:Int}
theorem OZ (h:SsAt base w s S):Calls Tryz.prog 20 #[.pointer (some ⟨s,0,none⟩)] w
  (Ac fun v w'=>∃a cap,v=.slice a S.typed.length cap∧Sx w' (some 56) Tp.cells a S.typed∧SsAt base w' s { S with typed:=[],tv:=.slice none 0 0 }∧Trn (S.own s) (({ S with typed:=[],tv:=.slice none 0 0 }:Ss).own s) w w'∧Chg [s] w w'):=by
 have hb:=h.hb
 have ls:=Aa hb
 obtain⟨a,cap,ev,hle,hs,-,-⟩:=h.ho.form
 rw[ev] at hb
 apply Uw
 intro K hK
 unfold LS
 simp -dsimp (disch:=first|omega|(simp only[go_sem,seval];try omega))only[go_sem,seval,hb]
 have hcs:Chg [s] w (Ab w s (.cells #[.int .i64 S.w,.int .i64 S.h,.int .i64 S.room,.map (some S.m),.int .i64 S.cur,.bool S.cop,.bool S.pre,.int .i64 S.back,.slice none 0 0,.int .i64 S.dis] 80)):=(Chg.refl _ _).set _ _ (by simp)
 obtain⟨A,T⟩:=h.retype (tv:=.slice none 0 0) (l:=[]) hcs (by simp) (Ar _ _ _ _ rfl ls) (Ox.nil _ _ _ _ _) (by simp [Value.ownBlock])
 refine hK _ _ ⟨a,cap,rfl,hs.chg hcs fun b o e hne hm=>?_,A,T,hcs⟩
 simp at hm
 subst hm
 exact hs.ne e hne hb rfl rfl
end
theorem S3 (w:World) (x y:Int) (ss out:List UInt8) (hss:ss.length≤maxLen) (hout:out.length≤maxLen) (hL:Ct w):Calls Tryz.prog 5 #[.agg #[.int .i64 x,.int .i64 y],.string (Ap ss),.string (Ap out)] w
  (Ac fun v w'=>v=.bool true∧Chg [] w w'):=by
 have hml:maxLen=9223372036854775807:=rfl
 apply UQ
 intro K hK
 unfold Ot
 simp -dsimp (disch:=first|omega|(simp only[go_sem,seval];try omega))only[go_sem,seval]
 have hca:=AB w (.cells #[.int .i64 x,.int .i64 y] 23)
 have haz:(w.alloc (.cells #[.int .i64 x,.int .i64 y] 23)).heap[w.heap.size]?=some (.cells #[.int .i64 x,.int .i64 y] 23):=by simp -dsimp (disch:=first|omega|(simp only[go_sem,seval];try omega))only[go_sem,seval]
 generalize w.alloc (.cells #[.int .i64 x,.int .i64 y] 23)=wz at *
 refine OpX.call QQ rfl (Calls.ret (Ta wz) ?_)
 rintro v w1 ⟨rfl,hc1⟩
 have az1:=hc1.keep haz (by simp)
 simp -dsimp (disch:=first|omega|(simp only[go_sem,seval];try omega))only[go_sem,seval,az1]
 refine OpX.call XA rfl (Calls.ret (Qb w1 x y) ?_)
 rintro v w2 ⟨rfl,hc2⟩
 obtain⟨x1,x2⟩:=Oc (n:=x) (m:=40) (k:=1) (by omega)
 obtain⟨y1,y2⟩:=Oc (n:=y) (m:=19) (k:=2) (by omega)
 generalize Dw x 40 1=X at *
 generalize Dw y 19 2=Y at *
 simp -dsimp (disch:=first|omega|(simp only[go_sem,seval];try omega))only[go_sem,seval]
 refine OpX.call KL rfl (Calls.ret (Pc w2 X Y 6) ?_)
 rintro v w3 (⟨hno,-⟩|⟨-,s,S0,rfl,A3,ok3,fr,hc3⟩)
 ·exact absurd ⟨by omega,by omega,by omega,by omega⟩ hno
 have hc02:=(hca.trans0 hc1).trans0 hc2
 have hc03:=hc02.trans0 hc3
 have hz02:=hc02.size
 have hcd3:w2.heap.size≤w3.heap.size:=hc3.size
 simp -dsimp (disch:=first|omega|(simp only[go_sem,seval];try omega))only[go_sem,seval]
 refine OpX.call Eu rfl (Calls.ret (E2 A3 ok3 hcd3 (by decide) ⟨1,0,0,[2,99],0,0⟩) ?_)
 rintro v w4 ⟨S,A4,ok4,T4,rel⟩
 obtain⟨word,v0,r,-,-⟩:=rel.key1 (by decide) rfl (by rw[fr.cop,fr.pre];exact Zo)
 have hc04:Chg [] w w4:=by
  obtain⟨F,hF,hFo⟩:=T4.chg
  exact hc03.trans hF fun z hz=>.inr (by have:=A3.lo z (hFo z hz);omega)
 have hS:S.cur=2∧S.back=0∧S.pre=false∧S.cop=false∧S.typed=[]∧∃V U,S.wins=[V,U]∧V.n=1∧U.n=2∧V.active=1∧U.active=1∧(∃t,V.L.root=.pane t 1)∧∃t,U.L.root=.pane t 1:=by
  obtain⟨V,hw,hn,hact,ht⟩:=fr.wins
  have hids:(({ S0 with cop:=false,pre:=false }:Ss).wins.map (·.n))=[1]:=by show S0.wins.map (·.n)=[1];rw[hw,List.map_cons,hn];rfl
  rcases r.k6 rfl with ⟨-,U,n,n1,n9,hUn,hno,hall,hUa,hUr,hwins,hcur,hback⟩|⟨-,-,hall,-⟩
  ·rw[hids] at hno hall
   have hn2:n=2:=by
    rcases Nat.lt_or_ge 2 n with h|h
    ·have:=hall 2 (by omega) h;simp at this
    ·have:n≠1:=by rintro rfl;simp at hno
     omega
   subst hn2
   exact⟨hcur,hback,r.pre,r.cop.elim id id,(r.typ (by decide)).trans fr.typed,V,U,by rw[hwins];show S0.wins++[U]=_;rw[hw];rfl,hn,hUn,hact,hUa,ht,hUr⟩
  ·rw[hids] at hall
   have:=hall 2 (by omega) (by omega)
   simp at this
 obtain⟨s1,s2,s3,s4,s5,V,U,hw,v1,u1,v2,u2,⟨t1,v3⟩,⟨t2,u3⟩⟩:=hS
 refine Loop2.st (fun q:Nat=>.string (Ap ((ss.take q).filter (·≠2)))) (fun q=>.int .i64 (q:Int)) (fun q w'=>q≤ss.length∧q≤40∧w'=w4) (fun q=>40-q) 0 rfl rfl ⟨Nat.zero_le _,Nat.zero_le _,rfl⟩ ?_
 rintro next i wi hn ⟨hi,hi40,rfl⟩
 refine Join1.cut (fun v w'=>v=.bool (decide (i<ss.length∧i<40))∧w'=wi) ?_ ?_
 ·simp -dsimp (disch:=first|omega|(simp only[go_sem,seval];try omega))only[go_sem,seval]
  refine BrW.dec (fun g=>?_) (fun g=>⟨congrArg Value.bool (decide_eq_false (by omega)).symm,rfl⟩)
  simp -dsimp (disch:=first|omega|(simp only[go_sem,seval];try omega))only[go_sem,seval]
  exact congrArg Value.bool (decide_eq_decide.2 ⟨fun h=>by omega,fun h=>by omega⟩)
 rintro v wi' ⟨rfl,rfl⟩
 refine BrW.dec (fun g=>?_) (fun g=>?_)
 ·have hi':i<ss.length:=g.1
  have hch:chL (Ap ss) i=some (.int .u8 ss[i].toNat):=by rw[Vl,if_pos (by omega),Int.toNat_natCast,List.getElem?_eq_getElem hi'];rfl
  have htk:=CC hi'
  have hub:=ss[i].toNat_lt
  have e1:(i:Int)+1=((i+1:Nat):Int):=by omega
  have hfl:=List.length_filter_le (fun x:UInt8=>decide (x≠2)) (ss.take i)
  rw[List.length_take] at hfl
  have hnext:(ss.take (i+1)).filter (·≠2)=(ss.take i).filter (·≠2)++(if ss[i]=2 then[] else[ss[i]]):=by
   rw[htk,List.filter_append,List.filter_cons,List.filter_nil]
   by_cases hb:ss[i]=2
   ·rw[if_pos hb,if_neg (by simp [hb])]
   ·rw[if_neg hb,if_pos (by simp [hb])]
  generalize (ss.take i).filter (·≠2)=T0 at *
  refine Join1.cut (fun v w'=>v=.string (Ap ((ss.take (i+1)).filter (·≠2)))∧w'=wi') ?_ ?_
  ·rw[hnext]
   simp -dsimp (disch:=first|omega|(simp only[go_sem,seval];try omega))only[go_sem,seval,hch]
   refine BrW.dec (fun h=>?_) (fun h=>?_)
   ·have hb:ss[i]≠2:=by rintro e;rw[e] at h;exact h rfl
    rw[if_neg hb]
    simp -dsimp (disch:=first|omega|(simp only[go_sem,seval];try omega))only[go_sem,seval]
    rw[JW,show((i:Int)+1).toNat=i+1 by omega,show(ss.drop i).take (i+1-i)=[ss[i]] by rw[show i+1-i=1 by omega,List.drop_eq_getElem_cons hi'];rfl]
    simp -dsimp (disch:=first|omega|(simp only[go_sem,seval];try omega))only[go_sem,seval]
   ·have hb:ss[i]=2:=by
     have:ss[i].toNat=2:=by omega
     exact UInt8.toNat_inj.1 this
    rw[if_pos hb,List.append_nil]
    exact⟨rfl,rfl⟩
  ·rintro v w5 ⟨rfl,rfl⟩
   simp -dsimp (disch:=first|omega|(simp only[go_sem,seval];try omega))only[go_sem,seval,e1]
   exact hn (i+1) _ ⟨by omega,by omega,rfl⟩ (by omega)
 ·have hT2:∀b∈(ss.take i).filter (·≠2),b≠2:=fun b hb=>by simpa using (List.mem_filter.1 hb).2
  have hTl:=List.length_filter_le (fun x:UInt8=>decide (x≠2)) (ss.take i)
  rw[List.length_take] at hTl
  generalize (ss.take i).filter (·≠2)=T at *
  refine Join1.cut (fun v w'=>∃o:List UInt8,v=.string (Ap o)∧o.length≤40∧w'=wi') ?_ ?_
  ·simp -dsimp (disch:=first|omega|(simp only[go_sem,seval];try omega))only[go_sem,seval]
   refine BrW.dec (fun h=>?_) (fun h=>⟨out,rfl,by omega,rfl⟩)
   simp -dsimp (disch:=first|omega|(simp only[go_sem,seval];try omega))only[go_sem,seval]
   exact⟨_,congrArg Value.string (JW out 0 40),by rw[List.length_take];omega⟩
  rintro v w5 ⟨o,rfl,hol,rfl⟩
  rw[show({ data:=#[2,2] }:ByteArray)=Ap [2,2] from rfl]
  simp -dsimp (disch:=first|omega|(simp only[go_sem,seval];try omega))only[go_sem,seval]
  have hz4:=hc04.size
  have hcd4:w2.heap.size≤w5.heap.size:=by have:=A4.lt _ (.inl rfl);have:=A4.los;omega
  refine OpX.call Eu rfl (Calls.ret (E2 A4 ok4 hcd4 (by decide) ⟨1,0,0,T++[2,2],0,0⟩) ?_)
  rintro v w6 ⟨S5,A6,ok6,T6,rel6⟩
  obtain⟨ks,hks,hk1,hkf,hkl⟩:=TR hT2
  obtain⟨vs,run,hv⟩:=rel6.keysR (by show(T++[2,2]).length≤2000;rw[List.length_append];simp;omega) rfl (by rw[s3,s4];exact hks)
  have hgU:({ S with cop:=false,pre:=false }:Ss).get S.cur=some U:=by
   show S.wins.find? _=_
   rw[hw,s1]
   simp [Wn.ent,v1,u1]
  obtain⟨r1,r2,r3,r4,r5⟩:=run.texts hgU hk1 (by show S.typed.length+_≤100;rw[s5];simp;omega)
  obtain rfl:=hv r5
  have r1:S5.wins=[V,U]:=r1.trans hw
  have r2:S5.cur=2:=r2.trans s1
  have r3:S5.back=0:=r3.trans s2
  have r4:S5.typed=ks.map fun k=>(⟨2,1,k.s⟩:Tp):=by
   rw[r4]
   show S.typed++ks.map (fun k=>(⟨S.cur,U.active,k.s⟩:Tp))=_
   rw[s5,s1,u2];rfl
  have hc06:Chg [] w w6:=by
   obtain⟨F,hF,hFo⟩:=T6.chg
   exact hc04.trans hF fun z hz=>.inr (by have:=A4.lo z (hFo z hz);omega)
  have hfl:(S5.typed.map (·.s)).flatten=T++[2]:=by rw[r4,List.map_map];exact hkf
  refine OpX.call Nl rfl (Calls.ret (OZ A6) ?_)
  rintro v w7 ⟨xa,xc,rfl,hxs,A7,T7,hc7⟩
  have hl7:S5.typed.length≤2:=by rw[r4,List.length_map];exact hkl
  have hc07:Chg [] w w7:=hc06.trans hc7 fun z hz=>by simp at hz;subst hz;exact .inr (by have:=A6.los;omega)
  refine OpX.call Nl rfl (Calls.ret (OZ A7) ?_)
  rintro v w8 ⟨ya,yc,ev,-,A8,T8,hc8⟩
  obtain rfl:v=.slice ya 0 yc:=ev
  have hc08:Chg [] w w8:=hc07.trans hc8 fun z hz=>by simp at hz;subst hz;exact .inr (by have:=A6.los;omega)
  have hxs8:Sx w8 (some 56) Tp.cells xa S5.typed:=hxs.chg hc8 fun b o e hne hm=>by
   simp at hm
   subst hm
   exact hxs.ne e hne A7.hb rfl rfl
  obtain⟨S8,hS8⟩:∃S8:Ss,S8={ S5 with typed:=[],tv:=.slice none 0 0 }:=⟨_,rfl⟩
  have A8:SsAt w2.heap.size w8 s S8:=by rw[hS8];exact A8
  have ok8:S8.ok (1+5000+5000):=by rw[hS8];exact⟨ok6.w0,ok6.w1,ok6.h0,ok6.h1,ok6.win,ok6.cur,ok6.back0,ok6.back1,by simp,ok6.dis0,ok6.dis1⟩
  have q1:S8.wins=[V,U]:=by rw[hS8];exact r1
  have q2:S8.cur=2:=by rw[hS8];exact r2
  have q3:S8.back=0:=by rw[hS8];exact r3
  clear hS8 A7 A6 T6 T7 T8 ok6
  rw[show({ data:=#[] }:ByteArray)=Ap [] from rfl]
  refine Loop2.st (fun q:Nat=>.string (Ap ((S5.typed.map (·.s)).take q).flatten)) (fun q=>.int .i64 (q:Int)) (fun q w'=>q≤S5.typed.length∧w'=w8) (fun q=>S5.typed.length-q) 0 rfl rfl ⟨Nat.zero_le _,rfl⟩ ?_
  rintro next5 q wq hn5 ⟨hq,rfl⟩
  simp -dsimp (disch:=first|omega|(simp only[go_sem,seval];try omega))only[go_sem,seval]
  refine BrW.dec (fun g5=>?_) (fun g5=>?_)
  ·have hq':q<S5.typed.length:=by omega
   have hxe:S5.typed[q]?=some S5.typed[q]:=List.getElem?_eq_getElem hq'
   have hall:∀z∈S5.typed,z.win=2∧z.pane=1:=by
    rw[r4]
    intro z hz
    obtain⟨k,-,rfl⟩:=List.mem_map.1 hz
    exact⟨rfl,rfl⟩
   have hx12:=hall _ (List.getElem_mem hq')
   have hqm:(S5.typed.map (·.s))[q]?=some S5.typed[q].s:=by rw[List.getElem?_map,hxe];rfl
   have htq:((S5.typed.map (·.s)).take (q+1)).flatten=((S5.typed.map (·.s)).take q).flatten++S5.typed[q].s:=by
    rw[List.take_add_one,hqm,List.flatten_append];simp
   have hb1:=Ou (S5.typed.map (·.s)) q
   have hb2:=Ou (S5.typed.map (·.s)) (q+1)
   rw[hfl,List.length_append,List.length_singleton] at hb1 hb2
   rw[htq,List.length_append] at hb2
   obtain⟨b,o',rfl,hbl,hcell⟩:=hxs8.get (m:=3) Tp.len hxe
   have e1:(q:Int)+1=((q+1:Nat):Int):=by omega
   generalize S5.typed[q]=x at *
   obtain⟨xw,xp,xs⟩:=x
   obtain⟨rfl,rfl⟩:=hx12
   have f0:Au wq.heap[b]? (o'+q*3)=some (.int .i64 2):=BG hcell 0 (by omega)
   have f1:Au wq.heap[b]? (o'+q*3+1)=some (.int .i64 1):=BG hcell 1 (by omega)
   have f2:Au wq.heap[b]? (o'+q*3+2)=some (.string (Ap xs)):=BG hcell 2 (by omega)
   dsimp only at htq hb2
   generalize ((S5.typed.map (·.s)).take q).flatten=fl at *
   refine Join1.cut (fun v w'=>v=.bool false∧w'=wq) ?_ ?_
   ·simp -dsimp (disch:=first|omega|(simp only[go_sem,seval];try omega))only[go_sem,seval,f0,f1]
   rintro v w9 ⟨rfl,rfl⟩
   simp -dsimp (disch:=first|omega|(simp only[go_sem,seval];try omega))only[go_sem,seval,f2,e1]
   rw[←htq]
   exact hn5 (q+1) _ ⟨by omega,rfl⟩ (by omega)
  ·have hql:q=S5.typed.length:=by omega
   have htq:((S5.typed.map (·.s)).take q).flatten=T++[2]:=by rw[hql,←List.length_map (f:=(·.s)),List.take_length,hfl]
   rw[htq]
   have hgU:S8.get 2=some U:=by unfold Ss.get;rw[q1];simp [Wn.ent,v1,u1]
   have hgV:S8.get 1=some V:=by unfold Ss.get;rw[q1];simp [Wn.ent,v1]
   have hg3:S8.get 3=none:=by unfold Ss.get;rw[q1];simp [Wn.ent,v1,u1]
   obtain⟨uok,-,-,-⟩:=ok8.win U (by rw[q1];simp)
   obtain⟨vok,-,-,-⟩:=ok8.win V (by rw[q1];simp)
   obtain⟨p,hp,hpe⟩:=MO uok
   have hview:=NS A8 hgU hp
   have hback:S8.backOf 2 U p.id=0:=by unfold Ss.backOf;rw[q2,q3];split<;>rfl
   have hsc:=((A8.each U (by rw[q1];simp)).each p hp).1.scr
   have hvf:=U8 hsc.ok (L:=p.G.list) 0
   rw[hback,hpe,u2] at hview
   obtain⟨VV,hVV⟩:∃VV,VV=CM p.M.S p.G.list 0:=⟨_,rfl⟩
   rw[←hVV] at hview hvf
   refine OpX.call Mj rfl (Calls.ret (hview) ?_)
   rintro v w9 ⟨hv9,hc9⟩
   obtain⟨nb9,cap9,rfl,p1,p2,p3,p4⟩:=hv9.sx
   simp -dsimp (disch:=first|omega|(simp only[go_sem,seval];try omega))only[go_sem,seval,Gr.val]
   have hc10:=AB w9 (.cells #[.int .i64 VV.w,.int .i64 VV.h,.slice (some ⟨nb9,0,none⟩) VV.cs.length cap9] 59)
   have a10:(w9.alloc (.cells #[.int .i64 VV.w,.int .i64 VV.h,.slice (some ⟨nb9,0,none⟩) VV.cs.length cap9] 59)).heap[w9.heap.size]?=some (.cells #[.int .i64 VV.w,.int .i64 VV.h,.slice (some ⟨nb9,0,none⟩) VV.cs.length cap9] 59):=by simp -dsimp (disch:=first|omega|(simp only[go_sem,seval];try omega))only[go_sem,seval]
   have p10:=p4.chg0 hc10
   generalize w9.alloc (.cells #[.int .i64 VV.w,.int .i64 VV.h,.slice (some ⟨nb9,0,none⟩) VV.cs.length cap9] 59)=w10 at *
   obtain⟨t18,ht18⟩:∃t18,t18=w9.heap.size:=⟨_,rfl⟩
   rw[←ht18] at a10 ⊢
   have hz9:=hc9.size
   have hz10:=hc10.size
   have hz8:=hc08.size
   have A10:=(A8.chg0 hc9).chg0 hc10
   have hcd8:w2.heap.size≤wq.heap.size:=by have:=A8.lt _ (.inl rfl);have:=A8.los;omega
   have hcd10:w2.heap.size≤w10.heap.size:=by omega
   refine OpX.call Eu rfl (Calls.ret (E2 A10 ok8 hcd10 (by decide) ⟨2,1,1,o,0,0⟩) ?_)
   rintro v w11 ⟨S11,A11,ok11,T11,rel11⟩
   have h11:v=.nilIface∧S11.get 2=some U∧S11.get 3=none∧S11.cur=2∧S11.back=0:=by
    cases rel11 with
    | outN h1 h2 h3 h4 h5 =>
     refine absurd ?_ (h5 V hgV)
     exact(vok.has 1).2 (by rw[v3];simp [Mt.ids])
    | outY W pp qq b h1 h2 h3 h4 h5 h6 h7 h8 h9 h10 h11 h12 =>
     have hWV:W=V:=Option.some.inj (h4.symm.trans hgV)
     subst hWV
     refine⟨h3,?_,?_,by rw[h12];exact q2,by rw[h12];exact h11 (by omega)⟩
     ·rw[h12]
      unfold Ss.get AS
      rw[q1]
      simp [Wn.ent,v1,u1]
     ·rw[h12]
      unfold Ss.get AS
      rw[q1]
      simp [Wn.ent,v1,u1]
    | long h=>dsimp only at h;omega
    | keys _ _ h=>cases h
    | sizeA _ h=>cases h
    | sizeN _ h=>cases h
    | sizeY _ _ h=>cases h
    | kind _ _ h=>exact absurd rfl h
   obtain⟨rfl,hg2',hg3',hcur11,hback11⟩:=h11
   obtain⟨F11,hF11,hFo11⟩:=T11.chg
   have hlow:∀z∈F11,z<wq.heap.size:=fun z hz=>A8.lt z (hFo11 z hz)
   have a11:=hF11.keep a10 (fun hm=>by have:=hlow _ hm;omega)
   have p11:=p10.chg hF11 fun b o e hne hm=>by
    cases e
    have:=hlow _ hm
    omega
   have hc011:Chg [] w w11:=((hc08.trans0 hc9).trans0 hc10).trans hF11 fun z hz=>.inr (by have:=A8.lo z (hFo11 z hz);omega)
   have hview2:=NS (A11.chg0 ((Chg.refl _ _).drew)) hg2' hp
   have hback2:S11.backOf 2 U p.id=0:=by unfold Ss.backOf;rw[hcur11,hback11];split<;>rfl
   rw[hback2,hpe,u2,←hVV] at hview2
   simp -dsimp (disch:=first|omega|(simp only[go_sem,seval];try omega))only[go_sem,seval,a11]
   refine OpX.call Mj rfl (Calls.ret (hview2) ?_)
   rintro v w12 ⟨hv12,hc12⟩
   have hc12:Chg [] w11 w12:=((Chg.refl _ _).drew).trans0 hc12
   obtain⟨nb12,cap12,rfl,m1,m2,m3,m4⟩:=hv12.sx
   have a12:=hc12.keep a11 (by simp)
   simp -dsimp (disch:=first|omega|(simp only[go_sem,seval];try omega))only[go_sem,seval,a12]
   have hsame:=ZV m4 (p11.chg0 hc12) cap12 cap9 (by have:=hvf.ok.le;omega)
   simp only[Gr.val] at hsame ⊢
   refine OpX.call VD rfl (Calls.ret (hsame) ?_)
   rintro v w13 ⟨rfl,hc13⟩
   have A13:=(A11.chg0 hc12).chg0 hc13
   have hc1213:=hc12.trans0 hc13
   have hcd13:w2.heap.size≤w13.heap.size:=by have:=hc1213.size;have:=hF11.size;omega
   simp -dsimp (disch:=first|omega|(simp only[go_sem,seval];try omega))only[go_sem,seval]
   refine OpX.call Eu rfl (Calls.ret (E2 A13 ok11 hcd13 (by decide) ⟨2,3,1,o,0,0⟩) ?_)
   rintro v w14 ⟨S14,A14,ok14,T14,rel14⟩
   have h14:v=AE 12:=by
    cases rel14 with
    | outN h1 h2 h3 h4 h5=>exact h3
    | outY W pp qq b h1 h2 h3 h4=>rw[hg3'] at h4;cases h4
    | long h=>dsimp only at h;omega
    | keys _ _ h=>cases h
    | sizeA _ h=>cases h
    | sizeN _ h=>cases h
    | sizeY _ _ h=>cases h
    | kind _ _ h=>exact absurd rfl h
   subst h14
   have hc014:Chg [] w w14:=by
    obtain⟨F,hF,hFo⟩:=T14.chg
    exact(hc011.trans0 hc1213).trans hF fun z hz=>.inr (by have:=A13.lo z (hFo z hz);omega)
   refine Join1.cut (fun v w'=>v=.bool true∧Chg [] w w') ?_ (fun v w' h=>hK _ _ h)
   simp -dsimp (disch:=first|omega|(simp only[go_sem,seval];try omega))only[go_sem,seval]
   refine OpX.call FX rfl (Calls.ret (Ii w14) ?_)
   rintro v w15 ⟨rfl,hc15⟩
   rw[show({ data:=#[2] }:ByteArray)=Ap [2] from rfl]
   simp -dsimp (disch:=first|omega|(simp only[go_sem,seval];try omega))only[go_sem,seval]
   refine OpX.call FX rfl (Calls.ret (Ii w15) ?_)
   rintro v w16 ⟨rfl,hc16⟩
   simp -dsimp (disch:=first|omega|(simp only[go_sem,seval];try omega))only[go_sem,seval]
   have hL16:=hL.keep (((hc014.trans0 hc15).trans0 hc16)) (by simp)
   refine OpX.call FX rfl (Calls.ret (TE hL16 12) ?_)
   rintro v w17 ⟨rfl,hc17⟩
   simp -dsimp (disch:=first|omega|(simp only[go_sem,seval];try omega))only[go_sem,seval]
   exact((hc014.trans0 hc15).trans0 hc16).trans0 hc17
end Go.Proofs.YtelplojmbjnplaaGreatDoor
