/- Helpers of this claim, part 5: engine, translated functions, contracts, plain laws. -/
import Derived.Test.YtelplojmbjnplaaGreatDoorB4
set_option linter.unusedSimpArgs false
set_option linter.unusedVariables false
namespace Go.Proofs.YtelplojmbjnplaaGreatDoor
open Lyc Go
theorem Zt {l:List Wn} {V:Wn} {c:Int}:(AR l V).find? (fun W=>W.ent.1 == c)=(l.find? fun W=>W.ent.1 == c).map fun W=>if W.n=V.n then V else W:=by
 unfold AR
 rw[List.find?_map]
 congr 1
 congr 1
 funext W
 simp only[Function.comp,Wn.ent]
 split
 ·rename_i h;rw[h]
 ·rfl
structure Refd (S S':Ss) (e:Ev) (cv:Int):Prop where
 cur:S'.cur=S.cur
 ids:S'.wins.map (·.n)=S.wins.map (·.n)
 win:∀W,S.get S.cur=some W→∃W',S'.get S.cur=some W'∧W'.L.root=W.L.root
 siz:e.kind=3→(¬(1≤e.w∧e.w≤200∧2≤e.h∧e.h≤60)∧cv=1∧S'.w=S.w∧S'.h=S.h∧S'.back=S.back)∨((1≤e.w∧e.w≤200∧2≤e.h∧e.h≤60)∧cv=19∧S'.w=S.w∧S'.h=S.h∧S'.back=S.back)∨((1≤e.w∧e.w≤200∧2≤e.h∧e.h≤60)∧cv=0∧S'.w=e.w∧S'.h=e.h)
 oth:e.kind≠3→S'.w=S.w∧S'.h=S.h∧(e.kind=2∧(cv=0∨cv=12)∨e.kind≠2∧cv=18)
theorem DRel.refd {base:Nat} {w:World} {s:Nat} {S:Ss} {e:Ev} {S':Ss} {v:Value} {w':World} (h:DRel S e S' v w') (hA:SsAt base w s S) (hl:e.s.length≤2000) (hk:e.kind≠1):∃cv:Int,(v=.nilIface∧cv=0∨v=AB cv)∧Refd S S' e cv:=by
 have same:∀W,S.get S.cur=some W→∃W',S.get S.cur=some W'∧W'.L.root=W.L.root:=fun W h=>⟨W,h,rfl⟩
 cases h with
 | long h=>omega
 | keys _ _ h=>exact absurd h hk
 | outN h1 h2 h3 h4 h5 =>
  subst h4
  exact⟨12,.inr h3,rfl,rfl,same,fun e=>by omega,fun _=>⟨rfl,rfl,.inl ⟨h2,.inr rfl⟩⟩⟩
 | outY W p q b h1 h2 h3 h4 h5 h6 h7 h8 h9 h10 h11 h12 =>
  subst h12
  refine⟨0,.inl ⟨h3,rfl⟩,rfl,GI _ _,fun U hU=>?_,fun e=>by omega,fun _=>⟨rfl,rfl,.inl ⟨h2,.inl rfl⟩⟩⟩
  show ∃W',(AR S.wins { W with pts:=Bc W.pts q }).find? _=some W'∧_
  have hU':S.wins.find? (fun W=>W.ent.1 == S.cur)=some U:=hU
  rw[Zt,hU']
  refine⟨_,rfl,?_⟩
  dsimp only
  split
  ·rename_i hn
   have:=CH hA.ids (Ss.get_mem hU).1 (Ss.get_mem h4).1 hn
   rw[this]
  ·rfl
 | sizeA h1 h2 h3 h4 h5 =>
  subst h5
  exact⟨1,.inr h4,rfl,rfl,same,fun _=>.inl ⟨h3,rfl,rfl,rfl,rfl⟩,fun h=>absurd h2 h⟩
 | sizeN h1 h2 h3 h4 h5 =>
  subst h5
  exact⟨19,.inr h4,rfl,rfl,same,fun _=>.inr (.inl ⟨h3,rfl,rfl,rfl,rfl⟩),fun h=>absurd h2 h⟩
 | sizeY wl h1 h2 h3 h4 h5 h6 h7 =>
  subst h5
  refine⟨0,.inl ⟨h4,rfl⟩,rfl,h6,fun U hU=>?_,fun _=>.inr (.inr ⟨h3,rfl,rfl,rfl⟩),fun h=>absurd h2 h⟩
  obtain⟨hUm,hUn⟩:=Ss.get_mem hU
  obtain⟨V,hV⟩:=Ss.get_some (S:={ S with w:=e.w,h:=e.h,wins:=wl }) (n:=S.cur) (by show S.cur∈wl.map (·.n);rw[h6];exact List.mem_map.2 ⟨U,hUm,hUn⟩)
  obtain⟨hVm,hVn⟩:=Ss.get_mem hV
  obtain⟨W0,hW0,e1,e2,-⟩:=h7 V hVm
  have:=CH hA.ids hW0 hUm (by rw[←e1,hVn,hUn])
  subst this
  exact⟨V,hV,e2⟩
 | kind h1 h2 h3 h4 h5 h6 =>
  subst h6
  exact⟨18,.inr h5,rfl,rfl,same,fun e=>absurd e h4,fun _=>⟨rfl,rfl,.inr ⟨h3,rfl⟩⟩⟩
theorem CI {w:World} (hL:Cr w) {v:Value} {cv:Int} (hv:v=.nilIface∧cv=0∨v=AB cv):Calls Tryz.prog 12 #[v] w (Ac fun v w'=>v=.int .i64 cv∧Chg [] w w'):=by
 rcases hv with ⟨rfl,rfl⟩|rfl
 ·exact MV w
 ·exact K8 hL cv
theorem YG (n:Nat) (b c d e:Int) (w:World):(Op.equalIn (n+2) 49 (.agg #[.int .i64 b,.int .i64 c,.int .i64 d,.int .i64 e]) (.agg #[.int .i64 b,.int .i64 c,.int .i64 d,.int .i64 e])).run Tryz.prog w=.ok true w:=by
 have hf:Tryz.prog.fieldsOf 49=#[⟨ "X",3,0,false, "", "",0⟩,⟨ "Y",3,1,false, "", "",8⟩,⟨ "W",3,2,false, "", "",16⟩,⟨ "H",3,3,false, "", "",24⟩]:=by unfold Program.fieldsOf;rw[Tryz.underlying49]
 rw[run_equalIn_struct w (n+1) 49 _ _ (by rw[hf];exact Tryz.underlying49) (by kernel_rfl),hf]
 exact Hj n _ _ w _ [(0,8),(1,8),(2,8),(3,8)] true (by kernel_rfl) (by simp [Cm,PS])
theorem TU {α:Type} (f:α→Prop) (d:Prop):OrK none f d ()=d:=rfl
theorem Rp (a b c d e:Int):PureBin Tryz.prog .neq 51 (.agg #[.int .i64 a,.int .i64 b,.int .i64 c,.int .i64 d,.int .i64 e]) (.agg #[.int .i64 a,.int .i64 b,.int .i64 c,.int .i64 d,.int .i64 e]) (.bool false):=by
 have hf:Tryz.prog.fieldsOf 51=#[⟨ "ID",3,0,false, "", "",0⟩,⟨ "Rect",49,1,false, "", "",8⟩]:=by unfold Program.fieldsOf;rw[Tryz.underlying51]
 have hI:∀n w,(Op.equalIn (n+1) 3 (.int .i64 a) (.int .i64 a)).run Tryz.prog w=.ok true w:=fun n w=>by
  simp [Op.equalIn,run_underlying Tryz.underlying3]
 have hp0:∀w,(part 3 #[.int .i64 a,.int .i64 b,.int .i64 c,.int .i64 d,.int .i64 e] 0).run Tryz.prog w=.ok (.int .i64 a) w:=fun w=>Fe (by
  have h1:Al Tryz.prog 3=some false:=by kernel_rfl
  simp [CG,h1]) w
 have hp1:∀w,(part 49 #[.int .i64 a,.int .i64 b,.int .i64 c,.int .i64 d,.int .i64 e] 1).run Tryz.prog w=.ok (.agg #[.int .i64 b,.int .i64 c,.int .i64 d,.int .i64 e]) w:=fun w=>Fe (by
  have h1:Al Tryz.prog 49=some true:=by kernel_rfl
  have h2:Ak Tryz.prog 49=some 4:=by kernel_rfl
  simp [CG,h1,h2]) w
 have hg:Tryz.prog.eqGuardType Tryz.prog.depth 51=false:=by kernel_rfl
 refine⟨fun x y w=>?_⟩
 have h1:(eqGuard .neq 51 x y (.agg #[.int .i64 a,.int .i64 b,.int .i64 c,.int .i64 d,.int .i64 e]) (.agg #[.int .i64 a,.int .i64 b,.int .i64 c,.int .i64 d,.int .i64 e])).run Tryz.prog w=.ok () w:=by
  unfold eqGuard
  simp [hg]
 have h2:(Op.equal 51 (.agg #[.int .i64 a,.int .i64 b,.int .i64 c,.int .i64 d,.int .i64 e]) (.agg #[.int .i64 a,.int .i64 b,.int .i64 c,.int .i64 d,.int .i64 e])).run Tryz.prog w=.ok true w:=by
  unfold Op.equal Op.maxDepth
  rw[run_equalIn_struct w 9999 51 _ _ (by rw[hf];exact Tryz.underlying51) (by kernel_rfl),hf]
  have hr:∀w,(Op.equalIn 9999 49 (.agg #[.int .i64 b,.int .i64 c,.int .i64 d,.int .i64 e]) (.agg #[.int .i64 b,.int .i64 c,.int .i64 d,.int .i64 e])).run Tryz.prog w=.ok true w:=YG 9997 b c d e
  have hi:∀w,(Op.equalIn 9999 3 (.int .i64 a) (.int .i64 a)).run Tryz.prog w=.ok true w:=hI 9998
  simp [Op.eqFields,hp0,hp1,hi,hr]
 unfold AY
 simp [h1,binOp,h2]
theorem PQ {w:World} {e0:Option TypeId} {a:Option Addr} {es:List (Ev × Bool)} (hs:Sx w e0 D6 a es) (cap:Nat) (hes:es.length≤maxLen) (x y:Int) (e:Ev) (hL:Cr w):Calls Tryz.prog 4 #[.agg #[.int .i64 x,.int .i64 y],.slice a es.length cap,e.val] w
  (Ac fun v w'=>v=.bool true∧Chg [] w w'):=by
 have hml:maxLen=9223372036854775807:=rfl
 apply QP
 intro K hK
 unfold OV
 unfold Ev.val
 simp -dsimp (disch:=first|omega|(simp only[go_sem,seval];try omega))only[go_sem,seval]
 refine OpX.gen fun wz hwz=>?_
 have hca:Chg [] w wz:=by rw[hwz];(repeat (first|exact Chg.refl _ _|apply Chg.drew|apply Chg.alloc|(refine Chg.set ?_ _ _ (by first|(left;simp;done)|(right;omega)))))
 have haz:wz.heap[w.heap.size]?=some (.cells #[.int .i64 x,.int .i64 y] 23):=by rw[hwz];simp -dsimp (disch:=first|omega|(simp only[go_sem,seval];try omega))only[go_sem,seval]
 have haq:wz.heap[w.heap.size+1]?=some (.cells #[.int .i64 e.kind,.int .i64 e.win,.int .i64 e.pane,.string (Ap e.s),.int .i64 e.w,.int .i64 e.h] 33):=by rw[hwz];simp -dsimp (disch:=first|omega|(simp only[go_sem,seval];try omega))only[go_sem,seval]
 clear hwz
 refine OpX.call Q1 rfl (Calls.ret (UB wz) ?_)
 rintro v w1 ⟨rfl,hc1⟩
 have az1:=hc1.keep haz (by simp)
 simp -dsimp (disch:=first|omega|(simp only[go_sem,seval];try omega))only[go_sem,seval,az1]
 refine OpX.call O4 rfl (Calls.ret (Qh w1 x y) ?_)
 rintro v w2 ⟨rfl,hc2⟩
 obtain⟨x1,x2⟩:=L1 (n:=x) (m:=40) (k:=1) (by omega)
 obtain⟨y1,y2⟩:=L1 (n:=y) (m:=19) (k:=2) (by omega)
 generalize Dv x 40 1=X at *
 generalize Dv y 19 2=Y at *
 simp -dsimp (disch:=first|omega|(simp only[go_sem,seval];try omega))only[go_sem,seval]
 refine OpX.call Mf rfl (Calls.ret (Ki w2 X Y 6) ?_)
 rintro v w3 (⟨hno,-⟩|⟨-,s,S0,rfl,A3,ok3,fr,hc3⟩)
 ·exact absurd ⟨by omega,by omega,by omega,by omega⟩ hno
 have hc02:=(hca.trans0 hc1).trans0 hc2
 have hc03:=hc02.trans0 hc3
 have hz02:=hc02.size
 have lq:=Aa haq
 have hzz:=(hc1.trans0 hc2).size
 have aq2:=hc2.keep (hc1.keep haq (by simp)) (by simp)
 have hlq:w.heap.size+1<w2.heap.size:=by omega
 simp -dsimp (disch:=first|omega|(simp only[go_sem,seval];try omega))only[go_sem,seval]
 refine Loop1.st (fun q:Nat × Ss=>.int .i64 (q.1:Int)) (fun q w'=>q.1≤20∧q.1≤es.length∧SsAt w2.heap.size w' s q.2∧q.2.ok (1+5000*q.1)∧Chg [] w w'∧Chg [] w2 w') (fun q=>20-q.1) (0,S0) rfl ⟨Nat.zero_le _,Nat.zero_le _,A3,ok3.mono (by omega),hc03,hc3⟩ ?_
 rintro next ⟨i,S⟩ wi hn ⟨hi,hie,A,ok,hci,hci2⟩
 dsimp only at hi hie A ok ⊢
 have hzi:=hci.size
 refine Join1.cut (fun v w'=>v=.bool (decide (i<es.length∧i<20))∧w'=wi) ?_ ?_
 ·simp -dsimp (disch:=first|omega|(simp only[go_sem,seval];try omega))only[go_sem,seval]
  refine BrW.dec (fun g=>?_) (fun g=>⟨congrArg Value.bool (decide_eq_false (by omega)).symm,rfl⟩)
  simp -dsimp (disch:=first|omega|(simp only[go_sem,seval];try omega))only[go_sem,seval]
  exact congrArg Value.bool (decide_eq_decide.2 ⟨fun h=>by omega,fun h=>by omega⟩)
 rintro v wi' ⟨rfl,rfl⟩
 refine BrW.dec (fun g=>?_) (fun g=>?_)
 ·have hi':i<es.length:=g.1
  obtain⟨b',o,rfl,hbl,hcell⟩:=(hs.chg0 hci).get Nf (List.getElem?_eq_getElem hi')
  generalize es[i]=e2 at *
  simp only[D6] at hcell
  have e1:(i:Int)+1=((i+1:Nat):Int):=by omega
  simp -dsimp (disch:=first|omega|(simp only[go_sem,seval];try omega))only[go_sem,seval,hcell]
  have hcd:∀w8:World,Chg [] wi' w8→w2.heap.size≤w8.heap.size:=fun w8 h8=>by have:=h8.size;have:=hc03.size;have:=A.lt _ (.inl rfl);have:=A.los;omega
  refine OpX.call Vv rfl (Calls.ret (QU wi' e2.1 e2.2) ?_)
  rintro v w4 ⟨e',rfl,hc4⟩
  refine OpX.call Gk rfl (Calls.ret (Gm (A.chg0 hc4) ok (hcd _ hc4) (by omega) e') ?_)
  rintro v w5 ⟨S',A5,ok5,T5,-⟩
  simp -dsimp (disch:=first|omega|(simp only[go_sem,seval];try omega))only[go_sem,seval,e1]
  obtain⟨F,hF,hFo⟩:=T5.chg
  have hc5:Chg [] w w5:=(hci.trans0 hc4).trans hF fun z hz=>.inr (by have:=A.lo z (hFo z hz);omega)
  have hc52:Chg [] w2 w5:=(hci2.trans0 hc4).trans hF fun z hz=>.inr (by have:=A.lo z (hFo z hz);omega)
  exact hn (i+1,S') _ ⟨by dsimp only;omega,by dsimp only;omega,A5,ok5.mono (by dsimp only;omega),hc5,hc52⟩ (by dsimp only;omega)
 ·refine OpX.call Ng rfl (Calls.ret (J7 A) ?_)
  rintro v w4 ⟨rfl,hc4⟩
  have A4:=A.chg0 hc4
  have hlen:S.wins.length≤1000:=by have:=A.len ok;omega
  obtain⟨W,hg⟩:=S.get_cur ok
  obtain⟨hWm,hWn⟩:=Ss.get_mem hg
  obtain⟨wok,wR,-,-⟩:=ok.win W hWm
  simp -dsimp (disch:=first|omega|(simp only[go_sem,seval];try omega))only[go_sem,seval]
  refine OpX.call Hz rfl (Calls.ret (G4 A4 hlen) ?_)
  rintro v w5 ⟨ks,k1,k2,ko,hc5⟩
  have A5:=A4.chg0 hc5
  obtain⟨ka,kc,rfl,-,-,-,-⟩:=ko.form
  have hkl:ks.length=S.wins.length:=by rw[k1.length_eq,List.length_map]
  refine OpX.call EZ rfl (Calls.ret (EV A5) ?_)
  rintro v w6 ⟨rfl,rfl⟩
  refine OpX.call GP rfl (Calls.ret (IJ A5 hg wok) ?_)
  rintro v w6 ⟨ho,hc6⟩
  have A6:=A5.chg0 hc6
  obtain⟨pa,pc,rfl,-,hps,-,hpg⟩:=ho.form
  refine OpX.call EZ rfl (Calls.ret (EV A6) ?_)
  rintro v w7 ⟨rfl,rfl⟩
  refine OpX.call H7 rfl (Calls.ret (Ik A6) ?_)
  rintro v w8 ⟨rfl,rfl⟩
  have hc58:Chg [] wi' w8:=(hc4.trans0 hc5).trans0 hc6
  have aq8:=(hci2.trans0 hc58).keep aq2 (by simp)
  obtain⟨N,hN⟩:∃N:Nat,(2001:Int)=N:=⟨2001,rfl⟩
  rw[hN]
  refine Hm (f:=Ck) (0:UInt8) Xl OF rfl (by omega) (by omega) (by omega) (Nat.le_refl _) ?_
  intro w9 hw9 ho9
  have hc9:Chg [] w8 w9:=by rw[hw9];exact AF _ _
  clear hw9
  obtain⟨a9,c9,ev9,-,hs9,-,-⟩:=ho9.form
  have el:(List.replicate N (0:UInt8)).length=N:=List.length_replicate ..
  rw[ev9,OK (by kernel_rfl) (by kernel_rfl) hs9]
  have hl9:2000<(List.replicate N (0:UInt8)).length:=by rw[el];omega
  generalize List.replicate N (0:UInt8)=zs at *
  have A9:=A6.chg0 hc9
  have hcd9:w2.heap.size≤w9.heap.size:=by have:=hc58.size;have:=hc9.size;have:=A.lt _ (.inl rfl);have:=A.los;omega
  simp -dsimp (disch:=first|omega|(simp only[go_sem,seval];try omega))only[go_sem,seval]
  refine OpX.call Gk rfl (Calls.ret (Gm A9 ok hcd9 (by omega) ⟨1,0,0,zs,0,0⟩) ?_)
  rintro v w10 ⟨S1,A10,ok10,T10,rel10⟩
  have h10:v=AB 16∧S1=S:=by
   cases rel10 with
   | long h h1 h2=>exact⟨h1,h2⟩
   | keys _ h=>dsimp only at h;omega
   | outN h=>dsimp only at h;omega
   | outY _ _ _ _ h=>dsimp only at h;omega
   | sizeA h=>dsimp only at h;omega
   | sizeN h=>dsimp only at h;omega
   | sizeY _ h=>dsimp only at h;omega
   | kind h=>dsimp only at h;omega
  obtain⟨rfl,rfl⟩:=h10
  obtain⟨F10,hF10,hFo10⟩:=T10.chg
  have hlo10:∀z∈F10,w2.heap.size≤z:=fun z hz=>A9.lo z (hFo10 z hz)
  have hc010:Chg [] w w10:=((hci.trans0 hc58).trans0 hc9).trans hF10 fun z hz=>.inr (by have:=hlo10 z hz;omega)
  have aq10:=hF10.keep (hc9.keep aq8 (by simp)) (fun hm=>by have:=hlo10 _ hm;omega)
  have hps10:Sx w10 (some 51) BO pa (W.L.root.panes W.L.R):=(hps.chg0 hc9).chg hF10 fun b o e hne hm=>by
   obtain⟨g,e2,hg1,-⟩:=hpg hne
   rw[e] at e2
   cases e2
   have:=A.lt _ (hFo10 _ hm)
   have:=hc4.size
   have:=hc5.size
   omega
  have lq10:=Aa aq10
  refine Join0.cut (fun w'=>∃l:List UInt8,l.length≤40∧w'.heap[w.heap.size+1]?=some (.cells #[.int .i64 e.kind,.int .i64 e.win,.int .i64 e.pane,.string (Ap l),.int .i64 e.w,.int .i64 e.h] 33)∧Chg [w.heap.size+1] w10 w') ?_ ?_
  ·simp -dsimp (disch:=first|omega|(simp only[go_sem,seval];try omega))only[go_sem,seval,aq10]
   refine BrW.dec (fun g=>?_) (fun g=>⟨e.s,by omega,aq10,Chg.refl _ _⟩)
   simp -dsimp (disch:=first|omega|(simp only[go_sem,seval];try omega))only[go_sem,seval,aq10]
   exact⟨(e.s.drop 0).take (40-0),by rw[List.length_take];omega,by rw[Po],(Chg.refl _ _).set _ _ (.inl (by simp))⟩
  rintro w11 ⟨l,hl40,aq11,hc11⟩
  have lq11:=Aa aq11
  refine Join0.cut (fun w'=>∃e':Ev,e'.kind≠1∧e'.s.length≤40∧w'.heap[w.heap.size+1]?=some (.cells #[.int .i64 e'.kind,.int .i64 e'.win,.int .i64 e'.pane,.string (Ap e'.s),.int .i64 e'.w,.int .i64 e'.h] 33)∧Chg [w.heap.size+1] w11 w') ?_ ?_
  ·simp -dsimp (disch:=first|omega|(simp only[go_sem,seval];try omega))only[go_sem,seval,aq11]
   refine BrW.dec (fun g=>?_) (fun g=>⟨⟨e.kind,e.win,e.pane,l,e.w,e.h⟩,g,hl40,aq11,Chg.refl _ _⟩)
   simp -dsimp (disch:=first|omega|(simp only[go_sem,seval];try omega))only[go_sem,seval,aq11]
   exact⟨⟨0,e.win,e.pane,l,e.w,e.h⟩,by show ¬(0:Int)=1;decide,hl40,rfl,(Chg.refl _ _).set _ _ (.inl (by simp))⟩
  rintro w12 ⟨e',hk',hl',aq12,hc12⟩
  have hc1012:Chg [w.heap.size+1] w10 w12:=hc11.trans hc12 fun z hz=>.inl hz
  have A12:SsAt w2.heap.size w12 s S1:=A10.chg hc1012 fun z hz ho=>by simp at hz;have:=A10.lo z ho;omega
  simp -dsimp (disch:=first|omega|(simp only[go_sem,seval];try omega))only[go_sem,seval,aq12]
  have hz10:=hF10.size
  have hz9:=hc9.size
  have hz1012:=hc1012.size
  have hcd12:w2.heap.size≤w12.heap.size:=by omega
  refine OpX.call Gk rfl (Calls.ret (Gm A12 ok10 hcd12 (by omega) e') ?_)
  rintro v w13 ⟨S2,A13,ok13,T13,rel13⟩
  obtain⟨cv,hv,R⟩:=rel13.refd A12 (by omega) hk'
  clear rel13 rel10
  obtain⟨F13,hF13,hFo13⟩:=T13.chg
  have hlo13:∀z∈F13,w2.heap.size≤z:=fun z hz=>A12.lo z (hFo13 z hz)
  have aq13:=hF13.keep aq12 (fun hm=>by have:=hlo13 _ hm;omega)
  have hc013:Chg [] w w13:=(hc010.trans hc1012 (by simp)).trans hF13 fun z hz=>.inr (by have:=hlo13 z hz;omega)
  have hps13:Sx w13 (some 51) BO pa (W.L.root.panes W.L.R):=(hps10.chg hc1012 fun b o e hne hm=>by
   obtain⟨g,e2,hg1,-⟩:=hpg hne
   rw[e] at e2
   cases e2
   simp at hm
   have:=hci2.size
   have:=hc4.size
   have:=hc5.size
   omega).chg hF13 fun b o e hne hm=>by
   obtain⟨g,e2,hg1,-⟩:=hpg hne
   rw[e] at e2
   cases e2
   have:=A.lt _ (hFo13 _ hm)
   have:=hc4.size
   have:=hc5.size
   omega
  obtain⟨W2,hg2,hroot⟩:=R.win W hg
  obtain⟨wok2,wR2,-,-⟩:=ok13.win W2 (Ss.get_mem hg2).1
  have hwl:S2.wins.length=S1.wins.length:=by have:=congrArg List.length R.ids;rwa [List.length_map,List.length_map] at this
  refine OpX.call Ng rfl (Calls.ret (J7 A13) ?_)
  rintro v w14 ⟨rfl,hc14⟩
  have A14:=A13.chg0 hc14
  simp -dsimp (disch:=first|omega|(simp only[go_sem,seval];try omega))only[go_sem,seval]
  refine OpX.call Hz rfl (Calls.ret (G4 A14 (by omega)) ?_)
  rintro v w15 ⟨ks2,m1,m2,mo,hc15⟩
  have A15:=A14.chg0 hc15
  obtain⟨ma,mc,rfl,-,-,-,-⟩:=mo.form
  have hml2:ks2.length=ks.length:=by rw[m1.length_eq,List.length_map,hwl,hkl]
  refine OpX.call EZ rfl (Calls.ret (EV A15) ?_)
  rintro v w16 ⟨rfl,rfl⟩
  rw[R.cur]
  refine OpX.call GP rfl (Calls.ret (IJ A15 hg2 wok2) ?_)
  rintro v w16 ⟨qo,hc16⟩
  obtain⟨qa,qc,rfl,-,hqs,-,-⟩:=qo.form
  have A16:=A15.chg0 hc16
  have hql:(W2.L.root.panes W2.L.R).length=(W.L.root.panes W.L.R).length:=by rw[Mt.panes_len,Mt.panes_len,hroot]
  have hc1316:Chg [] w13 w16:=(hc14.trans0 hc15).trans0 hc16
  have hc016:=hc013.trans0 hc1316
  rw[hml2,hql]
  refine Join1.cut (fun v w'=>v=.bool false∧Chg [] w16 w') ?_ ?_
  ·refine OpX.call Cu rfl (Calls.ret (K8 (hL.keep hc016 (by simp)) 16) ?_)
   rintro v w17 ⟨rfl,hc17⟩
   simp -dsimp (disch:=first|omega|(simp only[go_sem,seval];try omega))only[go_sem,seval]
   refine OpX.call EZ rfl (Calls.ret (EV (A16.chg0 hc17)) ?_)
   rintro v w18 ⟨rfl,rfl⟩
   rw[R.cur]
   simp -dsimp (disch:=first|omega|(simp only[go_sem,seval];try omega))only[go_sem,seval]
   exact hc17
  rintro v w17 ⟨rfl,hc17⟩
  have hc017:=hc016.trans0 hc17
  have aq17:=(hc1316.trans0 hc17).keep aq13 (by simp)
  have A17:=A16.chg0 hc17
  simp -dsimp (disch:=first|omega|(simp only[go_sem,seval];try omega))only[go_sem,seval,aq17]
  refine BrW.dec (fun h3=>?_) (fun h3=>?_)
  ·refine Join1.cut (fun v w'=>v=.bool (decide (1≤e'.w∧e'.w≤200∧2≤e'.h∧e'.h≤60))∧w'=w17) ?_ ?_
   ·simp -dsimp (disch:=first|omega|(simp only[go_sem,seval];try omega))only[go_sem,seval,aq17]
    refine BrW.dec (fun g1=>?_) (fun g1=>⟨congrArg Value.bool (decide_eq_false (fun h=>g1 h.1)).symm,rfl⟩)
    simp -dsimp (disch:=first|omega|(simp only[go_sem,seval];try omega))only[go_sem,seval,aq17]
    refine BrW.dec (fun g2=>?_) (fun g2=>⟨congrArg Value.bool (decide_eq_false (fun h=>g2 h.2.1)).symm,rfl⟩)
    simp -dsimp (disch:=first|omega|(simp only[go_sem,seval];try omega))only[go_sem,seval,aq17]
    refine BrW.dec (fun g3=>?_) (fun g3=>⟨congrArg Value.bool (decide_eq_false (fun h=>g3 h.2.2.1)).symm,rfl⟩)
    simp -dsimp (disch:=first|omega|(simp only[go_sem,seval];try omega))only[go_sem,seval,aq17]
    exact congrArg Value.bool (decide_eq_decide.2 ⟨fun h=>⟨g1,g2,g3,h⟩,fun h=>h.2.2.2⟩)
   rintro v3 w18 ⟨rfl,rfl⟩
   have hL17:=hL.keep hc017 (by simp)
   refine OpX.call Cu rfl (Calls.ret (CI hL17 hv) ?_)
   rintro v3 w19 ⟨rfl,hc19⟩
   have hc019:=hc017.trans0 hc19
   have aq19:=hc19.keep aq17 (by simp)
   have A19:=A17.chg0 hc19
   have hL19:=hL17.keep hc19 (by simp)
   rcases R.siz h3 with ⟨hm,rfl,z1,z2,z3⟩|⟨hm,rfl,z1,z2,z3⟩|⟨hm,rfl,z1,z2⟩
   ·rw[decide_eq_false hm,z1,z2]
    simp -dsimp (disch:=first|omega|(simp only[go_sem,seval];try omega))only[go_sem,seval]
    refine Join1.cut (fun v w'=>v=.bool true∧Chg [] w w') ?_ (fun v w' h=>hK _ _ h)
    simp -dsimp (disch:=first|omega|(simp only[go_sem,seval];try omega))only[go_sem,seval]
    refine OpX.call Cu rfl (Calls.ret (CI hL19 hv) ?_)
    rintro v3 w20 ⟨rfl,hc20⟩
    simp -dsimp (disch:=first|omega|(simp only[go_sem,seval];try omega))only[go_sem,seval]
    refine OpX.call H7 rfl (Calls.ret (Ik (A19.chg0 hc20)) ?_)
    rintro v3 w21 ⟨rfl,rfl⟩
    rw[z3]
    simp -dsimp (disch:=first|omega|(simp only[go_sem,seval];try omega))only[go_sem,seval]
    exact hc019.trans0 hc20
   ·rw[decide_eq_true hm,z1,z2]
    simp -dsimp (disch:=first|omega|(simp only[go_sem,seval];try omega))only[go_sem,seval]
    refine Join1.cut (fun v w'=>v=.bool true∧Chg [] w w') ?_ (fun v w' h=>hK _ _ h)
    simp -dsimp (disch:=first|omega|(simp only[go_sem,seval];try omega))only[go_sem,seval]
    refine OpX.call Cu rfl (Calls.ret (CI hL19 hv) ?_)
    rintro v3 w20 ⟨rfl,hc20⟩
    simp -dsimp (disch:=first|omega|(simp only[go_sem,seval];try omega))only[go_sem,seval]
    refine OpX.call Cu rfl (Calls.ret (CI (hL19.keep hc20 (by simp)) hv) ?_)
    rintro v3 w21 ⟨rfl,hc21⟩
    simp -dsimp (disch:=first|omega|(simp only[go_sem,seval];try omega))only[go_sem,seval]
    refine OpX.call H7 rfl (Calls.ret (Ik ((A19.chg0 hc20).chg0 hc21)) ?_)
    rintro v3 w22 ⟨rfl,rfl⟩
    rw[z3]
    simp -dsimp (disch:=first|omega|(simp only[go_sem,seval];try omega))only[go_sem,seval]
    exact(hc019.trans0 hc20).trans0 hc21
   ·rw[decide_eq_true hm,z1,z2]
    simp -dsimp (disch:=first|omega|(simp only[go_sem,seval];try omega))only[go_sem,seval]
    refine Join1.cut (fun v w'=>v=.bool true∧Chg [] w w') ?_ (fun v w' h=>hK _ _ h)
    simp -dsimp (disch:=first|omega|(simp only[go_sem,seval];try omega))only[go_sem,seval]
    refine OpX.call Cu rfl (Calls.ret (CI hL19 hv) ?_)
    rintro v3 w20 ⟨rfl,hc20⟩
    simp -dsimp (disch:=first|omega|(simp only[go_sem,seval];try omega))only[go_sem,seval]
    refine OpX.call Cu rfl (Calls.ret (CI (hL19.keep hc20 (by simp)) hv) ?_)
    rintro v3 w21 ⟨rfl,hc21⟩
    have aq21:=(hc20.trans0 hc21).keep aq19 (by simp)
    simp -dsimp (disch:=first|omega|(simp only[go_sem,seval];try omega))only[go_sem,seval,aq21]
    exact(hc019.trans0 hc20).trans0 hc21
  ·obtain⟨z1,z2,hcv⟩:=R.oth h3
   have hPP:W2.L.root.panes W2.L.R=W.L.root.panes W.L.R:=by rw[hroot,wR2,wR,z1,z2]
   rw[hPP] at hqs
   rw[z1,z2]
   refine Loop1.st (fun q:Nat=>.int .i64 (q:Int)) (fun q w'=>q≤(W.L.root.panes W.L.R).length∧Chg [] w17 w') (fun q=>(W.L.root.panes W.L.R).length-q) 0 rfl ⟨Nat.zero_le _,Chg.refl _ _⟩ ?_
   rintro next8 q wq hn8 ⟨hq,hcq⟩
   have hpl:=Mt.panes_len W.L.root W.L.R
   have hfew:=wok.lay.few
   simp -dsimp (disch:=first|omega|(simp only[go_sem,seval];try omega))only[go_sem,seval]
   refine BrW.dec (fun g8=>?_) (fun g8=>?_)
   ·have hq':q<(W.L.root.panes W.L.R).length:=by omega
    have hxe:(W.L.root.panes W.L.R)[q]?=some (W.L.root.panes W.L.R)[q]:=List.getElem?_eq_getElem hq'
    have e4:(q:Int)+1=((q+1:Nat):Int):=by omega
    generalize (W.L.root.panes W.L.R)[q]=z at *
    obtain⟨b1,o1,rfl,hb1,d1⟩:=(hps13.chg0 ((hc1316.trans0 hc17).trans0 hcq)).get (m:=5) (fun _=>rfl) hxe
    obtain⟨b2,o2,rfl,hb2,d2⟩:=(hqs.chg0 (hc17.trans0 hcq)).get (m:=5) (fun _=>rfl) hxe
    simp only[BO,Rc.cells] at d1 d2
    simp -dsimp (disch:=first|omega|(simp only[go_sem,seval];try omega))only[go_sem,seval,d1,d2,e4]
    have hnf:Bx Tryz.prog 51=none:=by kernel_rfl
    rw[(Rp _ _ _ _ _).rd,hnf]
    simp -dsimp (disch:=first|omega|(simp only[go_sem,seval];try omega))only[go_sem,seval,Option.bind_none,TU,e4]
    exact hn8 (q+1) _ ⟨by omega,hcq.drew⟩ (by omega)
   ·have hc0q:=hc017.trans0 hcq
    have hLq:=hL.keep hc0q (by simp)
    have aqq:=hcq.keep aq17 (by simp)
    simp -dsimp (disch:=first|omega|(simp only[go_sem,seval];try omega))only[go_sem,seval,aqq]
    refine Join1.cut (fun v w'=>v=.bool true∧Chg [] w w') ?_ (fun v w' h=>hK _ _ h)
    rcases hcv with ⟨h2,hcv⟩|⟨h2,rfl⟩
    ·rw[decide_eq_true h2]
     simp -dsimp (disch:=first|omega|(simp only[go_sem,seval];try omega))only[go_sem,seval]
     refine OpX.call Cu rfl (Calls.ret (CI hLq hv) ?_)
     rintro v3 w20 ⟨rfl,hc20⟩
     rcases hcv with rfl|rfl
     ·simp -dsimp (disch:=first|omega|(simp only[go_sem,seval];try omega))only[go_sem,seval]
      exact hc0q.trans0 hc20
     ·simp -dsimp (disch:=first|omega|(simp only[go_sem,seval];try omega))only[go_sem,seval]
      refine OpX.call Cu rfl (Calls.ret (CI (hLq.keep hc20 (by simp)) hv) ?_)
      rintro v3 w21 ⟨rfl,hc21⟩
      simp -dsimp (disch:=first|omega|(simp only[go_sem,seval];try omega))only[go_sem,seval]
      exact(hc0q.trans0 hc20).trans0 hc21
    ·rw[decide_eq_false h2]
     simp -dsimp (disch:=first|omega|(simp only[go_sem,seval];try omega))only[go_sem,seval]
     refine OpX.call Cu rfl (Calls.ret (CI hLq hv) ?_)
     rintro v3 w20 ⟨rfl,hc20⟩
     simp -dsimp (disch:=first|omega|(simp only[go_sem,seval];try omega))only[go_sem,seval]
     exact hc0q.trans0 hc20
end Go.Proofs.YtelplojmbjnplaaGreatDoor
