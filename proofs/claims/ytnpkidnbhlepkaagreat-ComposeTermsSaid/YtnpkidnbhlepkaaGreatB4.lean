/- Helpers of this claim, part 4: engine, translated functions, contracts, plain laws. -/
import Derived.Test.YtnpkidnbhlepkaaGreatB3
import Derived.Test.YtnpkidnbhlepkaaGreatB1
import Derived.Test.YtnpkidnbhlepkaaGreatB0
import Derived.Test.YtnpkidnbhlepkaaGreatB2
import Derived.ArgAppend
set_option linter.unusedSimpArgs false
set_option linter.unusedVariables false
namespace Go.Proofs.YtnpkidnbhlepkaaGreat
open Lyc Go Go.Proofs.Tryz
def Wn.viewAt(W:Wn)(a:Int→Int)(id:Int):Gr:=match W.pts.find? (λp=>p.ent.1 == id) with
 | some p=>CC p.M.S p.G.list (a id)
 | none=>⟨0,0,[]⟩
def CG(V:Int→Gr)(g:Gr)(l:List (Int × Rc)):Gr:=l.foldl (λg p=>g.blit (V p.1) p.2.x p.2.y) g
def CU(g:Gr)(l:List Rc):Gr:=l.foldl (λg r=>g.fill r.x r.y r.w r.h (CS r)) g
def Ss.gridL(S:Ss)(W:Wn):Gr:=CU (CG (W.viewAt (S.backOf S.cur W)) (Gr.plain S.w.toNat S.h.toNat Cel.blank) (W.L.root.panes W.L.R)) (W.L.root.bords W.L.R)
def Ss.grid(S:Ss)(W:Wn)(t:List UInt8):Gr:=(S.gridL W).put 0 (S.h-1) (F7 S.w.toNat t)
theorem Gl{V:Int→Gr}{w h:Nat}:∀{l:List (Int × Rc)} {g:Gr},g.fit w h→(CG V g l).fit w h
 | [],_,h=>h
 | p::l,g,hg=>Gl (l:=l) (g:=g.blit (V p.1) p.2.x p.2.y) ⟨Gr.chg_ok hg.ok λ_ _ _ _=>AP _ _,Gr.chg_right hg.ok hg.r λ_ _ _ _=>AP _ _,hg.w,hg.h⟩
theorem Hm{w h:Nat}:∀{l:List Rc} {g:Gr},g.fit w h→(CU g l).fit w h
 | [],_,h=>h
 | r::l,g,hg=>Hm (l:=l) (g:=g.fill r.x r.y r.w r.h (CS r)) hg.fill
theorem U0(V:Int→Gr)(g:Gr)(l:List (Int × Rc))(p:Int × Rc):CG V g (l++[p])=(CG V g l).blit (V p.1) p.2.x p.2.y:=by simp [CG]
theorem cW(g:Gr)(l:List Rc)(r:Rc):CU g (l++[r])=(CU g l).fill r.x r.y r.w r.h (CS r):=by simp [CU]
theorem JZ{w h:Nat}(w0:0<w)(w1:w≤200)(a:0<h)(b:h≤60):(Gr.plain w h Cel.blank).fit w h:=⟨Gr.plain_ok w0 w1 a b _,Gr.plain_right rC,rfl,rfl⟩
theorem iV(r:Rc):(CS r).usual=true:=by unfold CS;split<;>decide
structure GC (w0:World) (t7:Nat) (wi:World) (g:Gr):Prop where
 chg:Chg [] w0 wi
 at_:∃nb cap,wi.heap[t7]?=some (.cells #[.int .i64 g.w,.int .i64 g.h,.slice (some ⟨nb,0,none⟩) g.cs.length cap] 50)∧g.cs.length≤cap∧w0.heap.size≤nb∧SxC wi (some 60) (some ⟨nb,0,none⟩) g.cs
section
variable {base:Nat} {w w':World} {s:Nat} {S:Ss} {lim:Int}
theorem Zr(h:SsAt base w s S)(ok:S.ok lim)(hands:Int)(hh:hands≤9223372036854775807):Calls prog 11 #[.pointer (some ⟨s,0,none⟩),.int .i64 hands] w
  (Ac λv w'=>∃W ks,S.get S.cur=some W∧ks.Perm (S.wins.map (·.n))∧EZ ks∧GAt w.heap.size w' v (S.grid W (CE ks S.cur S.cop S.back hands))∧Chg [] w w'):=by
 obtain⟨W,hg⟩:=S.get_cur ok;obtain⟨hWm,hWn⟩:=Ss.get_mem hg;obtain⟨wok,wR,wnew,wn⟩:=ok.win W hWm;have s0:=ok.w0;have s1:=ok.w1;have s2:=ok.h0;have s3:=ok.h1;obtain⟨X,hX⟩:∃X:Nat,S.w=X:=⟨S.w.toNat,O⟩;obtain⟨Y,hY⟩:∃Y:Nat,S.h=Y:=⟨S.h.toNat,O⟩;apply TN;intro K hK;unfold Ns;refine sn ?_;refine OpX.gen λw1 hw1=>?_;have hc1:Chg [] w w1:=by rw[hw1];exact sy
 have a4:w1.heap[w.heap.size]?=some (.cells #[.int .i64 0,.int .i64 0,.slice none 0 0] 50):=by rw[hw1];exact so
 clear hw1;have h1:=h.chg0 hc1;refine td Yh rfl (cT h1) ?_;rintro v w2 ⟨rfl,hc2⟩;rw[hX,hY];refine sn ?_;refine td E8 rfl (Ft w2 X Y O O O O) ?_;rintro v w3 ⟨hg3,hc3⟩;obtain⟨nb3,cap3,rfl,q1,q2,q3,q4⟩:=hg3.sx;have hpf:(Gr.plain X Y Cel.blank).fit X Y:=JZ O O O O;have hc03:=(hc1.trans0 hc2).trans0 hc3;simp -dsimp (disch:=first|omega|(simp only[go_sem,seval];try omega))only[go_sem,seval,Gr.val];refine OpX.gen λw4 hw4=>?_;have hc4:Chg [] w3 w4:=by rw[hw4];exact sy
 have a7:w4.heap[w3.heap.size]?=some (.cells #[.int .i64 (Gr.plain X Y Cel.blank).w,.int .i64 (Gr.plain X Y Cel.blank).h,.slice (some ⟨nb3,0,none⟩) (Gr.plain X Y Cel.blank).cs.length cap3] 50):=by rw[hw4];exact so
 clear hw4;have hz3:=hc03.size;have hz2:=(hc1.trans0 hc2).size;have l4:=Aa a4;have hz1:=hc1.size;have hz23:=hc3.size;have hz22:=hc2.size;have a44:=hc4.keep (hc3.keep (hc2.keep a4 Z) Z) Z;have hc04:=hc03.trans0 hc4;have G0:GC w w3.heap.size w4 (Gr.plain X Y Cel.blank):=⟨hc04,nb3,cap3,a7,q1,O,q4.chg0 hc4⟩;obtain⟨t7,ht7⟩:∃t7,t7=w3.heap.size:=⟨_,rfl⟩;have n47:w.heap.size≠t7:=O;have g7:w.heap.size≤t7:=O;rw[←ht7] at G0 ⊢;clear a7;have h4:=h.chg0 hc04;refine td Gx rfl (G7 h4) ?_;rintro v w5 ⟨rfl,rfl⟩;refine td Nq rfl (R8 h4 hg wok) ?_;rintro v w6 ⟨hpo,hc6⟩;have hpk:=Mt.panes_ok wok.lay.fits wok.lay.R;have hpi:=Mt.panes_ids W.L.root W.L.R;obtain⟨ap,cp,rfl,-,hps,-,-⟩:=hpo.form;have a46:=hc6.keep a44 Z;have G6:GC w t7 w6 (Gr.plain X Y Cel.blank):=by
  obtain⟨nb,cap,b1,b2,b3,b4⟩:=G0.at_;exact⟨G0.chg.trans0 hc6,nb,cap,hc6.keep b1 Z,b2,b3,b4.chg0 hc6⟩
 clear G0;refine sn ?_;refine Loop1.st (λq:Nat=>.int .i64 (q:Int)) (λq w'=>q≤(W.L.root.panes W.L.R).length∧GC w t7 w' (CG (W.viewAt (S.backOf S.cur W)) (Gr.plain X Y Cel.blank) ((W.L.root.panes W.L.R).take q))∧Chg [t7] w6 w') (λq=>(W.L.root.panes W.L.R).length-q) 0 rfl ⟨Nat.zero_le _,G6,sg _ _⟩ ?_;rintro next i wi hn ⟨hi,GI,hci⟩
 have hpl:=Mt.panes_len W.L.root W.L.R;have hfew:=wok.lay.few;refine sn ?_;refine sd (λg=>?_) (λg=>?_)
 ·have hi':i<(W.L.root.panes W.L.R).length:=O;have hxm:=rR hi';have ht:=Cd hi';have hxe:(W.L.root.panes W.L.R)[i]?=some (W.L.root.panes W.L.R)[i]:=rI hi';have hfit:(CG (W.viewAt (S.backOf S.cur W)) (Gr.plain X Y Cel.blank) ((W.L.root.panes W.L.R).take i)).fit X Y:=Gl hpf;have hsn:=U0 (W.viewAt (S.backOf S.cur W)) (Gr.plain X Y Cel.blank) ((W.L.root.panes W.L.R).take i) (W.L.root.panes W.L.R)[i];rw[←ht] at hsn;generalize (W.L.root.panes W.L.R)[i]=x at *;generalize CG (W.viewAt (S.backOf S.cur W)) (Gr.plain X Y Cel.blank) ((W.L.root.panes W.L.R).take i)=g at *;obtain⟨nb,cap,b1,b2,b3,b4⟩:=GI.at_;have hsi:Sx wi (some 44) BV ap (W.L.root.panes W.L.R):=hps.chg hci λb o e hne hm=>by
   simp only[List.mem_singleton] at hm;obtain⟨nb6,cap6,c1,-⟩:=G6.at_;exact hps.ne e hne c1 rfl hm
  obtain⟨b',o,rfl,hbl,hcell⟩:=hsi.get DL hxe;obtain⟨xr,-⟩:=hpk x hxm;have hxid:x.1∈W.L.root.ids:=by rw[←hpi];exact List.mem_map.2 ⟨x,hxm,rfl⟩
  obtain⟨p,hp,hpe⟩:=List.mem_map.1 ((wok.has x.1).2 hxid);simp only[BV,Rc.cells] at hcell;have l7:=Aa b1;have hai:Chg [] wi (wi.alloc (.cells #[.int .i64 x.1,.int .i64 x.2.x,.int .i64 x.2.y,.int .i64 x.2.w,.int .i64 x.2.h] 44)).drew:=(Ar _ _).drew;have h8:=(h.chg0 GI.chg).chg0 hai;have hw8:=(h8.each W hWm).each p hp;have hview:=fW h8 hg hp;rw[hpe] at hview;have hvw:W.viewAt (S.backOf S.cur W) x.1=CC p.M.S p.G.list (S.backOf S.cur W x.1):=by
   have:=Is (h8.each W hWm) hp;rw[hpe] at this;unfold Wn.viewAt;rw[this]
  rw[hvw] at hsn;have hvf:=Wz hw8.1.scr.ok (L:=p.G.list) (S.backOf S.cur W x.1);have e1:(i:Int)+1=((i+1:Nat):Int):=O;have c0:=xr.x0;have c1:=xr.y0;have c2:=xr.xw;have c3:=xr.yh;have c4:=xr.w0;have c5:=xr.h0;refine sr hcell b1 ?_;have a8:(wi.alloc (.cells #[.int .i64 x.1,.int .i64 x.2.x,.int .i64 x.2.y,.int .i64 x.2.w,.int .i64 x.2.h] 44)).drew.heap[wi.heap.size]?=some (.cells #[.int .i64 x.1,.int .i64 x.2.x,.int .i64 x.2.y,.int .i64 x.2.w,.int .i64 x.2.h] 44):=by exact so
  have b8:=hai.keep b1 Z;have b48:=b4.chg0 hai;have hzi:(wi.alloc (.cells #[.int .i64 x.1,.int .i64 x.2.x,.int .i64 x.2.y,.int .i64 x.2.w,.int .i64 x.2.h] 44)).drew.heap.size=wi.heap.size+1:=by exact so
  generalize (wi.alloc (.cells #[.int .i64 x.1,.int .i64 x.2.x,.int .i64 x.2.y,.int .i64 x.2.w,.int .i64 x.2.h] 44)).drew=w8 at *;refine td cN rfl (hview) ?_;rintro v w9 ⟨hv9,hc9⟩;obtain⟨nb9,cap9,rfl,p1,p2,p3,p4⟩:=hv9.sx;have a9:=hc9.keep a8 Z;have b9:=hc9.keep b8 Z;simp -dsimp (disch:=first|omega|(simp only[go_sem,seval];try omega))only[go_sem,seval,Gr.val,a9,b9];have hbl:=gP (X:=x.2.x) (Y:=x.2.y) hfit.ok hfit.r hvf.ok hvf.r (b48.chg0 hc9) cap b2 p4 cap9 p1 O O;simp only[Gr.val] at hbl;refine td cK rfl (hbl) ?_;rintro v w10 ⟨hv10,hc10⟩;rw[←hsn] at hv10;obtain⟨nb10,cap10,rfl,r1,r2,r3,r4⟩:=hv10.sx;have b10:=hc10.keep b9 Z;have l10:=Aa b10;have hz9:=hc9.size;have hz0i:=GI.chg.size;simp -dsimp (disch:=first|omega|(simp only[go_sem,seval];try omega))only[go_sem,seval,Gr.val,b10,e1];have hcs:∀o,Chg [t7] w10 (Ab w10 t7 o):=λo=>(sg _ _).set _ _ Z;refine hn (i+1) _ ⟨O,⟨(((GI.chg.trans0 hai).trans0 hc9).trans0 hc10).trans (hcs _) (by simp;omega),nb10,cap10,Aw _ _ _ _ rfl l10,r1,O,r4.chg (hcs _) λb o e hne hm=>?_⟩,(((hci.trans0 hai).trans0 hc9).trans0 hc10).trans (hcs _) Z⟩ O;cases e;simp at hm;omega
 ·have hil:i=(W.L.root.panes W.L.R).length:=O;subst hil;rw[List.take_length] at GI;have hgf:(CG (W.viewAt (S.backOf S.cur W)) (Gr.plain X Y Cel.blank) (W.L.root.panes W.L.R)).fit X Y:=Gl hpf;obtain⟨gb,hgb⟩:∃gb,gb=CG (W.viewAt (S.backOf S.cur W)) (Gr.plain X Y Cel.blank) (W.L.root.panes W.L.R):=⟨_,rfl⟩;rw[←hgb] at GI hgf;have a4i:=hci.keep a46 (by simpa using n47);have hAi:=h.chg0 GI.chg;refine td UJ rfl (eZ hAi hg wok) ?_;rintro v wb ⟨hbo,hcb⟩;have hbk:=Mt.bords_ok wok.lay.fits wok.lay.R;have hbn:=Mt.bords_len W.L.root W.L.R;obtain⟨ab,cb,rfl,-,hbs,-,-⟩:=hbo.form;have a4b:=hcb.keep a4i Z;have GB:GC w t7 wb gb:=by
   obtain⟨nb,cap,b1,b2,b3,b4⟩:=GI.at_;exact⟨GI.chg.trans0 hcb,nb,cap,hcb.keep b1 Z,b2,b3,b4.chg0 hcb⟩
  refine sn ?_;refine Loop1.st (λq:Nat=>.int .i64 (q:Int)) (λq w'=>q≤(W.L.root.bords W.L.R).length∧GC w t7 w' (CU gb ((W.L.root.bords W.L.R).take q))∧Chg [t7] wb w') (λq=>(W.L.root.bords W.L.R).length-q) 0 rfl ⟨Nat.zero_le _,GB,sg _ _⟩ ?_;rintro next2 i wj hn2 ⟨hi,GJ,hcj⟩;refine sn ?_;refine sd (λg2=>?_) (λg2=>?_)
  ·have hi':i<(W.L.root.bords W.L.R).length:=O;have hxm:=rR hi';have ht:=Cd hi';have hxe:(W.L.root.bords W.L.R)[i]?=some (W.L.root.bords W.L.R)[i]:=rI hi';have hfit:(CU gb ((W.L.root.bords W.L.R).take i)).fit X Y:=Hm hgf;have hsn:=cW gb ((W.L.root.bords W.L.R).take i) (W.L.root.bords W.L.R)[i];rw[←ht] at hsn;generalize (W.L.root.bords W.L.R)[i]=x at *;generalize CU gb ((W.L.root.bords W.L.R).take i)=g at *;obtain⟨nb,cap,b1,b2,b3,b4⟩:=GJ.at_;have hsi:Sx wj (some 42) Rc.cells ab (W.L.root.bords W.L.R):=hbs.chg hcj λb o e hne hm=>by
    simp only[List.mem_singleton] at hm;obtain⟨nb6,cap6,c1,-⟩:=GB.at_;exact hbs.ne e hne c1 rfl hm
   obtain⟨b',o,rfl,hbl,hcell⟩:=hsi.get (m:=4) (λ_=>rfl) hxe;obtain⟨xr,-⟩:=hbk x hxm;have c0:=xr.x0;have c1:=xr.y0;have c2:=xr.xw;have c3:=xr.yh;have c4:=xr.w0;have c5:=xr.h0;have e1:(i:Int)+1=((i+1:Nat):Int):=O;simp only[Rc.cells] at hcell;have l7:=Aa b1;refine sq hcell ?_;have hai:Chg [] wj (wj.alloc (.cells #[.int .i64 x.x,.int .i64 x.y,.int .i64 x.w,.int .i64 x.h] 42)):=Ar _ _;have a8:(wj.alloc (.cells #[.int .i64 x.x,.int .i64 x.y,.int .i64 x.w,.int .i64 x.h] 42)).heap[wj.heap.size]?=some (.cells #[.int .i64 x.x,.int .i64 x.y,.int .i64 x.w,.int .i64 x.h] 42):=by exact so
   have hz8:(wj.alloc (.cells #[.int .i64 x.x,.int .i64 x.y,.int .i64 x.w,.int .i64 x.h] 42)).heap.size=wj.heap.size+1:=by exact so
   generalize (wj.alloc (.cells #[.int .i64 x.x,.int .i64 x.y,.int .i64 x.w,.int .i64 x.h] 42))=w8 at *;refine td Ei rfl (Ej w8) ?_;rintro v w9 ⟨rfl,hc9⟩;have a9:=hc9.keep a8 Z;have l9:=Aa a9;simp only[Cel.val];refine sn ?_;refine FB (F:=Join0 _ _) λw10 hw10=>?_;have hc10:Chg [] w9 w10:=by rw[hw10];exact sy
   have d10:w10.heap[w9.heap.size]?=some (.cells #[.int .i32 45,.int .u8 Cel.blank.fg.toNat,.int .u8 Cel.blank.bg.toNat,.int .u8 Cel.blank.a.toNat] 60):=by rw[hw10];exact so
   clear hw10;have a10:=hc10.keep a9 Z;have hz9:=hc9.size;have hz10:=hc10.size;refine si (λw'=>w'.heap[w9.heap.size]?=some (.cells (CS x).cells.toArray 60)∧Chg [w9.heap.size] w10 w') ?_ ?_
   ·refine sq a10 ?_;refine sd (λg3=>?_) (λg3=>?_)
    ·have l10:=Aa d10;refine sq d10 ?_;have e:CS x=⟨124,0,0,0⟩:=by unfold CS;rw[rG g3]
     rw[e];exact⟨rfl,(sg _ _).set _ _ Z⟩
    ·have e:(CS x).cells.toArray=#[.int .i32 45,.int .u8 Cel.blank.fg.toNat,.int .u8 Cel.blank.bg.toNat,.int .u8 Cel.blank.a.toNat]:=by unfold CS;rw[rF g3];rfl
     rw[e];exact⟨d10,sg _ _⟩
   ·rintro w11 ⟨d11,hc11⟩;have hcj11:Chg [] wj w11:=(((hai.trans0 hc9).trans0 hc10).trans hc11 (by simp;omega));have b11:=hcj11.keep b1 Z;have a11:=hc11.keep a10 (by simp;omega);have b411:=b4.chg0 hcj11;have l11:=Aa b11;simp only[Cel.cells] at d11;refine LX3 b11 a11 d11 ?_;have hfl:=II (X:=x.x) (Y:=x.y) (W:=x.w) (H:=x.h) hfit.ok hfit.r b411 cap b2 (iV x) O O O O;simp only[Gr.val,Cel.val] at hfl;refine td Jj rfl (hfl) ?_;rintro v w12 ⟨hv12,hc12⟩;rw[←hsn] at hv12;obtain⟨nb12,cap12,rfl,r1,r2,r3,r4⟩:=hv12.sx;have b12:=hc12.keep b11 Z;have l12:=Aa b12;have hz0j:=GJ.chg.size;have hz11:=hcj11.size;simp -dsimp (disch:=first|omega|(simp only[go_sem,seval];try omega))only[go_sem,seval,Gr.val,b12,e1];have hcs:∀o,Chg [t7] w12 (Ab w12 t7 o):=λo=>(sg _ _).set _ _ Z;refine hn2 (i+1) _ ⟨O,⟨((GJ.chg.trans0 hcj11).trans0 hc12).trans (hcs _) (by simp;omega),nb12,cap12,Aw _ _ _ _ rfl l12,r1,O,r4.chg (hcs _) λb o e hne hm=>?_⟩,((hcj.trans0 hcj11).trans0 hc12).trans (hcs _) Z⟩ O;cases e;simp at hm;omega
  ·have hil:i=(W.L.root.bords W.L.R).length:=O;subst hil;rw[List.take_length] at GJ;have hlf:(CU gb (W.L.root.bords W.L.R)).fit X Y:=Hm hgf;have hLe:CU gb (W.L.root.bords W.L.R)=S.gridL W:=by unfold Ss.gridL;rw[hgb,hX,hY];rfl
   rw[hLe] at GJ hlf;obtain⟨nb,cap,b1,b2,b3,b4⟩:=GJ.at_;have a4j:=hcj.keep a4b (by simpa using n47);have l7:=Aa b1;refine sq b1 ?_;have hdj:Chg [] wj wj.drew:=(sg _ _).drew;refine td R0 rfl (Mc ((h.chg0 GJ.chg).chg0 hdj) ok hands hh) ?_;rintro v wk ⟨ks,k1,k2,rfl,hck⟩;have hck:Chg [] wj wk:=hdj.trans0 hck;have hst:(CE ks S.cur S.cop S.back hands).length≤1000:=by
    have e1:=Kf S.cur ks (λk hk=>by
     obtain⟨U,hU,e⟩:=List.mem_map.1 (k1.mem_iff.1 hk);have:=(ok.win U hU).2.2.2;omega)
    have e2:=EC (n:=S.back) (by have:=ok.back1;omega);have e3:=EC hh;have e4:=h.len ok;have e5:=k1.length_eq;rw[List.length_map] at e5;have f1:(if S.cop then[32,99,111,112,121,32]++AU S.back.toNat else([]:List UInt8)).length≤30:=by split<;>simp;omega
    have f2:(if 0<hands then[32,104,97,110,100,115,32]++AU hands.toNat else([]:List UInt8)).length≤30:=by split<;>simp;omega
    unfold CE;rw[rS,rS];omega
   generalize htx:CE ks S.cur S.cop S.back hands=tx at *;have bk:=hck.keep b1 Z;have hzk:=hck.size;refine sq bk ?_;refine td dI rfl (fQ wk X O tx O) ?_;rintro v wl ⟨hrow,hcl⟩;obtain⟨ar,cr,rfl,-,hrs,-,-⟩:=hrow.form;have bl:=hcl.keep bk Z;have hzl:=hcl.size;have hckl:=hck.trans0 hcl;have hrl:(F7 X tx).length=X:=AP _ _;refine sq bl ?_;have hpt:=My (X:=0) (Y:=(Y:Int)-1) hlf.ok hlf.r (b4.chg0 hckl) cap b2 hrs cr O O O;simp only[Gr.val] at hpt;refine td KY rfl (hpt) ?_;rintro v wm ⟨hv,hcm⟩;have hgr:(S.gridL W).put 0 ((Y:Int)-1) (F7 X tx)=S.grid W tx:=by unfold Ss.grid;rw[hX,hY];rfl
   rw[hgr] at hv;obtain⟨nbm,capm,rfl,r1,r2,r3,r4⟩:=hv.sx;have a4m:=(hckl.trans0 hcm).keep a4j Z;have l4m:=Aa a4m;have hzj:=GJ.chg.size;simp -dsimp (disch:=first|omega|(simp only[go_sem,seval];try omega))only[go_sem,seval,Gr.val,a4m];have hcs:∀o,Chg [w.heap.size] wm (Ab wm w.heap.size o):=λo=>(sg _ _).set _ _ Z;obtain⟨nb',cap',sp',ev,v1,v2,v3⟩:=hv;refine hK _ _ ⟨W,ks,hg,k1,k2,?_,((GJ.chg.trans0 hckl).trans0 hcm).trans (hcs _) Z⟩;rw[htx];exact⟨nb',cap',sp',ev,v1,O,(hcs _).keep v3 (by simp;omega)⟩
end
theorem WV{g:Gr}(a:g.ok){top fin:Int}{f:Nat→List Cel}(b:∀y,y<g.h→top≤(y:Int)→(y:Int)<fin→(f y).length=g.w){x y:Nat}(c:x<g.w)(d:y<g.h)(e:¬(top≤(y:Int)∧(y:Int)<fin)):(g.chg top fin f).at x y=g.at x y:=by
 have h:=Gr.chg_at a b c d;rw[rF e,a.row_get c d] at h;simpa using h
theorem dp{g:Gr}(hg:g.ok){Y:Nat}(hY:Y+1=g.h){l:List Cel}{x y:Nat}(hx:x<g.w)(hy:y<Y):(g.put 0 Y l).at x y=g.at x y:=by
 have hs:=BX (x:=(Y:Int)) (n:=1) (size:=(g.h:Int)) (i:=(y:Int)) O O;exact WV hg (λ_ _ _ _=>AP _ _) hx O λhn=>by have:=hs.1 hn;omega
section
variable {base:Nat} {w:World} {s:Nat} {S:Ss} {lim:Int}
theorem QY(ok:S.ok lim)(W:Wn):(S.gridL W).fit S.w.toNat S.h.toNat:=by
 have a:=ok.w0;have b:=ok.w1;have c:=ok.h0;have d:=ok.h1;exact Hm (Gl (JZ O O O O))
theorem Yw(ok:S.ok lim)(W:Wn)(t:List UInt8):(S.grid W t).fit S.w.toNat S.h.toNat:=(QY ok W).put
theorem Yp(ok:S.ok lim)(W:Wn)(t:List UInt8){x y:Nat}(a:(x:Int)<S.w)(b:(y:Int)<S.h-1):(S.grid W t).at x y=(S.gridL W).at x y:=by
 have d:=QY ok W;have c:=ok.h0;obtain⟨Y,hY⟩:∃Y:Nat,S.h-1=Y:=⟨(S.h-1).toNat,O⟩;unfold Ss.grid;rw[hY];have e:=d.h;have f:=d.w;exact dp d.ok O O O
end
end Go.Proofs.YtnpkidnbhlepkaaGreat
namespace Lyc
open Go
theorem V5{l:List Cel}{i:Nat}(h:AD l i=true):AW l i=true:=by
 cases i with
 | zero=>exact h
 | succ i=>simp [AW,h]
theorem Uz{l:List Cel}{i:Nat}(h:AD l i=true):AW l (i+1)=true:=by simp [AW,h]
theorem UB{l s:List Cel}{a:Nat}(b:right s=true)(d:∀i,i<s.length→l[a+i]?=s[i]?){i:Nat}(e:i<s.length):(Au l)[a+i]?=s[i]?:=by
 have f:=rI e;have k:=d i e;rw[f] at k ⊢;rw[FI l _ _ k];rcases Fi s b i _ f with h|h
 ·have m:∀j,AD s j=true→AD l (a+j)=true:=λj n=>by
   obtain⟨c,o,p,q,t⟩:=JW n;have u:=(rO.1 o).1;have v:=(rO.1 p).1;exact XB (by rw[d j u];exact o) (by rw[show a+j+1=a+(j+1) by omega,d _ v];exact p) q t
  rw[rG];rcases YI h with h|⟨x,h⟩
  ·exact V5 (m i h)
  ·have:=Uz (m _ h)
   rwa [show a+(i-1)+1=a+i by omega] at this
 ·rw[Sk h];simp
def Rc.apart(a b:Rc):Prop:=a.x+a.w≤b.x∨b.x+b.w≤a.x∨a.y+a.h≤b.y∨b.y+b.h≤a.y
theorem Rc.apart.symm{a b:Rc}(h:a.apart b):b.apart a:=by unfold Rc.apart at *;omega
theorem Rc.apart.inn{a b A B:Rc}(h:A.apart B)(c:a.inn A)(d:b.inn B):a.apart b:=by
 obtain⟨e,f,i,j⟩:=c;obtain⟨k,l,m,n⟩:=d;unfold Rc.apart at *;omega
theorem ZH(R:Rc)(ac:Bool)(a:Int):(Bh R ac a).apart (BY R ac a)∧(Bh R ac a).apart (Bp R ac a)∧(Bp R ac a).apart (BY R ac a):=by
 unfold Rc.apart Bh BY Bp;cases ac<;>(simp only[if_true,if_false,Bool.false_eq_true];omega)
namespace Mt
theorem tree_apart:∀{t:Mt} {R:Rc},t.fits R=true→R.ok→(t.panes R).Pairwise (λp q=>p.2.apart q.2)∧∀p∈t.panes R,∀b∈t.bords R,p.2.apart b
 | pane _ _,R,_,_=>by simp [panes,bords]
 | split b ac p q l r,R,h,hR=>by
  obtain⟨c,d,e⟩:=fits_split h;have f:=Fa (n:=R.len ac) (p:=p) (q:=q) c;simp only[panes,bords];generalize Az (R.len ac) p q=a at *;obtain⟨i,-⟩:=HO (ac:=ac) (a:=a) hR f.1 f.2;obtain⟨j,-⟩:=Ic (ac:=ac) (a:=a) hR f.1 f.2;obtain⟨k,m,o⟩:=ZH R ac a;obtain⟨s,u⟩:=tree_apart d i;obtain⟨v,z⟩:=tree_apart e j;have A:=panes_ok d i;have B:=panes_ok e j;have C:=bords_ok d i;have D:=bords_ok e j;refine⟨List.pairwise_append.2 ⟨s,v,λx E y F=>m.inn (A x E).2 (B y F).2⟩,λx E y F=>?_⟩;rcases List.mem_append.1 E with E|E<;>rcases List.mem_append.1 F with F|F
  ·exact u x E y F
  ·rcases rM.1 F with rfl|F
   ·exact k.inn (A x E).2 (Rc.inn.refl _)
   ·exact m.inn (A x E).2 (D y F).2
  ·exact m.symm.inn (B x E).2 (C y F).2
  ·rcases rM.1 F with rfl|F
   ·exact o.inn (B x E).2 (Rc.inn.refl _)
   ·exact z x E y F
end Mt
def Seg(g:Gr)(r:Rc)(G:Gr):Prop:=∀x y:Nat,(x:Int)<r.w→(y:Int)<r.h→g.at (r.x.toNat+x) (r.y.toNat+y)=G.at x y
section
variable {g G:Gr} {r:Rc} {w h:Nat}
theorem KK(b:g.fit w h)(ok:r.ok)(c:r.x+r.w≤w)(d:r.y+r.h≤h)(e:G.fit r.w.toNat r.h.toNat){top fin:Int}{f:Nat→List Cel}(j:∀y,(f y).length=g.w)(k:∀y:Nat,(y:Int)<r.h→top≤r.y+y→r.y+y<fin→∀x:Nat,(x:Int)<r.w→(f (r.y.toNat+y))[r.x.toNat+x]?=some (G.at x y))(m:∀x y:Nat,(x:Int)<r.w→(y:Int)<r.h→¬(top≤r.y+y∧r.y+y<fin)→g.at (r.x.toNat+x) (r.y.toNat+y)=G.at x y):Seg (g.chg top fin f) r G:=by
 intro x y n o;obtain⟨p,q,t,u,-,-⟩:=ok;have v:=b.w;have z:=b.h;have A:=e.w;have B:=e.h;have C:=Gr.chg_at b.ok (top:=top) (fin:=fin) (f:=f) (λy _ _ _=>j y) (x:=r.x.toNat+x) (y:=r.y.toNat+y) O O;by_cases D:top≤r.y+y∧r.y+y<fin
 ·rw[rG O] at C;have E:=e.ok.row_len (y:=y) O;have F:=UB (l:=f (r.y.toNat+y)) (s:=G.row y) (a:=r.x.toNat) (Gr.right.at e.r O) (λi H=>by rw[k y o D.1 D.2 i O,e.ok.row_get O O]) (i:=x) O;rw[F,e.ok.row_get O O] at C;exact Option.some.inj C
 ·rw[rF O,b.ok.row_get O O] at C;rw[Option.some.inj C];exact m x y n o D
theorem cX(hg:g.fit w h)(ok:r.ok)(hw:r.x+r.w≤w)(hh:r.y+r.h≤h)(hG:G.fit r.w.toNat r.h.toNat)(hs:Seg g r G){b:Rc}(hb:r.apart b)(c:Cel):Seg (g.fill b.x b.y b.w b.h c) r G:=by
 have gw:=hg.w;have gh:=hg.h;obtain⟨o1,o2,o3,o4,-,-⟩:=id ok;refine KK hg ok hw hh hG (λ_=>AP _ _) (λy hy h1 h2 x hx=>?_) λx y hx hy _=>hs x y hx hy;rw[Dw O,rF λhc=>?_]
 ·rw[hs x y hx hy]
 ·have hy':=(BX (x:=b.y) (n:=b.h) (size:=(g.h:Int)) (i:=r.y+y) O O).1 ⟨h1,h2⟩;have hx':=(BX (x:=b.x) (n:=b.w) (size:=(g.w:Int)) (i:=((r.x.toNat+x:Nat):Int)) O O).1 hc;unfold Rc.apart at hb;omega
theorem fM(hg:g.fit w h)(ok:r.ok)(hw:r.x+r.w≤w)(hh:r.y+r.h≤h)(hG:G.fit r.w.toNat r.h.toNat)(hs:Seg g r G){b:Rc}(hb:r.apart b){V:Gr}(hV:V.fit b.w.toNat b.h.toNat)(hbo:b.ok):Seg (g.blit V b.x b.y) r G:=by
 have gw:=hg.w;have gh:=hg.h;have vw:=hV.w;have vh:=hV.h;obtain⟨o1,o2,o3,o4,-,-⟩:=id ok;obtain⟨q1,q2,q3,q4,-,-⟩:=hbo;refine KK hg ok hw hh hG (λ_=>AP _ _) (λy hy h1 h2 x hx=>?_) λx y hx hy _=>hs x y hx hy;rw[Dw O,rF λhc=>?_]
 ·rw[hs x y hx hy]
 ·have hy':=(BX (x:=b.y) (n:=(V.h:Int)) (size:=(g.h:Int)) (i:=r.y+y) O O).1 ⟨h1,h2⟩;have hx':=(BX (x:=b.x) (n:=(V.w:Int)) (size:=(g.w:Int)) (i:=((r.x.toNat+x:Nat):Int)) O O).1 hc;unfold Rc.apart at hb;omega
theorem gX(a:g.fit w h)(ok:r.ok)(b:r.x+r.w≤w)(c:r.y+r.h≤h)(d:G.fit r.w.toNat r.h.toNat):Seg (g.blit G r.x r.y) r G:=by
 have e:=a.w;have f:=a.h;have j:=d.w;have k:=d.h;obtain⟨l,m,o,p,-,-⟩:=id ok;refine KK a ok b c d (λ_=>AP _ _) (λy q s t x u=>?_) λx y u q v=>absurd ((BX (x:=r.y) (n:=(G.h:Int)) (size:=(g.h:Int)) (i:=r.y+y) O O).2 ⟨O,O⟩) v;rw[Dw O,rG ((BX (x:=r.x) (n:=(G.w:Int)) (size:=(g.w:Int)) (i:=((r.x.toNat+x:Nat):Int)) O O).2 ⟨O,O⟩),rG O];congr 2<;>omega
end
end Lyc
namespace Go.Proofs.YtnpkidnbhlepkaaGreat
open Lyc Go Go.Proofs.Tryz
section
variable {w h:Nat} {r:Rc} {G:Gr}
theorem Ng(ok:r.ok)(a:r.x+r.w≤w)(c:r.y+r.h≤h)(d:G.fit r.w.toNat r.h.toNat):∀(l:List Rc) (g:Gr),g.fit w h→(∀b∈l,r.apart b)→Seg g r G→Seg (CU g l) r G
 | [],_,_,_,hs=>hs
 | b::l,g,hg,hb,hs=>Ng ok a c d l (g.fill b.x b.y b.w b.h (CS b)) hg.fill (λx e=>hb x (by simp [e])) (cX hg ok a c d hs (hb b Z) _)
theorem IU{V g:Gr}(a:g.fit w h)(x y:Int):(g.blit V x y).fit w h:=⟨Gr.chg_ok a.ok λ_ _ _ _=>AP _ _,Gr.chg_right a.ok a.r λ_ _ _ _=>AP _ _,a.w,a.h⟩
theorem Sl{V:Int→Gr}(ok:r.ok)(a:r.x+r.w≤w)(b:r.y+r.h≤h)(c:G.fit r.w.toNat r.h.toNat):∀(l:List (Int × Rc)) (g:Gr),g.fit w h→(∀p∈l,r.apart p.2∧p.2.ok∧(V p.1).fit p.2.w.toNat p.2.h.toNat)→Seg g r G→Seg (CG V g l) r G
 | [],_,_,_,hs=>hs
 | p::l,g,hg,hp,hs=>Sl ok a b c l (g.blit (V p.1) p.2.x p.2.y) (IU hg _ _) (λx d=>hp x (by simp [d])) (fM hg ok a b c hs (hp p Z).1 (hp p Z).2.2 (hp p Z).2.1)
theorem Oc{V:Int→Gr}:∀(l:List (Int × Rc)) (g:Gr),g.fit w h→l.Pairwise (λp q=>p.2.apart q.2)→(∀p∈l,p.2.ok∧p.2.x+p.2.w≤w∧p.2.y+p.2.h≤h∧(V p.1).fit p.2.w.toNat p.2.h.toNat)→∀p∈l,Seg (CG V g l) p.2 (V p.1)
 | [],_,_,_,_,p,a=>by cases a
 | q::l,g,hg,ha,hok,p,a=>by
  obtain⟨b,c⟩:=List.pairwise_cons.1 ha;rcases rM.1 a with rfl|a
  ·obtain⟨d,e,f,i⟩:=hok p Z;exact Sl d e f i l _ (IU hg _ _) (λx j=>⟨b x j,(hok x (by simp [j])).1,(hok x (by simp [j])).2.2.2⟩) (gX hg d e f i)
  ·exact Oc l _ (IU hg _ _) c (λx j=>hok x (by simp [j])) p a
end
theorem eu{S:Ss}{e:Int}(ok:S.ok e){W:Wn}(f:W∈S.wins)(t:List UInt8)(i:∀p∈W.L.root.panes W.L.R,(W.viewAt (S.backOf S.cur W) p.1).fit p.2.w.toNat p.2.h.toNat){p:Int × Rc}(j:p∈W.L.root.panes W.L.R){x y:Nat}(k:(x:Int)<p.2.w)(l:(y:Int)<p.2.h):
  (S.grid W t).at (p.2.x.toNat+x) (p.2.y.toNat+y)=(W.viewAt (S.backOf S.cur W) p.1).at x y:=by
 obtain⟨m,n,-,-⟩:=ok.win W f;have a:=ok.w0;have b:=ok.w1;have c:=ok.h0;have d:=ok.h1;have o:=Mt.panes_ok m.lay.fits m.lay.R;obtain⟨s,u⟩:=Mt.tree_apart m.lay.fits m.lay.R;have v:∀q∈W.L.root.panes W.L.R,q.2.ok∧q.2.x+q.2.w≤S.w.toNat∧q.2.y+q.2.h≤S.h.toNat-1:=λq z=>by
  obtain⟨A,B⟩:=o q z;rw[n] at B;have C:=B.c;have D:=B.d;dsimp only at C D;exact⟨A,O,O⟩
 obtain⟨A,B,E⟩:=v p j;have F:=A.x0;have H:=A.y0;rw[Yp ok W t O O];have I:=JZ (w:=S.w.toNat) (h:=S.h.toNat) O O O O;exact Ng A B O (i p j) _ _ (Gl I) (u p j) (Oc _ _ I s (λq z=>⟨(v q z).1,(v q z).2.1,by have:=(v q z).2.2;omega,i q z⟩) p j) x y k l
theorem aG{S:Scr}(h:S.ok)(L:List (List Cel)):CC S L 0=S.cur:=by
 have a:=h.cur;unfold CC;refine Gr.of_rows a.ok λy b=>?_;unfold BJ;rw[show min (0:Int).toNat L.length=0 by simp,Nat.sub_zero,rF O];congr 1;omega
def Ss.new(S:Ss):Prop:=∀W∈S.wins,∀p∈W.pts,p.new
structure NRel (S S':Ss):Prop where
 w:S'.w=S.w
 h:S'.h=S.h
 room:S'.room=S.room
 cur:S'.cur=S.cur
 cop:S'.cop=S.cop∨S'.cop=false
 pre:S'.pre=S.pre
 back:S'.back=S.back∨S'.back=0
 ns:S'.wins.map (·.n)=S.wins.map (·.n)
 nw:S.new→S'.new
theorem NRel.refl(S:Ss):NRel S S:=⟨rfl,rfl,rfl,rfl,.inl rfl,rfl,.inl rfl,rfl,λh=>h⟩
theorem NRel.trans{A B C:Ss}(h:NRel A B)(k:NRel B C):NRel A C:=
 ⟨k.w.trans h.w,k.h.trans h.h,k.room.trans h.room,k.cur.trans h.cur,k.cop.elim (λe=>h.cop.imp e.trans e.trans) .inr,k.pre.trans h.pre,k.back.elim (λe=>h.back.imp e.trans e.trans) .inr,k.ns.trans h.ns,λx=>k.nw (h.nw x)⟩
theorem Jo{l:List Wn}{W V:Wn}(hW:W∈l)(hn:(∀p∈W.pts,p.new)→∀p∈V.pts,p.new)(h:∀W∈l,∀p∈W.pts,p.new):∀U∈BD l V,∀p∈U.pts,p.new:=λU hU=>(Fs hU).elim (λe=>e ▸ hn (h W hW)) λhU=>h U hU.1
def OG(base:Nat)(lim:Int)(w:World)(s:Nat)(S:Ss)(v:Value)(w':World):Prop:=
 ∃a,SsAt base w' s a∧a.ok (lim+1)∧Trn (S.own s) (a.own s) w w'∧(v=.nilIface∨∃c,c≠0∧v=B6 c)∧NRel S a
section
variable {base:Nat} {w w' w'':World} {s:Nat} {S:Ss} {lim:Int}
theorem dF(h:SsAt base w s S)(ok:S.ok lim)(hbase:base≤w.heap.size)(hlim:lim≤1000000000000000)(k:Ky)(hk:k.kind=2∨k.kind=3∨k.kind=4):Calls prog 48 #[.pointer (some ⟨s,0,none⟩),k.val] w
  (Ac λv w'=>∃word v',v=.tuple #[.string (Aq word),v']∧OG base lim w s S v' w'):=by
 obtain⟨W,hg⟩:=S.get_cur ok;obtain⟨hWm,hWn⟩:=Ss.get_mem hg;obtain⟨wok,wR,wnew,wn⟩:=ok.win W hWm;have hlen:=h.len ok;have hb:=h.hb;have hm:=h.hm;have ls:=Aa hb;have lm:=Aa hm;apply iX;intro K hK;unfold Lz;unfold Ky.val;simp -dsimp (disch:=first|omega|(simp only[go_sem,seval];try omega))only[go_sem,seval,hb,hm,HI,hg];have eW:(BH (S.wins.map Wn.ent,S.mc).fst S.cur).getD (Value.pointer none)=Value.pointer (some ⟨W.b,0,none⟩):=by
  show(BH (S.wins.map Wn.ent) S.cur).getD (Value.pointer none)=_;rw[HI,hg];rfl
 rw[eW];refine FB (F:=Join0 _ _) λw0 hw0=>?_;have hc0:Chg [] w w0:=by rw[hw0];exact sy
 have ak:w0.heap[w.heap.size]?=some (.cells #[.int .i64 k.kind,.int .i64 k.n,.string (Aq k.s)] 126):=by rw[hw0];exact so
 clear hw0;have h0:=h.chg0 hc0;have hb0:=h0.hb;have hm0:=h0.hm;have hbase0:base≤w0.heap.size:=by have:=hc0.size;omega
 have T0:Trn (S.own s) (S.own s) w w0:=.of0 hc0 λ_ h=>.inl h;have hW0:=h0.each W hWm;have hWb:=hW0.hb;refine si (λw'=>OG base lim w s S .nilIface w') ?_ (λw' h=>hK _ _ ⟨[],.nilIface,rfl,h⟩);refine si (λw'=>False) ?_ (λ_ h=>h.elim)
 ·refine sn ?_;refine sd (λg=>absurd g O) (λg1=>?_);refine sh (λv w'=>v=.bool (decide (k.kind=2∨k.kind=3))∧w'=w0) ?_ ?_
  ·refine sn ?_;refine sd (λg=>⟨su (.inl g),rfl⟩) (λg=>?_);refine sn ?_;exact sw ⟨λh=>.inr h,λh=>h.elim (λh=>absurd h g) id⟩
  rintro v w1 ⟨rfl,rfl⟩;refine sd (λg=>?_) (λg2=>?_)
  ·
   refine sq ak ?_;refine td gL rfl (Yo hW0 wok hbase0 O (decide (k.kind=2))) ?_;rintro v w2 ⟨W',hst,hd⟩;obtain⟨A1,T1⟩:=h0.turn hWm hst.n hst.b hst.born hst.trn hst.at_ hbase0;have ok1:=ok.put hWm hst.n hst.ok hst.R hst.new;rcases hd with ⟨rfl,nb,n1,n2,R,d1,d2,d3,d4,d5⟩|⟨rfl,⟨c,hc,rfl⟩,d⟩
   ·refine sn ?_;refine td Nz rfl (LP A1) ?_;rintro v w3 ⟨A2,T2⟩;exact⟨_,A2,ok1.left false,(T0.trans T1).trans T2,.inl rfl,⟨rfl,rfl,rfl,rfl,.inr rfl,rfl,.inr rfl,FA _ _,Jo hWm hst.nw⟩⟩
   ·unfold B6;refine sn ?_;exact hK _ _ ⟨[115,112,108,105,116],_,rfl,_,A1,ok1,T0.trans T1,.inr ⟨c,hc,rfl⟩,⟨rfl,rfl,rfl,rfl,.inl rfl,rfl,.inl rfl,FA _ _,Jo hWm hst.nw⟩⟩
  refine sn ?_;refine sd (λg=>?_) (λg4=>absurd hk O)
  ·
   refine sq hWb ?_;have hd:Chg [] w1 w1.drew:=(sg _ _).drew;refine td kB rfl (VQ (hW0.lay.chg0 hd) wok.lay W.active) ?_;rintro v w2 ⟨rfl,hc2⟩;have hc2:Chg [] w1 w2:=hd.trans0 hc2;have hW2:=hW0.chg0 hc2;have hWb2:=hW2.hb;have lw2:=Aa hWb2;have hne:=hW2.ne;obtain⟨nx1,nx2⟩:=ir wok.lay.nd wok.act;generalize Ek W.L.root.ids W.active=nx at *;refine sq hWb2 ?_;refine FB (F:=OpX _ _ _ _) λw3 hw3=>?_;have hc3:Chg [W.b] w2 w3:=by rw[hw3];exact(sg _ _).set _ _ Z
   have hb3:w3.heap[W.b]?=some (.cells #[.pointer (some ⟨W.lb,0,none⟩),.int .i64 nx,.int .i64 W.room,.map (some W.tm)] 84):=by rw[hw3];exact Aw _ _ _ _ rfl lw2
   clear hw3;obtain⟨A1,T1⟩:=hW2.laid (L:=W.L) (act:=nx) hc3 Z (hW2.lay.chg hc3 (by simp;exact λe=>hne.1 e.symm) λx hx hm=>by simp at hm;subst hm;exact hne.2.2.2.1 hx) hb3 (λx hx=>.inl hx) (by have:=hc2.size;omega);obtain⟨A2,T2⟩:=(h0.chg0 hc2).turn hWm (V:={ W with L:=W.L,active:=nx }) rfl rfl rfl T1 A1 (by have:=hc2.size;omega);have ok1:=ok.put hWm (V:={ W with L:=W.L,active:=nx }) rfl ⟨wok.lay,nx1,wok.has,wok.size⟩ rfl (by show W.L.newest≤_;omega);refine td Nz rfl (LP A2) ?_;rintro v w4 ⟨A3,T3⟩;exact⟨_,A3,ok1.left false,((T0.chg0 hc2).trans T2).trans T3,.inl rfl,⟨rfl,rfl,rfl,rfl,.inr rfl,rfl,.inr rfl,FA _ _,Jo hWm λh=>h⟩⟩
theorem cm (h:SsAt base w s S) (ok:S.ok lim) (hbase:base≤w.heap.size) (hlim:lim≤900000000000000) (l:List UInt8) (hl:l.length≤2000) (hks:∀k∈(Cc S.cop S.pre l).ks,k.kind=2∨k.kind=3∨k.kind=4):Calls prog 20 #[.pointer (some ⟨s,0,none⟩),.string (Aq l)] w
  (Ac λ_ w'=>∃S',SsAt base w' s S'∧S'.ok (lim+5000)∧Trn (S.own s) (S'.own s) w w'∧NRel { S with cop:=(Cc S.cop S.pre l).cop,pre:=(Cc S.cop S.pre l).pre } S'):=by
 have hb:=h.hb
 have hkl:=iQ S.cop S.pre l
 apply Y7
 intro K hK
 unfold Qh
 refine sq hb ?_
 refine OpX.call dO rfl (Calls.ret (YT hb l hl) ?_)
 rintro v w1 ⟨hko,hb1,hc1⟩
 generalize Cc S.cop S.pre l=Q at *
 obtain⟨A1,T1⟩:=h.self hc1 hb1
 obtain⟨ak,ck,rfl,-,hks1,-,hkf⟩:=hko.form
 have hz1:=hc1.size
 refine sn ?_
 obtain⟨S0,hS0⟩:∃S0:Ss,S0={ S with cop:=Q.cop,pre:=Q.pre }:=⟨_,rfl⟩
 have A1:SsAt base w1 s S0:=by rw[hS0];exact A1
 have T1:Trn (S.own s) (S0.own s) w w1:=by rw[hS0];exact T1
 have ok0:S0.ok lim:=by rw[hS0];exact⟨ok.w0,ok.w1,ok.h0,ok.h1,ok.win,ok.cur,ok.back0,ok.back1,ok.few,ok.dis0,ok.dis1⟩
 rw[←hS0] at hK
 refine Loop2.st (λq:Nat × Option Addr × Nat × List (Option (TypeId × Value))=>.slice q.2.1 q.2.2.2.length q.2.2.1) (λq=>.int .i64 (q.1:Int)) (λq w'=>q.1≤Q.ks.length∧∃S1,SsAt base w' s S1∧S1.ok (lim+q.1)∧Trn (S0.own s) (S1.own s) w1 w'∧NRel S0 S1∧q.2.2.2.length=q.1 ∧
  Ox w1.heap.size w' 32 1 erF (.slice q.2.1 q.2.2.2.length q.2.2.1) q.2.2.2∧∀b,some b=(Value.slice q.2.1 q.2.2.2.length q.2.2.1).ownBlock→¬S1.own s b) (λq=>Q.ks.length-q.1) (0,none,0,[]) rfl rfl
  ⟨Nat.zero_le _,S0,A1,by simpa using ok0,Trn.refl _ _,NRel.refl _,rfl,Ox.nil _ _ _ _ _,by simp [Value.ownBlock]⟩ ?_
 rintro next ⟨i,a5,c5,xs⟩ wi hn ⟨hi,S1,A,okS,T,run,hxl,ho,hno⟩
 dsimp only at hi okS run hxl ho hno ⊢
 have hzi:=T.size
 refine sn ?_
 refine BrW.dec (λg=>?_) (λg=>?_)
 ·have hi':i<Q.ks.length:=by omega
  have hx:Q.ks[i]?=some Q.ks[i]:=List.getElem?_eq_getElem hi'
  have hkk:=hks _ (List.getElem_mem hi')
  have hsk:Sx wi (some 126) Ky.cells ak Q.ks:=by
   obtain⟨F,hc,hF⟩:=T.chg
   refine hks1.chg hc λb o e hne hm=>?_
   obtain⟨g9,e9,h9,-⟩:=hkf hne
   rw[e9] at e
   cases e
   have hlt:S0.own s=S.own s:=by rw[hS0];rfl
   have h8:=hF _ hm
   rw[hlt] at h8
   have:=h.lt _ h8
   omega
  generalize Q.ks[i]=k at *
  have e1:(i:Int)+1=((i+1:Nat):Int):=by omega
  obtain⟨b,o,rfl,hbl,hcell⟩:=hsk.get Ky.len hx
  simp only[Ky.cells] at hcell
  refine sq hcell ?_
  have ha0:Chg [] wi (wi.alloc (.cells #[.int .i64 k.kind,.int .i64 k.n,.string (Aq k.s)] 126)):=by(repeat (first|exact Chg.refl _ _|apply Chg.drew|apply Chg.alloc|(refine Chg.set ?_ _ _ (by first|(left;simp;done)|(right;omega)))))
  generalize wi.alloc (.cells #[.int .i64 k.kind,.int .i64 k.n,.string (Aq k.s)] 126)=w2 at *
  have hz2:=ha0.size
  refine OpX.call Uy rfl (Calls.ret (dF (A.chg0 ha0) okS (by omega) (by omega) k hkk) ?_)
  rintro v w3 ⟨word,v',rfl,S2,A3,ok3,T3,hv',hrel⟩
  have T03:Trn (S1.own s) (S2.own s) wi w3:=(Trn.of0 ha0 λ_ h=>.inl h).trans T3
  have hz3:=T3.size
  have ok3:S2.ok (lim+(i+1:Nat)):=ok3.mono (by omega)
  have ho3:Ox w1.heap.size w3 32 1 erF (.slice a5 xs.length c5) xs:=by
   obtain⟨F,hc,hF⟩:=T03.chg
   exact ho.chg hc λb hb hm=>hno b hb (hF b hm)
  have hno3:∀b,some b=(Value.slice a5 xs.length c5).ownBlock→¬S2.own s b:=λb hb h9=>(T03.grow b h9).elim (hno b hb) λh9=>by
   obtain⟨-,-,-,-,-,hown,-⟩:=ho.form
   have:=(hown b hb).2
   omega
  have hnext:∀(x:Option (TypeId × Value)) (w4:World),Chg [] w3 w4→OpX prog (.buildSlice 122 1 #[(0,.const (erV x))]) 122 (λt33=>OpX prog (.call { callee:=.builtin .append,args:=#[.const (.slice a5 xs.length c5),.const t33],argTypes:=#[122,122] }) 122 λt34=>xO .add 3 (.int .i64 i) (.int .i64 1) λt35=>next t34 t35) w4:=by
   intro x w4 hc4
   have hsl:∃w5,(OpX prog (.buildSlice 122 1 #[(0,.const (erV x))]) 122 (λt33=>OpX prog (.call { callee:=.builtin .append,args:=#[.const (.slice a5 xs.length c5),.const t33],argTypes:=#[122,122] }) 122 λt34=>xO .add 3 (.int .i64 i) (.int .i64 1) λt35=>next t34 t35) w4=OpX prog (.call { callee:=.builtin .append,args:=#[.const (.slice a5 xs.length c5),.const (.slice (some ⟨w4.heap.size,0,none⟩) 1 1)],argTypes:=#[122,122] }) 122 (λt34=>xO .add 3 (.int .i64 i) (.int .i64 1) λt35=>next t34 t35) w5)∧Chg [] w4 w5∧w5.heap[w4.heap.size]?=some (.cells #[erV x] 32):=by
    cases x with
    | none =>
     simp only[erV]
     refine⟨w4.alloc (.cells #[.nilIface] 32),?_,by(repeat (first|exact Chg.refl _ _|apply Chg.drew|apply Chg.alloc|(refine Chg.set ?_ _ _ (by first|(left;simp;done)|(right;omega))))),(by exact so)⟩
     exact so
    | some p =>
     simp only[erV]
     refine⟨w4.alloc (.cells #[.iface p.1 p.2] 32),?_,by(repeat (first|exact Chg.refl _ _|apply Chg.drew|apply Chg.alloc|(refine Chg.set ?_ _ _ (by first|(left;simp;done)|(right;omega))))),(by exact so)⟩
     exact so
   obtain⟨w5,e5,hc5,h5⟩:=hsl
   rw[e5]
   clear e5
   have hc35:=hc4.trans0 hc5
   have hz5:=hc35.size
   have hsa:Sx w5 (some 32) erF (some ⟨w4.heap.size,0,none⟩) [x]:=Sx.built (c:=erF x) h5 (by simp)
   refine Bd Qg Lv R2 (ho3.chg0 hc35) hsa rfl (by rw[List.length_singleton];omega) (by omega) (by omega) ?_
   intro v6 w6 ho6 hc6 hown6
   obtain⟨a6,c6,rfl,-⟩:=ho6.form
   refine sq e1 ?_
   have hge6:∀x∈(Value.slice a5 xs.length c5).ownBlock.toList,w1.heap.size≤x:=(ho3.chg0 hc35).own_ge
   have hc36:Chg (Value.slice a5 xs.length c5).ownBlock.toList w3 w6:=(hc35.mono (by simp)).trans hc6 (λx hx=>.inl hx)
   refine hn (i+1,a6,c6,xs++[x]) _ ⟨by dsimp only;omega,S2,A3.chg hc36 (λx hx=>hno3 x (by simpa [eq_comm] using hx)),ok3,(T.trans T03).priv hc36 hge6,run.trans hrel,by simp [hxl],ho6,?_⟩ (by dsimp only;omega)
   intro b hb
   rcases hown6 with e|e
   ·exact hno3 b (by rw[←e];exact hb)
   ·have hb:some b=(Value.slice a6 (xs++[x]).length c6).ownBlock:=hb
    rw[e] at hb
    cases hb
    intro h9
    have:=A3.lt _ h9
    omega
  rcases hv' with rfl|⟨c,hc0,rfl⟩
  ·refine sn ?_
   refine OpX.call PD rfl (Calls.ret (XI w3 (Aq word)) ?_)
   rintro v w4 ⟨rfl,rfl⟩
   refine OpX.call S8 rfl (Calls.ret (jH w4 i) ?_)
   rintro v w5 ⟨rfl,rfl⟩
   exact hnext none w5 (Chg.refl _ _)
  ·refine sn ?_
   refine OpX.call PD rfl (Calls.ret (iK w3 _ _ (Aq word)) ?_)
   rintro v w4 ⟨rfl,h4,hc4⟩
   refine OpX.call S8 rfl (Calls.ret (XR w4 _ _ i) ?_)
   rintro v w5 ⟨rfl,h5,hc5⟩
   exact hnext (some (_,_)) w5 (hc4.trans0 hc5)
 ·have hil:i=Q.ks.length:=by omega
  subst hil
  obtain⟨a9,c9,e9,-,hs3,-,-⟩:=ho.form
  simp only[Value.slice.injEq] at e9
  obtain⟨rfl,-,rfl⟩:=e9
  refine OpX.call eC rfl (Calls.ret (bw hs3 (by omega)) ?_)
  rintro v w2 ⟨hc2,hj⟩
  exact hK _ _ ⟨S1,A.chg0 hc2,okS.mono (by omega),(T1.trans T).chg0 hc2,run⟩
theorem OK(h:SsAt base w s S)(ok:S.ok lim)(hbase:base≤w.heap.size)(hlim:lim≤800000000000000)(hc0:S.cop=false)(hp0:S.pre=false)(l:List UInt8)(hl:l=[2,37]∨l=[2,34]∨l=[2,37,2,111]∨l=[2,34,2,111]):Calls prog 7 #[.pointer (some ⟨s,0,none⟩),.agg #[.int .i64 1,.int .i64 0,.int .i64 0,.string (Aq l),.int .i64 0,.int .i64 0]] w
  (Ac λ_ w'=>∃S',SsAt base w' s S'∧S'.ok (lim+5000)∧Trn (S.own s) (S'.own s) w w'∧NRel S S'):=by
 obtain⟨W,hg⟩:=S.get_cur ok;have hks:(Cc S.cop S.pre l).cop=false∧(Cc S.cop S.pre l).pre=false∧∀k∈(Cc S.cop S.pre l).ks,k.kind=2∨k.kind=3∨k.kind=4:=by
  rw[hc0,hp0];rcases hl with rfl|rfl|rfl|rfl<;>decide
 have hll:l.length≤2000:=by rcases hl with rfl|rfl|rfl|rfl<;>decide
 apply MF;intro K hK;unfold Ke;refine sn ?_;refine OpX.gen λw1 hw1=>?_;have hc1:Chg [] w w1:=by rw[hw1];exact sy
 have ae:w1.heap[w.heap.size]?=some (.cells #[.int .i64 1,.int .i64 0,.int .i64 0,.string (Aq l),.int .i64 0,.int .i64 0] 35):=by rw[hw1];exact so
 clear hw1;have h1:=h.chg0 hc1;have hz1:=hc1.size;refine td Gx rfl (G7 h1) ?_;rintro v w2 ⟨rfl,rfl⟩;refine td E3 rfl (E7 h1 S.cur) ?_;rintro v w3 ⟨rfl,rfl⟩;rw[hg];simp only[CY,Option.map_some,Option.getD_some];refine sq ae ?_;refine sd (λg=>absurd g O) (λ_=>?_);refine sq ae ?_;refine td Vz rfl (cm h1 ok O O l hll hks.2.2) ?_;rintro v w4 ⟨S',A,ok',T,run⟩;rw[hks.1,hks.2.1] at run;have e:({ S with cop:=false,pre:=false }:Ss)=S:=by
  obtain⟨a1,a2,a3,a4,a5,a6,a7,a8,a9,a10,a11,a12,a13⟩:=S;dsimp only at hc0 hp0;rw[hc0,hp0]
 rw[e] at run;exact hK _ _ ⟨S',A,ok',(Trn.of0 hc1 λ_ h=>.inl h).trans T,run⟩
end
set_option maxRecDepth 100000
def Pe(a b:Value)(K:rD):rE:=Loop2 (.slice none 0 0) (.int .i64 0) λc d e=>xU b 97 λf=>xO .lss 3 d f λf=>xW f (Join1 (λf=>xI 97 b d λg=>xL 21 g λg=>xC 69 [.const a,.const g] [53,21] 89 λg=>xA 89 λh=>xS 89 h g<|xF 89 h 0 λg=>xL 3 g λg=>xO .neq 3 g (.int .i64 0) λg=>xW g (xL 89 h λg=>xQ (.buildSlice 95 1 #[(0,.const g)]) 95 λg=>xV c g 95 95 95 λg=>f g)<|f c) λg=>xO .add 3 d (.int .i64 1) λd=>e g d)<|K c
theorem fy(a b:Value):Lk 27 #[a,b] (Pe a b):=lk [a,b] [(8,[5,6]),(15,[5])] func27
theorem ec:Ad prog 27:=bd func27
def PH(a b c:Value)(K:rD):rE:=xB 89 a λd=>Join1 (λe=>xO .lss 3 b (.int .i64 0) λf=>xW f (e (.bool true))<|xO .gtr 3 b (.int .i64 7) λf=>xW f (e (.bool true))<|xF 89 d 4 λf=>xL 3 f λf=>xO .geq 3 b f λf=>xW f (e (.bool true))<|xF 89 d 5 λf=>xI 87 f b λf=>xL 3 f λf=>xO .lss 3 f c λf=>e f) λf=>xW f (K c)<|xF 89 d 5 λf=>xI 87 f b λf=>xL 3 f λf=>K f
theorem Yy(a b c:Value):Lk 64 #[a,b,c] (PH a b c):=lk [a,b,c] [(4,[26])] func64
theorem Fb:Ad prog 64:=bd func64
def O0(a b:Value)(K:rD):rE:=xA 89 λc=>xO .eql 21 b (.int .i32 27) λd=>xW d (xH a λd=>xF 91 d 0 λd=>xS 3 d (.int .i64 1)<|xQ (.build 89 #[]) 89 λd=>xH a λe=>xF 91 e 1 λe=>xS 89 e d<|xH a λe=>xF 91 e 2 λe=>xS 4 e (.bool false)<|xQ (.build 89 #[]) 89 λe=>xS 89 c e<|xD 89 c λe=>K e)<|Join1 (λe=>xO .eql 21 b (.int .i32 24) λd=>xW d (e (.bool true))<|xO .eql 21 b (.int .i32 26) λd=>e d) λd=>xW d (xH a λd=>xF 91 d 0 λd=>xS 3 d (.int .i64 0)<|xQ (.build 89 #[]) 89 λd=>xS 89 c d<|xD 89 c λd=>K d)<|Join1 (λd=>xO .lss 21 b (.int .i32 0) λe=>xW e (d (.bool true))<|xO .gtr 21 b (.int .i32 1114111) λe=>xW e (d (.bool true))<|xO .geq 21 b (.int .i32 127) λe=>xW e (xO .leq 21 b (.int .i32 159) λe=>d e)<|d (.bool false)) λe=>xW e (xQ (.build 89 #[]) 89 λe=>xS 89 c e<|xD 89 c λe=>K e)<|xO .lss 21 b (.int .i32 32) λe=>xW e (xH a λe=>xF 91 e 0 λe=>xL 3 e λe=>xO .neq 3 e (.int .i64 4) λe=>xW e (xQ (.build 89 #[(0,.const (.int .i64 2)),(1,.const b)]) 89 λe=>xS 89 c e<|xD 89 c λe=>K e)<|Join0 (λe=>xO .eql 21 b (.int .i32 7) λd=>xW d (xH a λd=>xF 91 d 0 λd=>xS 3 d (.int .i64 0)<|e)<|e)<|xQ (.build 89 #[]) 89 λd=>xS 89 c d<|xD 89 c λd=>K d)<|Join0 (λd=>xH a λe=>xF 91 e 0 λe=>xL 3 e λe=>xO .eql 3 e (.int .i64 0) λf=>xW f (xQ (.build 89 #[(0,.const (.int .i64 1)),(1,.const b)]) 89 λf=>xS 89 c f<|xD 89 c λf=>K f)<|xO .eql 3 e (.int .i64 1) λf=>xW f (xC 135 [.const a,.const b] [53,21] 89 λf=>xS 89 c f<|xD 89 c λf=>K f)<|xO .eql 3 e (.int .i64 2) λf=>xW f (xC 136 [.const a,.const b] [53,21] 89 λf=>xS 89 c f<|xD 89 c λf=>K f)<|xO .eql 3 e (.int .i64 3) λf=>xW f (Join1 (λf=>xO .geq 21 b (.int .i32 64) λe=>xW e (xO .leq 21 b (.int .i32 126) λe=>f e)<|f (.bool false)) λe=>xW e (xH a λe=>xF 91 e 0 λe=>xS 3 e (.int .i64 0)<|d)<|d)<|d)<|xQ (.build 89 #[]) 89 λe=>xS 89 c e<|xD 89 c λe=>K e
theorem Un(a b:Value):Lk 69 #[a,b] (O0 a b):=lk [a,b] [(18,[23]),(28,[41]),(46,[]),(56,[]),(82,[83])] func69
theorem Xs:Ad prog 69:=bd func69
def Ni(a b:Value)(K:rD):rE:=xA 89 λc=>xO .leq 21 b (.int .i32 47) λd=>xW d (Join0 (λd=>xH a λe=>xF 91 e 1 λe=>xF 89 e 3 λe=>xL 5 e λe=>xO .eql 5 e (.int .u8 0) λe=>xW e (xQ (.convert 21 5 (.const b)) 5 λe=>xH a λf=>xF 91 f 1 λf=>xF 89 f 3 λf=>xS 5 f e<|d)<|xH a λf=>xF 91 f 1 λf=>xF 89 f 3 λf=>xS 5 f (.int .u8 255)<|d)<|xQ (.build 89 #[]) 89 λf=>xS 89 c f<|xD 89 c λf=>K f)<|Join1 (λf=>xH a λd=>xF 91 d 1 λd=>xF 89 d 3 λd=>xL 5 d λd=>xO .eql 5 d (.int .u8 0) λd=>xW d (xO .eql 21 b (.int .i32 91) λd=>f d)<|f (.bool false)) λd=>xW d (xH a λd=>xF 91 d 0 λd=>xS 3 d (.int .i64 2)<|xQ (.build 89 #[]) 89 λd=>xS 89 c d<|xD 89 c λd=>K d)<|Join1 (λd=>xH a λf=>xF 91 f 1 λf=>xF 89 f 3 λf=>xL 5 f λf=>xO .eql 5 f (.int .u8 0) λf=>xW f (xO .eql 21 b (.int .i32 80) λf=>xW f (d (.bool true))<|xO .eql 21 b (.int .i32 88) λf=>xW f (d (.bool true))<|xO .geq 21 b (.int .i32 93) λf=>xW f (xO .leq 21 b (.int .i32 95) λf=>d f)<|d (.bool false))<|d (.bool false)) λf=>xW f (xH a λf=>xF 91 f 0 λf=>xS 3 f (.int .i64 4)<|xQ (.build 89 #[]) 89 λf=>xS 89 c f<|xD 89 c λf=>K f)<|xH a λf=>xF 91 f 0 λf=>xS 3 f (.int .i64 0)<|Join1 (λf=>xO .gtr 21 b (.int .i32 126) λd=>xW d (f (.bool true))<|xH a λd=>xF 91 d 1 λd=>xF 89 d 3 λd=>xL 5 d λd=>xO .eql 5 d (.int .u8 255) λd=>f d) λd=>xW d (xQ (.build 89 #[]) 89 λd=>xS 89 c d<|xD 89 c λd=>K d)<|xH a λd=>xF 91 d 1 λd=>xF 89 d 3 λd=>xL 5 d λd=>xQ (.build 89 #[(0,.const (.int .i64 3)),(1,.const b),(3,.const d)]) 89 λd=>xS 89 c d<|xD 89 c λd=>K d
theorem Z8(a b:Value):Lk 135 #[a,b] (Ni a b):=lk [a,b] [(6,[]),(18,[33]),(28,[59]),(40,[76])] func135
theorem Ua:Ad prog 135:=bd func135
def Oh(a b:Value)(K:rD):rE:=xA 89 λc=>xH a λd=>xF 91 d 2 λd=>xL 4 d λd=>xH a λe=>xF 91 e 2 λe=>xS 4 e (.bool true)<|Join1 (λe=>xO .geq 21 b (.int .i32 48) λf=>xW f (xO .leq 21 b (.int .i32 57) λf=>xW f (xH a λf=>xF 91 f 1 λf=>xF 89 f 3 λf=>xL 5 f λf=>xO .eql 5 f (.int .u8 0) λf=>e f)<|e (.bool false))<|e (.bool false)) λf=>xW f (Join0 (λf=>xH a λe=>xF 91 e 1 λe=>xF 89 e 4 λe=>xL 3 e λe=>xO .eql 3 e (.int .i64 0) λe=>xW e (xH a λe=>xF 91 e 1 λe=>xF 89 e 4 λe=>xS 3 e (.int .i64 1)<|f)<|f)<|Join0 (λe=>xH a λf=>xF 91 f 1 λf=>xF 89 f 4 λf=>xL 3 f λf=>xO .leq 3 f (.int .i64 8) λf=>xW f (Ag<|xM a λf=>qF 91 f 1 λf=>qF 89 f 4 λf=>qL 3 f λf=>qP .sub 3 f (.int .i64 1) λf=>xM a λg=>qF 91 g 1 λg=>qF 89 g 5 λg=>xP (.indexAddr 87 (.const g) (.const f)) 0 λg=>qL 3 g λg=>qP .mul 3 g (.int .i64 10) λg=>qP .sub 21 b (.int .i32 48) λf=>xP (.convert 21 3 (.const f)) 3 λf=>qP .add 3 g f λf=>Join1 (λg=>xO .gtr 3 f (.int .i64 9999) λh=>xW h (g (.int .i64 9999))<|g f) λh=>Ag<|xM a λg=>qF 91 g 1 λg=>qF 89 g 4 λg=>qL 3 g λg=>qP .sub 3 g (.int .i64 1) λg=>xM a λf=>qF 91 f 1 λf=>qF 89 f 5 λf=>xP (.indexAddr 87 (.const f) (.const g)) 0 λf=>xS 3 f h<|e)<|e)<|xQ (.build 89 #[]) 89 λf=>xS 89 c f<|xD 89 c λf=>K f)<|Join1 (λf=>xO .eql 21 b (.int .i32 58) λh=>xW h (xH a λh=>xF 91 h 1 λh=>xF 89 h 3 λh=>xL 5 h λh=>xO .eql 5 h (.int .u8 0) λh=>f h)<|xO .eql 21 b (.int .i32 59) λh=>xW h (xH a λh=>xF 91 h 1 λh=>xF 89 h 3 λh=>xL 5 h λh=>xO .eql 5 h (.int .u8 0) λh=>f h)<|f (.bool false)) λh=>xW h (Join0 (λh=>xH a λf=>xF 91 f 1 λf=>xF 89 f 4 λf=>xL 3 f λf=>xO .eql 3 f (.int .i64 0) λf=>xW f (xH a λf=>xF 91 f 1 λf=>xF 89 f 4 λf=>xS 3 f (.int .i64 1)<|h)<|h)<|Join0 (λf=>xH a λh=>xF 91 h 1 λh=>xF 89 h 4 λh=>xL 3 h λh=>xO .leq 3 h (.int .i64 8) λh=>xW h (xH a λh=>xF 91 h 1 λh=>xF 89 h 4 λh=>xL 3 h λh=>xO .add 3 h (.int .i64 1) λh=>xH a λe=>xF 91 e 1 λe=>xF 89 e 4 λe=>xS 3 e h<|f)<|f)<|xQ (.build 89 #[]) 89 λe=>xS 89 c e<|xD 89 c λe=>K e)<|Join1 (λe=>xO .geq 21 b (.int .i32 60) λh=>xW h (xO .leq 21 b (.int .i32 63) λh=>xW h (xN 4 d λh=>e h)<|e (.bool false))<|e (.bool false)) λh=>xW h (xQ (.convert 21 5 (.const b)) 5 λh=>xH a λe=>xF 91 e 1 λe=>xF 89 e 2 λe=>xS 5 e h<|xQ (.build 89 #[]) 89 λe=>xS 89 c e<|xD 89 c λe=>K e)<|Join1 (λe=>xO .leq 21 b (.int .i32 47) λh=>xW h (xH a λh=>xF 91 h 1 λh=>xF 89 h 3 λh=>xL 5 h λh=>xO .eql 5 h (.int .u8 0) λh=>e h)<|e (.bool false)) λh=>xW h (xQ (.convert 21 5 (.const b)) 5 λh=>xH a λe=>xF 91 e 1 λe=>xF 89 e 3 λe=>xS 5 e h<|xQ (.build 89 #[]) 89 λe=>xS 89 c e<|xD 89 c λe=>K e)<|Join1 (λe=>xO .geq 21 b (.int .i32 64) λh=>xW h (xO .leq 21 b (.int .i32 126) λh=>e h)<|e (.bool false)) λh=>xW h (xH a λh=>xF 91 h 0 λh=>xS 3 h (.int .i64 0)<|xH a λh=>xF 91 h 1 λh=>xL 89 h λh=>xA 89 λe=>xS 89 e h<|xF 89 e 0 λh=>xS 3 h (.int .i64 4)<|xF 89 e 1 λh=>xS 21 h b<|Join0 (λh=>xF 89 e 4 λd=>xL 3 d λd=>xO .gtr 3 d (.int .i64 8) λd=>xW d (xF 89 e 4 λd=>xS 3 d (.int .i64 8)<|h)<|h)<|xL 89 e λd=>xS 89 c d<|xD 89 c λd=>K d)<|xH a λd=>xF 91 d 0 λd=>xS 3 d (.int .i64 3)<|xQ (.build 89 #[]) 89 λd=>xS 89 c d<|xD 89 c λd=>K d
theorem Zm(a b:Value):Lk 136 #[a,b] (Oh a b):=lk [a,b] [(8,[28]),(10,[]),(16,[]),(22,[6]),(36,[90]),(38,[]),(44,[]),(56,[126]),(66,[143]),(76,[156]),(86,[])] func136
theorem er:Ad prog 136:=bd func136
structure Pd where
 inn:Int
 A:Act'
 any:Bool
@[go_sem] def Pd.obj(P:Pd):Obj:=.cells #[.int .i64 P.inn,.int .i64 P.A.kind,.int .i32 P.A.r,.int .u8 P.A.priv,.int .u8 P.A.mid,.int .i64 P.A.n,.int .i64 P.A.n0,.int .i64 P.A.n1,.int .i64 P.A.n2,.int .i64 P.A.n3,.int .i64 P.A.n4,.int .i64 P.A.n5,.int .i64 P.A.n6,.int .i64 P.A.n7,.bool P.any] 91
def PE(P:Pd)(E:Esc):Prop:=
 (∃m,P=⟨1,{ noA with mid:=m },false⟩∧E=⟨1,0,m,0,C5⟩) ∨
 (E.inn=2∧P=⟨2,BQ 0 0 E.priv E.mid E.n E.nums,decide (E.priv≠0∨E.mid≠0∨E.n≠0)⟩) ∨
 (P.inn=E.inn∧(E.inn=0∨E.inn=3∨E.inn=4)∧E={ Esc.new with inn:=E.inn })
def JS(p:Nat)(q:Esc × Option Act')(w:World)(v:Value)(w':World):Prop:=∃a:Pd,w'.heap[p]?=some a.obj∧PE a q.1∧v=(q.2.getD noA).val∧Chg [p] w w'
theorem PE.new(i:Int)(a:i=0∨i=3∨i=4)(A:Act')(b:Bool):PE ⟨i,A,b⟩ { Esc.new with inn:=i }:=.inr (.inr ⟨rfl,a,rfl⟩)
theorem aj{w:World}{p:Nat}{P:Pd}{E:Esc}(hb:w.heap[p]?=some P.obj)(hE:PE P E)(h1:E.inn=1)(r:Int):Calls prog 135 #[.pointer (some ⟨p,0,none⟩),.int .i32 r] w (Ac (JS p (E.escape r) w)):=by
 obtain⟨m,rfl,rfl⟩:∃m,P=⟨1,{ noA with mid:=m },false⟩∧E=⟨1,0,m,0,C5⟩:=by
  rcases hE with h|⟨h,-⟩|⟨-,h,-⟩
  ·exact h
  ·omega
  ·omega
 have hl:=Aa hb;obtain⟨q,hq⟩:∃q,q=Esc.escape ⟨1,0,m,0,C5⟩ r:=⟨_,rfl⟩;rw[←hq];unfold Esc.escape at hq;dsimp only at hq;apply Z8;intro K hK;unfold Ni;have fin0:∀(w4:World) (P':Pd),w4.heap[p]?=some P'.obj→Chg [p] w w4→∀E',q=(E',none)→PE P' E'→K noA.val w4:=λw4 P' a b E' c d=>hK _ _ ⟨P',a,by rw[c];exact d,by rw[c];rfl,b⟩;refine sn ?_;refine sd (λc1=>?_) (λc1=>?_)
 ·refine Join0.inl ?_;refine sq hb ?_;refine sd (λc2=>?_) (λc2=>?_)
  ·rw[rG ⟨c1,c2⟩] at hq;refine sq hb ?_;refine fin0 _ ⟨1,{ noA with mid:=IntKind.u8.wrap r },false⟩ ?_ ?_ _ hq (.inl ⟨_,rfl,rfl⟩)
   ·exact so
    try rfl
   ·exact sy
  ·rw[rF (λh=>c2 h.2),rG c1] at hq;refine sq hb ?_;refine fin0 _ ⟨1,{ noA with mid:=255 },false⟩ ?_ ?_ _ hq (.inl ⟨_,rfl,rfl⟩)
   ·exact so
    try rfl
   ·exact sy
 rw[rF (λh=>c1 h.1),rF c1] at hq;refine sh (λv w'=>v=.bool (decide (r=91∧m=0))∧w'=w.alloc (.cells noA.cells.toArray 89)) ?_ ?_
 ·refine sq hb ?_;refine sd (λc2=>?_) (λc2=>?_)
  ·refine sn ?_;exact⟨sw ⟨λh=>⟨h,c2⟩,λh=>h.1⟩,rfl⟩
  ·exact⟨sv (λh=>c2 h.2),rfl⟩
 rintro v w1 ⟨rfl,rfl⟩;refine sd (λc2=>?_) (λc2=>?_)
 ·rw[rG c2] at hq;simp -dsimp (disch:=first|omega|(simp only[go_sem,seval];try omega))only[go_sem,seval,hb,noA];refine fin0 _ ⟨2,{ noA with mid:=m },false⟩ ?_ ?_ _ hq (.inr (.inl ⟨rfl,by rw[c2.2];rfl⟩))
  ·refine sn ?_
   try rfl
  ·exact sy
 rw[rF c2] at hq;refine sh (λv w'=>v=.bool (decide ((r=80∨r=88∨93≤r∧r≤95)∧m=0))∧w'=w.alloc (.cells noA.cells.toArray 89)) ?_ ?_
 ·refine sq hb ?_;refine sd (λc3=>?_) (λc3=>⟨sv (λh=>c3 h.2),rfl⟩);refine sn ?_;refine sd (λc4=>⟨su ⟨.inl c4,c3⟩,rfl⟩) (λc4=>?_);refine sn ?_;refine sd (λc5=>⟨su ⟨.inr (.inl c5),c3⟩,rfl⟩) (λc5=>?_);refine sn ?_;refine sd (λc6=>?_) (λc6=>⟨sv O,rfl⟩);refine sn ?_;exact sw ⟨λh=>⟨.inr (.inr ⟨c6,h⟩),c3⟩,λh=>O⟩
 rintro v w1 ⟨rfl,rfl⟩;refine sd (λc3=>?_) (λc3=>?_)
 ·rw[rG c3] at hq;simp -dsimp (disch:=first|omega|(simp only[go_sem,seval];try omega))only[go_sem,seval,hb,noA];refine fin0 _ ⟨4,{ noA with mid:=m },false⟩ ?_ ?_ _ hq (PE.new 4 O _ _)
  ·refine sn ?_
   try rfl
  ·exact sy
 rw[rF c3] at hq;simp -dsimp (disch:=first|omega|(simp only[go_sem,seval];try omega))only[go_sem,seval,hb,noA];refine Join1.inl ?_;refine sn ?_;refine sd (λc4=>?_) (λc4=>?_)
 ·rw[rF (λh=>O)] at hq;refine sn ?_;refine fin0 _ ⟨0,{ noA with mid:=m },false⟩ ?_ ?_ _ hq (PE.new 0 O _ _)
  ·refine sn ?_
   try rfl
  ·exact sy
 refine sq hb ?_;refine sd (λc5=>?_) (λc5=>?_)
 ·rw[rF (λh=>h.2 c5)] at hq;refine sn ?_;refine fin0 _ ⟨0,{ noA with mid:=m },false⟩ ?_ ?_ _ hq (PE.new 0 O _ _)
  ·refine sn ?_
   try rfl
  ·exact sy
 rw[rG ⟨O,c5⟩] at hq;refine sq hb ?_;refine hK _ _ ⟨⟨0,{ noA with mid:=m },false⟩,?_,by rw[hq];exact PE.new 0 O _ _,by rw[hq];rfl,?_⟩
 ·refine sn ?_
  try rfl
 ·exact sy
def CsJ(w:World)(p:Nat)(i:Int)(A:Act')(w':World):Prop:=w'.heap[p]?=some (Pd.mk i A true).obj∧w'.heap[w.heap.size]?=some (.cells noA.cells.toArray 89)∧Chg [p] w w'
theorem Z0{w:World}{p:Nat}{P:Pd}{E:Esc}(hb:w.heap[p]?=some P.obj)(hE:PE P E)(ok:E.ok)(h2:E.inn=2)(r:Int)(r0:32≤r)(r1:r≤2147483647):Calls prog 136 #[.pointer (some ⟨p,0,none⟩),.int .i32 r] w (Ac (JS p (E.control r) w)):=by
 have hP:P=⟨2,BQ 0 0 E.priv E.mid E.n E.nums,decide (E.priv≠0∨E.mid≠0∨E.n≠0)⟩:=by
  rcases hE with ⟨m,-,h⟩|⟨-,h⟩|⟨-,h,-⟩
  ·rw[h] at h2;exact absurd h2 (by show ¬(1:Int)=2;decide)
  ·exact h
  ·omega
 subst hP;obtain⟨inn,priv,mid,n,nums⟩:=E;have hlen:nums.length=8:=ok.len;have hnk:∀x∈nums,0≤x∧x≤9999:=ok.k;have hn0:0≤n:=ok.n0;have hn9:n≤9:=ok.n9;clear ok hE;dsimp only at h2;subst h2
 match nums,hlen with
 | [n0,n1,n2,n3,n4,n5,n6,n7],_ =>
 have k0:=hnk n0 Z;have k1:=hnk n1 Z;have k2:=hnk n2 Z;have k3:=hnk n3 Z;have k4:=hnk n4 Z;have k5:=hnk n5 Z;have k6:=hnk n6 Z;have k7:=hnk n7 Z;clear hnk;have hl:=Aa hb;obtain⟨q,hq⟩:∃q,q=Esc.control ⟨2,priv,mid,n,[n0,n1,n2,n3,n4,n5,n6,n7]⟩ r:=⟨_,rfl⟩;rw[←hq];unfold Esc.control at hq;dsimp only at hq;apply Zm;intro K hK;unfold Oh;have fin0:∀(w4:World) (P':Pd),w4.heap[p]?=some P'.obj→Chg [p] w w4→∀E',q=(E',none)→PE P' E'→K noA.val w4:=λw4 P' a b E' c d=>hK _ _ ⟨P',a,by rw[c];exact d,by rw[c];rfl,b⟩;obtain⟨A,hA⟩:∃A:Act',A=⟨0,0,priv,mid,n,n0,n1,n2,n3,n4,n5,n6,n7⟩:=⟨_,rfl⟩;obtain⟨any,hany⟩:∃any:Bool,any=decide (priv≠0∨mid≠0∨n≠0):=⟨_,rfl⟩;have hb0:w.heap[p]?=some (Pd.mk 2 ⟨0,0,priv,mid,n,n0,n1,n2,n3,n4,n5,n6,n7⟩ any).obj:=by rw[hany];exact hb
 clear hb;refine sq hb0 ?_;obtain⟨w1,hw1⟩:∃w1,w1=(Ab w p (Pd.mk 2 A true).obj).alloc (.cells noA.cells.toArray 89):=⟨_,rfl⟩;have hI:CsJ w p 2 A w1:=by
  refine⟨?_,?_,?_⟩
  ·rw[hw1];exact so
  ·rw[hw1];simp -dsimp (disch:=first|omega|(simp only[go_sem,seval];try omega))only[go_sem,seval,noA]
  ·rw[hw1];exact sy
 rw[hA] at hw1;simp only[Pd.obj,noA,Act'.cells] at hw1;rw[←hw1];clear hw1;have hne:p≠w.heap.size:=O;have fz:∀(w4:World) (i:Int) (A:Act'),CsJ w p i A w4→(∀E',q=(E',none)→PE ⟨i,A,true⟩ E')→q.2=none→OpX prog (.build 89 #[]) 89 (λt76=>xS 89 (.pointer (some ⟨w.heap.size,0,none⟩)) t76 (xD 89 (.pointer (some ⟨w.heap.size,0,none⟩)) λt9_1=>K t9_1)) w4:=by
  rintro w4 i A ⟨h1,h3,h4⟩ hpe hnone;have hl4:=Aa h3;simp -dsimp (disch:=first|omega|(simp only[go_sem,seval];try omega))only[go_sem,seval,h3,noA];obtain⟨q1,q2⟩:=q;dsimp only at hnone;subst hnone;refine fin0 _ ⟨i,A,true⟩ ?_ (h4.set _ _ (.inr (rH _))) q1 rfl (hpe _ rfl);refine sn ?_;exact h1
 have hI0:=hI;obtain⟨hb1,ho1,hc1⟩:=hI0;have hl1:=Aa hb1;have hlo1:=Aa ho1;have step:∀(i:Int) (B:Act') (w4:World),w4=Ab w1 p (Pd.mk i B true).obj→CsJ w p i B w4:=by
  rintro i B w4 rfl;refine⟨?_,?_,hc1.set _ _ (.inl Z)⟩
  ·exact so
  ·exact LC1 ho1
 subst hA;refine sh (λv w'=>v=.bool (decide (48≤r∧r≤57∧mid=0))∧w'=w1) ?_ ?_
 ·refine sn ?_;refine sd (λg=>?_) (λg=>⟨sv O,rfl⟩);refine sn ?_;refine sd (λg'=>?_) (λg'=>⟨sv O,rfl⟩);refine sq hb1 ?_;exact sw ⟨λh=>⟨g,g',h⟩,λh=>h.2.2⟩
 rintro v w2 ⟨rfl,rfl⟩;refine sd (λg1=>?_) (λg1=>?_)
 ·rw[rG g1] at hq;obtain⟨N,hN⟩:∃N,N=max n 1:=⟨_,rfl⟩;rw[←hN] at hq;refine si (CsJ w p 2 ⟨0,0,priv,mid,N,n0,n1,n2,n3,n4,n5,n6,n7⟩) ?_ ?_
  ·refine sq hb1 ?_;refine sd (λd1=>?_) (λd1=>?_)
   ·refine sq hb1 ?_;refine step _ _ _ ?_;rw[show N=1 by omega];rfl
   ·rw[show N=n by omega];exact hI
  rintro w3 ⟨hb2,ho2,hc2⟩;have hl2:=Aa hb2;have hlo2:=Aa ho2;refine si (λw'=>∃B:Act',CsJ w p 2 B w'∧(∀E',q=(E',none)→PE ⟨2,B,true⟩ E')) ?_ ?_
  ·refine sq hb2 ?_;refine sd (λd1=>?_) (λd1=>?_)
   ·rw[rG d1] at hq;obtain⟨m,hm⟩:∃m,m=([n0,n1,n2,n3,n4,n5,n6,n7]:List Int).getD (N-1).toNat 0:=⟨_,rfl⟩;rw[←hm] at hq;obtain⟨B,hB⟩:∃B:Act',B=BQ 0 0 priv mid N (([n0,n1,n2,n3,n4,n5,n6,n7]:List Int).set (N-1).toNat (min (m*10+(r-48)) 9999)):=⟨_,rfl⟩;have hn:N=1∨N=2∨N=3∨N=4∨N=5∨N=6∨N=7∨N=8:=O;clear hN;rcases hn with rfl|rfl|rfl|rfl|rfl|rfl|rfl|rfl
    all_goals
     simp at hm;subst hm;refine sq hb2 ?_;rw[F3 _ O O];refine sh (λv w'=>v=.int .i64 (min (m*10+(r-48)) 9999)∧w'=w3.drew) ?_ ?_
     ·refine sn ?_;refine sd (λd2=>⟨by congr 1;omega,rfl⟩) (λd2=>⟨by congr 1;omega,rfl⟩)
     rintro v w4 ⟨rfl,rfl⟩;refine sq hb2 ?_;refine⟨B,⟨?_,?_,?_⟩,?_⟩
     rotate_left 3
     ·intro E' hE';rw[hq] at hE';cases hE';refine .inr (.inl ⟨rfl,?_⟩);rw[decide_eq_true (.inr (.inr (by dsimp only;omega))),hB]
     ·rw[hB];refine sn ?_
      try rfl
     ·exact LC1 ho2
     ·exact((hc2.drew.set _ _ (.inl Z))).drew
   ·rw[rF d1] at hq;refine⟨_,⟨hb2,ho2,hc2⟩,λE' hE'=>?_⟩;rw[hq] at hE';cases hE';refine .inr (.inl ⟨rfl,?_⟩);rw[decide_eq_true (.inr (.inr (by dsimp only;omega)))];rfl
  ·rintro w4 ⟨B,hB,hBE⟩;exact fz _ _ _ hB hBE (by rw[hq])
 rw[rF g1] at hq;refine sh (λv w'=>v=.bool (decide ((r=58∨r=59)∧mid=0))∧w'=w2) ?_ ?_
 ·refine sn ?_;refine sd (λg=>?_) (λg=>?_)
  ·refine sq hb1 ?_;exact sw ⟨λh=>⟨.inl g,h⟩,λh=>h.2⟩
  refine sn ?_;refine sd (λg'=>?_) (λg'=>⟨sv O,rfl⟩);refine sq hb1 ?_;exact sw ⟨λh=>⟨.inr g',h⟩,λh=>h.2⟩
 rintro v w3 ⟨rfl,rfl⟩;refine sd (λg2=>?_) (λg2=>?_)
 ·rw[rG g2] at hq;obtain⟨N,hN⟩:∃N,N=max n 1:=⟨_,rfl⟩;rw[←hN] at hq;refine si (CsJ w p 2 ⟨0,0,priv,mid,N,n0,n1,n2,n3,n4,n5,n6,n7⟩) ?_ ?_
  ·refine sq hb1 ?_;refine sd (λd1=>?_) (λd1=>?_)
   ·refine sq hb1 ?_;refine step _ _ _ ?_;rw[show N=1 by omega];rfl
   ·rw[show N=n by omega];exact hI
  rintro w4 ⟨hb2,ho2,hc2⟩;have hl2:=Aa hb2;have hlo2:=Aa ho2;refine si (CsJ w p 2 ⟨0,0,priv,mid,min (N+1) 9,n0,n1,n2,n3,n4,n5,n6,n7⟩) ?_ ?_
  ·refine sq hb2 ?_;refine sd (λd1=>?_) (λd1=>?_)
   ·refine sq hb2 ?_;rw[show min (N+1) 9=N+1 by omega];refine⟨?_,?_,hc2.set _ _ (.inl Z)⟩
    ·exact so
    ·exact LC1 ho2
   ·rw[show min (N+1) 9=N by omega];exact⟨hb2,ho2,hc2⟩
  ·rintro w5 hB;refine fz _ _ _ hB (λE' hE'=>?_) (by rw[hq]);rw[hq] at hE';cases hE';refine .inr (.inl ⟨rfl,?_⟩);rw[decide_eq_true (.inr (.inr (by dsimp only;omega)))];rfl
 rw[rF g2] at hq;refine sh (λv w'=>v=.bool (decide (60≤r∧r≤63∧priv=0∧mid=0∧n=0))∧w'=w3) ?_ ?_
 ·have fa:¬(60≤r∧r≤63∧priv=0∧mid=0∧n=0)→Value.bool false=Value.bool (decide (60≤r∧r≤63∧priv=0∧mid=0∧n=0))∧w3=w3:=λh=>⟨sv h,rfl⟩;refine sn ?_;refine sd (λa1=>?_) (λa1=>fa O);refine sn ?_;refine sd (λa2=>?_) (λa2=>fa O);refine sn ?_;refine congrArg Value.bool ?_;rw[hany];by_cases g:priv=0∧mid=0∧n=0
  ·rw[decide_eq_true (show 60≤r∧r≤63∧priv=0∧mid=0∧n=0 from⟨a1,a2,g⟩),decide_eq_false O];rfl
  ·rw[decide_eq_false (λh:60≤r∧r≤63∧priv=0∧mid=0∧n=0=>g h.2.2),decide_eq_true O];rfl
 rintro v w4 ⟨rfl,rfl⟩;refine sd (λg3=>?_) (λg3=>?_)
 ·rw[rG g3] at hq;simp -dsimp (disch:=first|omega|(simp only[go_sem,seval];try omega))only[go_sem,seval,hb1,ho1,noA];refine fin0 _ ⟨2,⟨0,0,IntKind.u8.wrap r,mid,n,n0,n1,n2,n3,n4,n5,n6,n7⟩,true⟩ ?_ ((hc1.set p _ (.inl Z)).set w.heap.size _ (.inr (rH _))) _ hq (.inr (.inl ⟨rfl,?_⟩))
  ·exact so
  ·rw[decide_eq_true (.inl (by dsimp only;rw[Eu _ O O];omega))];rfl
 rw[rF g3] at hq;refine sh (λv w'=>v=.bool (decide (r≤47∧mid=0))∧w'=w4) ?_ ?_
 ·refine sn ?_;refine sd (λg=>?_) (λg=>⟨sv O,rfl⟩);refine sq hb1 ?_;exact sw ⟨λh=>⟨g,h⟩,λh=>h.2⟩
 rintro v w5 ⟨rfl,rfl⟩;refine sd (λg4=>?_) (λg4=>?_)
 ·rw[rG g4] at hq;simp -dsimp (disch:=first|omega|(simp only[go_sem,seval];try omega))only[go_sem,seval,hb1,ho1,noA];refine fin0 _ ⟨2,⟨0,0,priv,IntKind.u8.wrap r,n,n0,n1,n2,n3,n4,n5,n6,n7⟩,true⟩ ?_ ((hc1.set p _ (.inl Z)).set w.heap.size _ (.inr (rH _))) _ hq (.inr (.inl ⟨rfl,?_⟩))
  ·exact so
  ·rw[decide_eq_true (.inr (.inl (by dsimp only;rw[Eu _ O O];omega)))];rfl
 rw[rF g4] at hq;refine sh (λv w'=>v=.bool (decide (64≤r∧r≤126))∧w'=w5) ?_ ?_
 ·refine sn ?_;refine sd (λg=>?_) (λg=>⟨sv O,rfl⟩);refine sn ?_;exact sw ⟨λh=>⟨g,h⟩,λh=>h.2⟩
 rintro v w6 ⟨rfl,rfl⟩;refine sd (λg5=>?_) (λg5=>?_)
 ·rw[rG g5] at hq;simp -dsimp (disch:=first|omega|(simp only[go_sem,seval];try omega))only[go_sem,seval,hb1,ho1,noA];have hz:(Ab w6 p (.cells #[.int .i64 0,.int .i64 0,.int .i32 0,.int .u8 priv,.int .u8 mid,.int .i64 n,.int .i64 n0,.int .i64 n1,.int .i64 n2,.int .i64 n3,.int .i64 n4,.int .i64 n5,.int .i64 n6,.int .i64 n7,.bool true] 91)).heap.size=w6.heap.size:=by exact so
  rw[hz];obtain⟨A,hA⟩:∃A:Act',A=⟨0,0,priv,mid,n,n0,n1,n2,n3,n4,n5,n6,n7⟩:=⟨_,rfl⟩;obtain⟨w7,hw7⟩:∃w7,w7=(Ab w6 p (Pd.mk 0 A true).obj).alloc (.cells (⟨4,r,priv,mid,n,n0,n1,n2,n3,n4,n5,n6,n7⟩:Act').cells.toArray 89):=⟨_,rfl⟩;have hb2:w7.heap[p]?=some (Pd.mk 0 A true).obj:=by rw[hw7];exact so
  have ho2:w7.heap[w.heap.size]?=some (.cells noA.cells.toArray 89):=by rw[hw7];simp -dsimp (disch:=first|omega|(simp only[go_sem,seval];try omega))only[go_sem,seval,ho1,noA]
  have hx2:w7.heap[w6.heap.size]?=some (.cells (⟨4,r,priv,mid,n,n0,n1,n2,n3,n4,n5,n6,n7⟩:Act').cells.toArray 89):=by rw[hw7];exact so
  have hc2:Chg [p] w w7:=by rw[hw7];exact(hc1.set p _ (.inl Z)).alloc _
  rw[hA] at hw7;simp only[Pd.obj,Act'.cells] at hw7;rw[←hw7];clear hw7 hz;have hlx:=Aa hx2;have hz1:=hc1.size;refine si (λw'=>w'.heap[p]?=some (Pd.mk 0 A true).obj∧w'.heap[w.heap.size]?=some (.cells noA.cells.toArray 89)∧w'.heap[w6.heap.size]?=some (.cells (⟨4,r,priv,mid,min n 8,n0,n1,n2,n3,n4,n5,n6,n7⟩:Act').cells.toArray 89)∧Chg [p] w w') ?_ ?_
  ·refine sq hx2 ?_;refine sd (λd1=>?_) (λd1=>?_)
   ·refine sq hx2 ?_;rw[show min n 8=8 by omega];refine⟨?_,?_,?_,hc2.set _ _ (.inr O)⟩
    ·exact LC1 hb2
    ·simp -dsimp (disch:=first|omega|(simp only[go_sem,seval];try omega))only[go_sem,seval,ho2,noA]
    ·exact so
   ·rw[show min n 8=n by omega];exact⟨hb2,ho2,hx2,hc2⟩
  ·rintro w8 ⟨hb3,ho3,hx3,hc3⟩;have hl3:=Aa ho3;have hl4:=Aa hx3;have hl5:=Aa hb3;simp -dsimp (disch:=first|omega|(simp only[go_sem,seval];try omega))only[go_sem,seval,hx3,ho3,noA];refine hK _ _ ⟨⟨0,A,true⟩,?_,by rw[hq];exact PE.new 0 O _ _,by rw[hq];rfl,hc3.set w.heap.size _ (.inr (rH _))⟩;exact LC1 hb3
 ·rw[rF g5] at hq;simp -dsimp (disch:=first|omega|(simp only[go_sem,seval];try omega))only[go_sem,seval,hb1,ho1,noA];refine fin0 _ ⟨3,⟨0,0,priv,mid,n,n0,n1,n2,n3,n4,n5,n6,n7⟩,true⟩ ?_ ((hc1.set p _ (.inl Z)).set w.heap.size _ (.inr (rH _))) _ hq (PE.new 3 O _ _);exact so
theorem bz{w:World}{p:Nat}{P:Pd}{E:Esc}(hb:w.heap[p]?=some P.obj)(hE:PE P E)(ok:E.ok)(r:Int)(hr:Bf r):Calls prog 69 #[.pointer (some ⟨p,0,none⟩),.int .i32 r] w (Ac (JS p (E.step r) w)):=by
 have hl:=Aa hb;obtain⟨r0,r1⟩:=hr;have hin:P.inn=E.inn∧(E.inn=0∨E.inn=1∨E.inn=2∨E.inn=3∨E.inn=4):=by
  rcases hE with ⟨m,rfl,rfl⟩|⟨h,rfl⟩|⟨h,h',-⟩
  ·exact⟨rfl,Z⟩
  ·exact⟨h.symm,O⟩
  ·exact⟨h,O⟩
 obtain⟨hin,hin5⟩:=hin;obtain⟨q,hq⟩:∃q,q=E.step r:=⟨_,rfl⟩;rw[←hq];unfold Esc.step at hq;apply Un;intro K hK;unfold O0;have fin0:∀(w4:World) (P':Pd),w4.heap[p]?=some P'.obj→Chg [p] w w4→∀E',q=(E',none)→PE P' E'→K noA.val w4:=λw4 P' a b E' c d=>hK _ _ ⟨P',a,by rw[c];exact d,by rw[c];rfl,b⟩;refine sq hb ?_;refine sd (λc1=>?_) (λc1=>?_)
 ·rw[rG c1] at hq;refine sq hb ?_;refine fin0 _ ⟨1,noA,false⟩ ?_ ?_ _ hq (.inl ⟨0,rfl,rfl⟩)
  ·simp -dsimp (disch:=first|omega|(simp only[go_sem,seval];try omega))only[go_sem,seval,noA]
  ·exact sy
 rw[rF c1] at hq;obtain⟨w1,hw1⟩:∃w1,w1=w.alloc (.cells noA.cells.toArray 89):=⟨_,rfl⟩;have hb1:w1.heap[p]?=some P.obj:=by rw[hw1];exact LC1 hb
 have ho1:w1.heap[w.heap.size]?=some (.cells noA.cells.toArray 89):=by rw[hw1];exact so
 have hc1:Chg [p] w w1:=by rw[hw1];exact sy
 simp only[noA,Act'.cells] at hw1;rw[←hw1];clear hw1;have hl1:=Aa hb1;have hlo:=Aa ho1;refine sh (λv w'=>v=.bool (decide (r=24∨r=26))∧w'=w1) ?_ ?_
 ·refine sn ?_;refine sd (λg=>⟨su O,rfl⟩) (λg=>?_);refine sn ?_;exact sw ⟨λh=>.inr h,λh=>O⟩
 rintro v w2 ⟨rfl,rfl⟩;refine sd (λc2=>?_) (λc2=>?_)
 ·rw[rG c2] at hq;simp -dsimp (disch:=first|omega|(simp only[go_sem,seval];try omega))only[go_sem,seval,hb1,ho1,noA];refine fin0 _ ⟨0,P.A,P.any⟩ ?_ ((hc1.set p _ (.inl Z)).set w.heap.size _ (.inr (rH _))) _ hq (PE.new 0 O _ _);exact so
 rw[rF c2] at hq;refine sh (λv w'=>v=.bool (decide (r<0∨127≤r∧r≤159∨1114111<r))∧w'=w2) ?_ ?_
 ·have tr:(r<0∨127≤r∧r≤159∨1114111<r)→Value.bool true=Value.bool (decide (r<0∨127≤r∧r≤159∨1114111<r))∧w2=w2:=λh=>⟨su h,rfl⟩;refine sn ?_;refine sd (λa1=>tr O) (λa1=>?_);refine sn ?_;refine sd (λa2=>tr O) (λa2=>?_);refine sn ?_;refine sd (λa3=>?_) (λa3=>⟨sv O,rfl⟩);refine sn ?_;exact sw ⟨λh=>O,λh=>O⟩
 rintro v w3 ⟨rfl,rfl⟩;refine sd (λc3=>?_) (λc3=>?_)
 ·rw[rG c3] at hq;simp -dsimp (disch:=first|omega|(simp only[go_sem,seval];try omega))only[go_sem,seval,hb1,ho1,noA];refine fin0 _ P ?_ (hc1.set w.heap.size _ (.inr (rH _))) _ hq hE;exact LC1 hb1
 rw[rF c3] at hq;refine sn ?_;refine sd (λc4=>?_) (λc4=>?_)
 ·refine sq hb1 ?_;refine sd (λc5=>?_) (λc5=>?_)
  ·rw[rF (λh=>O),rG c4] at hq;simp -dsimp (disch:=first|omega|(simp only[go_sem,seval];try omega))only[go_sem,seval,ho1,noA];refine hK _ _ ⟨P,?_,by rw[hq];exact hE,by rw[hq];rfl,hc1.set w.heap.size _ (.inr (rH _))⟩;exact LC1 hb1
  ·rw[rG ⟨c4,O⟩] at hq;refine Join0.inl ?_;refine sn ?_;refine sd (λc6=>?_) (λc6=>?_)
   ·rw[rG c6] at hq;simp -dsimp (disch:=first|omega|(simp only[go_sem,seval];try omega))only[go_sem,seval,hb1,ho1,noA];refine fin0 _ ⟨0,P.A,P.any⟩ ?_ ((hc1.set p _ (.inl Z)).set w.heap.size _ (.inr (rH _))) _ hq (PE.new 0 O _ _);exact so
   ·rw[rF c6] at hq;simp -dsimp (disch:=first|omega|(simp only[go_sem,seval];try omega))only[go_sem,seval,hb1,ho1,noA];refine fin0 _ P ?_ (hc1.set w.heap.size _ (.inr (rH _))) _ hq hE;exact LC1 hb1
 rw[rF (λh=>c4 h.1),rF c4] at hq;refine si (λw'=>w'.heap[w.heap.size]?=some (.cells noA.cells.toArray 89)∧Chg [p] w w'∧∃P':Pd,w'.heap[p]?=some P'.obj∧PE P' q.1∧q.2=none) ?_ ?_
 ·refine sq hb1 ?_;refine sd (λc5=>?_) (λc5=>?_)
  ·rw[rG O] at hq;simp -dsimp (disch:=first|omega|(simp only[go_sem,seval];try omega))only[go_sem,seval,ho1,noA];refine hK _ _ ⟨P,?_,by rw[hq];exact hE,by rw[hq];rfl,hc1.set w.heap.size _ (.inr (rH _))⟩;exact LC1 hb1
  rw[rF O] at hq;refine sn ?_;refine sd (λc6=>?_) (λc6=>?_)
  ·rw[rG O] at hq;refine sn ?_;refine td Ua rfl (aj hb1 hE O r) ?_;rintro v w2 ⟨P',h1,h2,rfl,h5⟩;have ho2:=h5.keep ho1 (by simp;omega);have hlo2:=Aa ho2;have hlp2:=Aa h1;simp -dsimp (disch:=first|omega|(simp only[go_sem,seval];try omega))only[go_sem,seval,ho2,noA];refine hK _ _ ⟨P',?_,by rw[hq];exact h2,by rw[hq];rfl,(hc1.trans h5 (λx hx=>.inl hx)).set w.heap.size _ (.inr (rH _))⟩;exact LC1 h1
  rw[rF O] at hq;refine sn ?_;refine sd (λc7=>?_) (λc7=>?_)
  ·rw[rG O] at hq;refine sn ?_;refine td er rfl (Z0 hb1 hE ok O r O r1) ?_;rintro v w2 ⟨P',h1,h2,rfl,h5⟩;have ho2:=h5.keep ho1 (by simp;omega);have hlo2:=Aa ho2;have hlp2:=Aa h1;simp -dsimp (disch:=first|omega|(simp only[go_sem,seval];try omega))only[go_sem,seval,ho2,noA];refine hK _ _ ⟨P',?_,by rw[hq];exact h2,by rw[hq];rfl,(hc1.trans h5 (λx hx=>.inl hx)).set w.heap.size _ (.inr (rH _))⟩;exact LC1 h1
  rw[rF O] at hq;refine sn ?_;refine sd (λc8=>?_) (λc8=>?_)
  ·rw[rG O] at hq;refine sh (λv w'=>v=.bool (decide (64≤r∧r≤126))∧w'=w3) ?_ ?_
   ·refine sn ?_;refine sd (λg=>?_) (λg=>⟨sv O,rfl⟩);refine sn ?_;exact sw ⟨λh=>⟨g,h⟩,λh=>h.2⟩
   rintro v w4 ⟨rfl,rfl⟩;refine sd (λg2=>?_) (λg2=>?_)
   ·rw[rG g2] at hq;refine sq hb1 ?_;refine⟨?_,hc1.set p _ (.inl Z),⟨0,P.A,P.any⟩,?_,by rw[hq];exact PE.new 0 O _ _,by rw[hq]⟩
    ·exact LC1 ho1
    ·exact so
   ·rw[rF g2] at hq;exact⟨ho1,hc1,P,hb1,by rw[hq];exact hE,by rw[hq]⟩
  ·rw[rF O] at hq;exact⟨ho1,hc1,P,hb1,by rw[hq];exact hE,by rw[hq]⟩
 ·rintro w2 ⟨ho2,hc2,P',hb2,hpe,hnone⟩;have hlo2:=Aa ho2;have hlp2:=Aa hb2;simp -dsimp (disch:=first|omega|(simp only[go_sem,seval];try omega))only[go_sem,seval,ho2,noA];refine hK _ _ ⟨P',?_,hpe,by rw[hnone];rfl,hc2.set w.heap.size _ (.inr (rH _))⟩;exact LC1 hb2
theorem Wq(E:Esc)(r:Int):((E.step r).2.getD noA).kind=0↔(E.step r).2=none:=by
 have b:∀o:Option Act',(∀a∈o,a.kind≠0)→((o.getD noA).kind=0↔o=none):=λo h=>by
  cases o with
  | none=>exact⟨λ_=>rfl,λ_=>rfl⟩
  | some a=>exact⟨λe=>absurd e (h a rfl),λe=>by cases e⟩
 have c:∀a∈(E.escape r).2.toList,a.kind≠0:=by
  unfold Esc.escape
  repeat' split
  all_goals simp [BQ]
 have d:∀a∈(E.control r).2.toList,a.kind≠0:=by
  unfold Esc.control
  repeat' split
  all_goals simp [BQ]
 have f:∀a∈(E.step r).2.toList,a.kind≠0:=by
  unfold Esc.step
  repeat' split
  all_goals first|exact c|exact d|simp [BQ]
 exact b _ λa g=>f a (by simpa using g)
theorem gz(E:Esc)(l:List Int)(r:Int):E.feed (l++[r])=(((E.feed l).1.step r).1,(E.feed l).2++((E.feed l).1.step r).2.toList):=by
 rw[Esc.feed_append];simp [Esc.feed]
theorem dY{w:World}{p:Nat}{P:Pd}{E:Esc}(hb:w.heap[p]?=some P.obj)(hE:PE P E)(ok:E.ok){e:Option TypeId}{a:Option Addr}{l:List Int}(hs:Sx w e Cx a l)(hp:∀b o,a=some ⟨b,o,none⟩→l≠[]→b≠p)(cap:Nat)(hl:l.length≤1000000)(hr:∀x∈l,Bf x):
  Calls prog 27 #[.pointer (some ⟨p,0,none⟩),.slice a l.length cap] w
  (Ac λv w'=>∃P':Pd,Ox w.heap.size w' 89 13 Act'.cells v (E.feed l).2∧w'.heap[p]?=some P'.obj∧PE P' (E.feed l).1∧Chg [p] w w'):=by
 have hlp:=Aa hb;have fok:∀k,(E.feed (l.take k)).1.ok∧(E.feed (l.take k)).2.length≤k:=λk=>by
  obtain⟨h1,-,h2⟩:=Esc.feed_ok ok (l:=l.take k) λr hr'=>hr r (List.mem_of_mem_take hr');rw[List.length_take] at h2;exact⟨h1,O⟩
 apply fy;intro K hK;unfold Pe;refine Loop2.st (λs:Nat × Value × Pd=>s.2.1) (λs=>.int .i64 s.1) (λs w'=>s.1≤l.length∧Ox w.heap.size w' 89 13 Act'.cells s.2.1 (E.feed (l.take s.1)).2∧w'.heap[p]?=some (Pd.obj s.2.2)∧PE s.2.2 (E.feed (l.take s.1)).1∧Chg [p] w w') (λs=>l.length-s.1) (0,.slice none 0 0,P) rfl rfl ⟨Nat.zero_le _,Ox.nil _ _ _ _ _,hb,hE,sg _ _⟩ ?_;rintro next ⟨k,v,Q⟩ w' hn ⟨hk,ho,hb',hE',hc⟩
 dsimp only at hk ho hb' hE' ⊢;refine sn ?_;refine sd (λh1=>?_) (λh1=>?_)
 ·have hk':k<l.length:=O;obtain⟨b,o,rfl,hbl,hcell⟩:=(hs.chg hc (λb o ha hne=>by simp;exact hp b o ha hne)).get1 (g:=λn=>.int .i32 n) (λ_=>rfl) (rI hk');have hrr:=hr _ (rR hk');obtain⟨f1,f2⟩:=fok k;have fs:=gz E (l.take k) l[k];rw[←Cd hk'] at fs;have hkind:=Wq (E.feed (l.take k)).1 l[k];obtain⟨q,hq⟩:∃q,q=(E.feed (l.take k)).1.step l[k]:=⟨_,rfl⟩;rw[←hq] at fs hkind;refine sh (λu w2=>∃Q2:Pd,Ox w.heap.size w2 89 13 Act'.cells u (E.feed (l.take (k+1))).2∧w2.heap[p]?=some Q2.obj∧PE Q2 (E.feed (l.take (k+1))).1∧Chg [p] w w2) ?_ ?_
  ·refine sq hcell ?_;refine td Xs rfl (bz hb' hE' f1 l[k] hrr) ?_;rw[←hq];rintro v1 w1 ⟨Q2,hb1,hE1,rfl,hc1⟩;have ho1:=ho.low hc1 (by simp;omega);have hc01:=hc.trans hc1 (λx hx=>.inl hx);have hz:=hc01.size;obtain⟨A,hA⟩:∃A,A=q.2.getD noA:=⟨_,rfl⟩;rw[←hA] at hkind ⊢
   (try refine sn ?_)
   obtain⟨w2,hw2⟩:∃w2,w2=w1.alloc (.cells A.cells.toArray 89):=⟨_,rfl⟩;have hc2:Chg [] w1 w2:=by rw[hw2];exact Ar _ _
   have hA2:w2.heap[w1.heap.size]?=some (.cells A.cells.toArray 89):=by rw[hw2];exact so
   simp only[Act'.cells] at hw2;rw[←hw2];clear hw2;have hb2:=hc2.keep hb1 Z;have ho2:=ho1.chg0 hc2;have hz2:=hc2.size;rw[fs];refine sd (λh2=>?_) (λh2=>?_)
   ·have hsome:q.2.toList=[A]:=by
     cases hq2:q.2 with
     | none=>exact absurd (hkind.2 hq2) h2
     | some x=>rw[hA,hq2];rfl
    rw[hsome];refine sq hA2 ?_;refine Bd (l2:=[A]) Ln Act'.len Act'.ok (ho2.chg0 (Ar _ _)) (Sx.built (c:=A.cells) (by refine sn ?_;rfl) Z) rfl (by simp;omega) O (by refine sn ?_;omega) ?_;intro v' w3 ho3 hc3 _;have hca:Chg v.ownBlock.toList w2 w3:=((sg _ w2).alloc _).trans hc3 (λx hx=>.inl hx);have hlow:=ho2.own_ge;exact⟨Q2,ho3,hca.keep hb2 (λhm=>by have:=hlow _ hm;omega),hE1,Ff ho2 (rH _) (hc01.trans0 hc2) hca⟩
   ·have hnone:q.2=none:=hkind.1 (by simpa using h2);rw[hnone,Option.toList_none,List.append_nil];exact⟨Q2,ho2,hb2,hE1,hc01.trans0 hc2⟩
  ·rintro u w2 ⟨Q2,ho2,hb2,hE2,hc2⟩;have e1:(k:Int)+1=((k+1:Nat):Int):=O
   (try refine sq e1 ?_)
   exact hn (k+1,u,Q2) _ ⟨by dsimp only;omega,ho2,hb2,hE2,hc2⟩ (by dsimp only;omega)
 ·have:k=l.length:=O;subst this;rw[List.take_length] at ho hE';exact hK _ _ ⟨Q,ho,hb',hE',hc⟩
theorem DU{k:IntKind}{t:TypeId}{n lo hi:Int}{F:Value→World→Prop}{w:World}(h:F (.bool (decide (lo≤n∧n≤hi))) w):Join1 (λk1=>xO .geq t (.int k n) (.int k lo) λa=>xW a (xO .leq t (.int k n) (.int k hi) λb=>k1 b) (k1 (.bool false))) F w:=by
 refine Join1.inl ?_;refine sn ?_;refine sd (λg=>?_) (λg=>?_)
 ·refine sn ?_;rw[show decide (n≤hi)=decide (lo≤n∧n≤hi) from decide_eq_decide.2 ⟨λh=>⟨g,h⟩,λh=>h.2⟩];exact h
 ·rw[decide_eq_false (λh=>g h.1)] at h;exact h
end Go.Proofs.YtnpkidnbhlepkaaGreat
namespace Lyc
open Go
theorem bK(b:UInt8)(a:128≤b.toNat)(c:b.toNat≤191):IntKind.i32.wrap (Ba .and .u8 b.toNat 63)=(b.toNat:Int)-128:=by
 have d:∀x:BitVec 8,128≤x.toNat→x.toNat≤191→(x &&& BitVec.ofInt 8 63).toNat+128=x.toNat:=rC;have k:=d b.toBitVec a c;have e:=Ih b.toBitVec 63;rw[show(b.toBitVec.toNat:Int)=(b.toNat:Int) from rfl] at e;have f:(b.toBitVec.toNat:Int)=(b.toNat:Int):=rfl;rw[e,H4 _ O O];omega
theorem iA{r:Int}(a:0≤r)(d:r≤100000)(b:UInt8)(e:128≤b.toNat)(f:b.toNat≤191):ER r b=r*64+b.toNat-128:=by
 unfold ER;rw[bK b e f,H4 _ O O];obtain⟨A,rfl⟩:∃A:Nat,r=A:=⟨r.toNat,O⟩;obtain⟨c,hc⟩:∃c:Nat,(b.toNat:Int)-128=c:=⟨b.toNat-128,O⟩;rw[hc,show(A:Int)*64+b.toNat-128=((A*64+c:Nat):Int) by omega,show(A:Int)*64=((A*64:Nat):Int) by omega];show IntKind.i32.wrap ((BitVec.ofInt 32 ((A*64:Nat):Int) ||| BitVec.ofInt 32 (c:Int)).toNat:Int)=_;have g:(BitVec.ofInt 32 ((A*64:Nat):Int) ||| BitVec.ofInt 32 (c:Int)).toNat=A*64+c:=by
  rw[BitVec.toNat_or,BitVec.toNat_ofInt,BitVec.toNat_ofInt];have h:(((A*64:Nat):Int) % ((2 ^ 32:Nat):Int)).toNat=A*64:=O;have j:((c:Int) % ((2 ^ 32:Nat):Int)).toNat=c:=O;rw[h,j];have:=Nat.two_pow_add_eq_or_of_lt (i:=6) (b:=c) O A;rw[show A*64=2 ^ 6*A by omega,←this]
 rw[g,H4 _ O O]
theorem dQ{h:Nat}(a:194≤h)(b:h≤244):CM h=(h:Int)-(if AL h=1 then 192 else if AL h=2 then 224 else 240):=by
 have c:∀x:Fin 256,194≤x.val→x.val≤244→CM x.val=(x.val:Int)-(if AL x.val=1 then 192 else if AL x.val=2 then 224 else 240):=by decide +kernel
 exact c ⟨h,O⟩ a b
def DE(h:Nat):Int × Int × Int:=
 if h<128 then(0,128,191) else if 194≤h∧h≤223 then(1,128,191) else if h=224 then(2,160,191) else if h=237 then(2,128,159) else if 225≤h∧h≤239 then(2,128,191)
 else if h=240 then(3,144,191) else if 241≤h∧h≤243 then(3,128,191) else if h=244 then(3,128,143) else(-1,0,0)
theorem cx{h:Nat}(a:h<256):DE h=if AL h=0 then(if h<128 then(0,128,191) else(-1,0,0)) else((AL h:Int),(CD h:Int),(CV h:Int)):=by
 have b:∀x:Fin 256,DE x.val=if AL x.val=0 then(if x.val<128 then(0,128,191) else(-1,0,0)) else((AL x.val:Int),(CD x.val:Int),(CV x.val:Int)):=by decide +kernel
 exact b ⟨h,a⟩
end Lyc
namespace Go.Proofs.YtnpkidnbhlepkaaGreat
open Lyc Go Go.Proofs.Tryz
theorem fp(w:World)(b:UInt8):Calls prog 137 #[.int .u8 b.toNat] w (Ac λv a=>v=.agg #[.int .i64 (DE b.toNat).1,.int .i64 (DE b.toNat).2.1,.int .i64 (DE b.toNat).2.2]∧Chg [] w a):=by
 have c:=b.toNat_lt;generalize b.toNat=h at *;apply fm;intro K d;unfold LV;have f:∀(x y z:Int) (a:World),Chg [] w a→DE h=(x,y,z)→K (.agg #[.int .i64 x,.int .i64 y,.int .i64 z]) a:=λx y z a g e=>d _ _ ⟨by rw[e],g⟩;unfold DE at f;refine sn ?_;have i:=Ar w (.cells #[.int .i64 0,.int .i64 0,.int .i64 0] 222);have j:(w.alloc (.cells #[.int .i64 0,.int .i64 0,.int .i64 0] 222)).heap[w.heap.size]?=some (.cells #[.int .i64 0,.int .i64 0,.int .i64 0] 222):=by simp -dsimp (disch:=first|omega|(simp only[go_sem,seval];try omega))only[go_sem,seval]
 generalize w.alloc (.cells #[.int .i64 0,.int .i64 0,.int .i64 0] 222)=w1 at *;have k:∀o:Obj,Chg [] w (Ab w1 w.heap.size o):=λo=>i.set _ _ (.inr (rH _));have l:=Aa j;refine sd (λg=>?_) (λg=>?_)
 ·refine sq j ?_;exact f _ _ _ _ (k _) (by rw[rG O])
 have m:¬h<128:=O;rw[rF m] at f;refine DU ?_;refine sd (λg=>?_) (λg=>?_)
 ·refine sq j ?_;exact f _ _ _ _ (k _) (by rw[rG O])
 rw[rF O] at f;refine sn ?_;refine sd (λg=>?_) (λg=>?_)
 ·refine sq j ?_;exact f _ _ _ _ (k _) (by rw[rG O])
 rw[rF O] at f;refine sn ?_;refine sd (λg=>?_) (λg=>?_)
 ·refine sq j ?_;exact f _ _ _ _ (k _) (by rw[rG O])
 rw[rF O] at f;refine DU ?_;refine sd (λg=>?_) (λg=>?_)
 ·refine sq j ?_;exact f _ _ _ _ (k _) (by rw[rG O])
 rw[rF O] at f;refine sn ?_;refine sd (λg=>?_) (λg=>?_)
 ·refine sq j ?_;exact f _ _ _ _ (k _) (by rw[rG O])
 rw[rF O] at f;refine DU ?_;refine sd (λg=>?_) (λg=>?_)
 ·refine sq j ?_;exact f _ _ _ _ (k _) (by rw[rG O])
 rw[rF O] at f;refine sn ?_;refine sd (λg=>?_) (λg=>?_)
 ·refine sq j ?_;exact f _ _ _ _ (k _) (by rw[rG O])
 rw[rF O] at f;refine sq j ?_;exact f _ _ _ _ (k _) rfl
set_option maxHeartbeats 1000000 in
theorem ZR(w:World)(s:List UInt8)(h:s≠[])(hl:s.length≤1000000):Calls prog 70 #[.string (Aq s)] w (Ac λv w'=>v=.agg #[.int .i64 (first s).2.1,.int .i32 (first s).1,.bool (first s).2.2]∧Chg [] w w'):=by
 obtain⟨b,l,rfl⟩:∃b l,s=b::l:=by cases s with|nil=>exact absurd rfl h|cons b l=>exact⟨b,l,rfl⟩
 have hb:=b.toNat_lt;obtain⟨p,hp⟩:∃p,p=first (b::l):=⟨_,rfl⟩
 rw[←hp];unfold first at hp
 simp only[List.getElem?_cons_zero] at hp;apply YN;intro K hK;unfold Ld;refine sn ?_;have hc1:Chg [] w (w.alloc (.cells #[.int .i64 0,.int .i32 0,.bool false] 154)):=Ar _ _;have a1:(w.alloc (.cells #[.int .i64 0,.int .i32 0,.bool false] 154)).heap[w.heap.size]?=some (.cells #[.int .i64 0,.int .i32 0,.bool false] 154):=by simp -dsimp (disch:=first|omega|(simp only[go_sem,seval];try omega))only[go_sem,seval]
 generalize w.alloc (.cells #[.int .i64 0,.int .i32 0,.bool false] 154)=w1 at *;refine td YL rfl (fp w1 b) ?_;rintro v w2 ⟨rfl,hc2⟩;have a2:=hc2.keep a1 Z;have hz:w.heap.size<w2.heap.size:=Aa a2;have hc02:=hc1.trans0 hc2;have hFe:=cx (h:=b.toNat) hb;generalize DE b.toNat=F at *;refine sn ?_;have hc3:=Ar w2 (.cells #[.int .i64 F.1,.int .i64 F.2.1,.int .i64 F.2.2] 222);have a3:(w2.alloc (.cells #[.int .i64 F.1,.int .i64 F.2.1,.int .i64 F.2.2] 222)).heap[w2.heap.size]?=some (.cells #[.int .i64 F.1,.int .i64 F.2.1,.int .i64 F.2.2] 222):=by simp -dsimp (disch:=first|omega|(simp only[go_sem,seval];try omega))only[go_sem,seval]
 have b3:=hc3.keep a2 Z;have hc:=hc02.trans0 hc3;generalize w2.alloc (.cells #[.int .i64 F.1,.int .i64 F.2.1,.int .i64 F.2.2] 222)=w3 at *;have hl3:=Aa b3;have fin:∀(r:Int) (n:Nat) (o:Bool),p=(r,n,o)→K (.agg #[.int .i64 (n:Int),.int .i32 r,.bool o]) (Ab w3 w.heap.size (.cells #[.int .i64 (n:Int),.int .i32 r,.bool o] 154)):=λr n o e=>hK _ _ ⟨by rw[e],hc.set _ _ (.inr (rH _))⟩;by_cases h127:b.toNat≤127
 ·rw[rG h127] at hp;rw[rG (show AL b.toNat=0 by unfold AL;rw[rF O,rF O,rF O]),rG O] at hFe;subst hFe;refine sr a3 b3 ?_;exact fin _ 1 _ hp
 rw[rF h127] at hp;by_cases hm:AL b.toNat=0
 ·rw[rG hm] at hp;rw[rG hm,rF O] at hFe;subst hFe;refine sr a3 b3 ?_;exact fin _ 1 _ hp
 rw[rF hm] at hp;rw[rF hm] at hFe;subst hFe;have hm3:AL b.toNat≤3∧(194≤b.toNat∧b.toNat≤244)∧(AL b.toNat=1→b.toNat≤223)∧(AL b.toNat=2→224≤b.toNat∧b.toNat≤239)∧(AL b.toNat=3→240≤b.toNat):=by
  revert hm
  unfold AL
  (repeat' split)<;>omega
 obtain⟨hm3,hb2,m1,m2,m3⟩:=hm3;have hhd:=dQ hb2.1 hb2.2;have hlo:128≤CD b.toNat∧CD b.toNat≤255:=by unfold CD;(repeat' split)<;>omega
 have hhi:CV b.toNat≤191:=by unfold CV;(repeat' split)<;>omega
 generalize AL b.toNat=M at *;generalize CD b.toNat=lo at *;generalize CV b.toNat=hi at *;dsimp only at a3;refine sd (λg=>absurd g (by dsimp only;omega)) (λ_=>?_);refine sq a3 ?_;refine sd (λg=>absurd g O) (λ_=>?_);refine sn ?_;refine sh (λv w'=>v=.int .i64 (CM b.toNat)∧w'=w3) ?_ ?_
 ·refine sq a3 ?_;refine sd (λg=>?_) (λg=>?_)
  ·refine sn ?_;rw[hhd,rG O]
  refine sn ?_;refine sd (λg=>?_) (λg=>?_)
  ·refine sn ?_;rw[hhd,rF O,rG O]
  refine sn ?_;refine sd (λg=>?_) (λg=>?_)
  ·refine sn ?_;rw[hhd,rF O,rF O]
  ·omega
 rintro v w4 ⟨rfl,rfl⟩;refine Loop2.st (λq:Int × Nat=>.int .i64 q.1) (λq=>.int .i64 (q.2:Int)) (λq w'=>w'=w4∧1≤q.2∧q.2≤l.length+1∧q.2≤M+1∧0≤q.1∧(q.2=1→q.1≤31∧(M=2→q.1≤15)∧(M=3→q.1≤7))∧(q.2=2→q.1≤2047∧(2≤M→q.1≤1023))∧(q.2=3→q.1≤65535)∧(q.2=4→q.1≤4194303)∧p=BL (b::l) (M+1-q.2) q.1 q.2 (if q.2=1 then lo else 128) (if q.2=1 then hi else 191)) (λq=>10-q.2)
  (CM b.toNat,1) rfl rfl ⟨rfl,rH _,by dsimp only;omega,by dsimp only;omega,?_,λ_=>?_,λh=>absurd h (by dsimp only;omega),λh=>absurd h (by dsimp only;omega),λh=>absurd h (by dsimp only;omega),hp⟩ ?_
 ·dsimp only;rw[hhd]
  (repeat' split)<;>omega
 ·dsimp only;rw[hhd]
  (repeat' split)<;>omega
 rintro next ⟨r,n⟩ w5 hn ⟨rfl,hn1,hnl,hnM,hr0,q1,q2,q3,q4,hpq⟩
 dsimp only at hn1 hnl hnM hr0 q1 q2 q3 q4 hpq ⊢;refine sq a3 ?_;refine sd (λg=>?_) (λg=>?_)
 ·obtain⟨k,hk⟩:∃k,M+1-n=k+1:=⟨M-n,O⟩;rw[hk] at hpq;unfold BL at hpq;refine sn ?_;refine sd (λg1=>?_) (λg1=>?_)
  ·have hnone:(b::l)[n]?=none:=List.getElem?_eq_none (by rw[List.length_cons];omega);rw[hnone] at hpq;refine sq b3 ?_;exact fin _ n _ hpq
  ·have hlt:n<(b::l).length:=by rw[List.length_cons];omega
   obtain⟨c,hcc⟩:∃c,(b::l)[n]?=some c:=⟨_,rI hlt⟩;have hcb:=c.toNat_lt;rw[hcc] at hpq;dsimp only at hpq;have hn0:(0≤(n:Int))=True:=Z;refine sr hcc hn0 ?_;obtain⟨A,hA⟩:∃A,A=if n=1 then lo else 128:=⟨_,rfl⟩
   obtain⟨B,hB⟩:∃B,B=if n=1 then hi else 191:=⟨_,rfl⟩
   rw[←hA,←hB] at hpq;have hAB:128≤A∧B≤191:=by
    rw[hA,hB];split<;>omega
   refine Join2.cut (λv0 v1 w'=>v0=.int .i64 (A:Int)∧v1=.int .i64 (B:Int)∧w'=w5) ?_ ?_
   ·refine sn ?_;refine sd (λg2=>?_) (λg2=>?_)
    ·refine sq a3 ?_;rw[hA,hB,rG O,rG O];exact⟨rfl,rfl⟩
    ·rw[hA,hB,rF O,rF O];exact⟨rfl,rfl,rfl⟩
   rintro v0 v1 w6 ⟨rfl,rfl,rfl⟩;refine sh (λv w'=>v=.bool (decide (c.toNat<A∨B<c.toNat))∧w'=w6) ?_ ?_
   ·refine sn ?_;refine sd (λg=>⟨su O,rfl⟩) (λg=>?_);refine sn ?_;exact sw ⟨λh=>O,λh=>O⟩
   rintro v w7 ⟨rfl,rfl⟩;refine sd (λg2=>?_) (λg2=>?_)
   ·rw[rG g2] at hpq;refine sq b3 ?_;exact fin _ n _ hpq
   ·rw[rF g2] at hpq;have hnx:=iA (r:=r) hr0 O c O O;have e1:(n:Int)+1=((n+1:Nat):Int):=O;refine sq e1 ?_;refine hn (r*64+c.toNat-128,n+1) _ ⟨rfl,by dsimp only;omega,by dsimp only;rw[List.length_cons] at hlt;omega,by dsimp only;omega,by dsimp only;omega,λh=>by dsimp only at h;omega,λh=>by dsimp only at h ⊢;omega,λh=>by dsimp only at h ⊢;omega,λh=>by dsimp only at h ⊢;omega,?_⟩ (by dsimp only;omega);dsimp only;rw[hpq,←hnx,show M+1-(n+1)=k by omega,rF O,rF O]
 ·have hk:M+1-n=0:=O;rw[hk] at hpq;have en:n=M+1:=O;have hw:IntKind.i32.wrap r=r:=H4 _ O O;refine sr a3 b3 ?_;have:=fin r n false hpq;rw[en] at this;simpa [hw] using this
@[go_sem] def Dl(k:List UInt8):Obj:=.cells #[.string (Aq k)] 86
theorem iF{w:World}{d:Nat}{k:List UInt8}(h:w.heap[d]?=some (Dl k))(hk:k.length≤4)(s:List UInt8)(hl:s.length≤10000):Calls prog 28 #[.pointer (some ⟨d,0,none⟩),.string (Aq s)] w
  (Ac λv w'=>Ox w.heap.size w' 21 1 Cx v (dec (k++s)).1∧w'.heap[d]?=some (Dl (dec (k++s)).2)∧Chg [d] w w'):=by
 have hl0:=Aa h;apply jS;intro K hK;unfold M0;refine sq h ?_;have h1:(Ab w d (Dl (k++s))).heap[d]?=some (Dl (k++s)):=Cb _ hl0;have hc1:Chg [d] w (Ab w d (Dl (k++s))):=(sg _ _).set _ _ Z;simp only[Dl] at h1 hc1;generalize Ab w d (.cells #[.string (Aq (k++s))] 86)=w1 at *;obtain⟨D,hD⟩:∃D,D=dec (k++s):=⟨_,rfl⟩;rw[←hD] at hK;refine Loop1.st (λq:List UInt8 × Value × List Int=>q.2.1) (λq w'=>q.1.length≤10004∧w'.heap[d]?=some (Dl q.1)∧Ox w.heap.size w' 21 1 Cx q.2.1 q.2.2∧q.2.2.length+q.1.length≤10004∧D=(q.2.2++(dec q.1).1,(dec q.1).2)∧Chg [d] w w') (λq=>q.1.length) (k++s,.slice none 0 0,[]) rfl ⟨by dsimp only;rw[rS];omega,h1,Ox.nil _ _ _ _ _,by dsimp only;rw[rS,List.length_nil];omega,by rw[hD];simp,hc1⟩ ?_;rintro next ⟨q,u,l⟩ w2 hn ⟨hq,hb,ho,hlq,hd,hc⟩
 dsimp only at hq hb ho hlq hd ⊢;have hlb:=Aa hb;refine sq hb ?_;rw[show({ data:=#[] }:ByteArray).toList=[] from Qp []];refine BrW.by (λhne=>?_) (λg=>?_)
 ·have hne:q≠[]:=by
   rintro rfl;exact absurd hne Z
  have hf:=El q hne;refine sq hb ?_;refine td eM rfl (ZR w2 q hne O) ?_;rintro v w3 ⟨rfl,hc3⟩;have hb3:=hc3.keep hb Z;have ho3:=ho.chg0 hc3;have hc03:=hc.trans0 hc3;refine sn ?_;have hc4:=Ar w3 (.cells #[.int .i64 ((first q).2.1:Int),.int .i32 (first q).1,.bool (first q).2.2] 154);have a4:(w3.alloc (.cells #[.int .i64 ((first q).2.1:Int),.int .i32 (first q).1,.bool (first q).2.2] 154)).heap[w3.heap.size]?=some (.cells #[.int .i64 ((first q).2.1:Int),.int .i32 (first q).1,.bool (first q).2.2] 154):=by exact so
  have hb4:=hc4.keep hb3 Z;have ho4:=ho3.chg0 hc4;have hc04:=hc03.trans0 hc4;have hz3:=hc03.size;generalize w3.alloc (.cells #[.int .i64 ((first q).2.1:Int),.int .i32 (first q).1,.bool (first q).2.2] 154)=w4 at *;cases hop:(first q).2.2 with
  | true =>
   refine BrW.by (λ_=>?_) (λh=>by simp at h);rw[EY hne hop] at hd;refine hK _ _ ⟨?_,?_,hc04⟩
   ·rw[hd];simpa using ho4
   ·rw[hd];exact hb4
  | false =>
   rw[hop] at a4;refine BrW.by (λh=>by simp at h) (λ_=>?_);rw[E9 hne hop] at hd;have hz:=hc04.size;refine sq a4 ?_;refine Bd (l2:=[(first q).1]) MD OS RH (ho4.chg0 (Ar _ _)) (Sx.built (c:=Cx (first q).1) (by refine sn ?_;rfl) Z) rfl (by simp;omega) O (by refine sn ?_;omega) ?_;intro v' w5 ho5 hc5 _;have hca:Chg u.ownBlock.toList w4 w5:=((sg _ w4).alloc _).trans hc5 (λx hx=>.inl hx);have hlow:=ho4.own_ge;have a5:=hca.keep a4 (λhm=>by
    rcases ho4.2 with ⟨e,-⟩|⟨g,cap,cur,e,-,hg,-⟩
    ·rw[e] at hm;simp [Value.ownBlock] at hm
    ·rw[e] at hm;simp only[Value.ownBlock,Option.toList_some,List.mem_singleton] at hm;rw[hm] at a4;rw[a4] at hg;simp at hg)
   have hb5:=hca.keep hb4 (λhm=>by have:=hlow _ hm;omega);have hl5:=Aa hb5;simp -dsimp (disch:=first|omega|(simp only[go_sem,seval];try omega))only[go_sem,seval,hb5,a5,F2];rw[List.take_of_length_le (by rw[List.length_drop];exact rH _)];refine hn (q.drop (first q).2.1,v',l++[(first q).1]) _ ⟨by dsimp only;rw[List.length_drop];omega,Cb _ (by simpa using hl5),?_,by dsimp only;rw[rS,List.length_singleton,List.length_drop];omega,?_,?_⟩ (by dsimp only;rw[List.length_drop];omega)
   ·exact(show Ox w.heap.size w5.drew 21 1 Cx v' (l++[(first q).1]) from ho5.drew).low ((sg [d] _).set _ _ Z) (by simp;omega)
   ·dsimp only;rw[hd];simp
   ·exact((Ff ho4 (rH _) hc04 hca).drew).set _ _ (.inl Z)
 ·have g:q=[]:=by
   cases q with
   | nil=>rfl
   | cons x q=>exact absurd g Z
  subst g;rw[HK] at hd;refine hK _ _ ⟨by rw[hd];simpa using ho,by rw[hd];exact hb,hc⟩
set_option maxRecDepth 100000
def PS(a:Value)(K:rD):rE:=xC 60 [.const a,.const (.int .i64 500)] [3,3] 3 λb=>xQ (.build 146 #[(0,.const b)]) 146 λb=>xQ (.box 146 (.const b)) 55 λb=>K b
theorem WG(a:Value):Lk 25 #[a] (PS a):=lk [a] [] func25
theorem Zo:Ad prog 25:=bd func25
def OU(a b:Value)(K:rD):rE:=Loop1 (.int .i64 0) λc d=>xU b 105 λe=>xO .lss 3 c e λe=>xW e (Join0 (λe=>Ag<|xM a λf=>qF 146 f 1 λf=>qL 105 f λg=>xP (.indexAddr 105 (.const b) (.const c)) 0 λh=>qL 48 h λh=>xC 71 [.const h] [48] 48 λh=>xT (qZ 105 f g)<|xQ (.buildSlice 105 1 #[(0,.const h)]) 105 λh=>xT (qZ 105 f g)<|xV g h 105 105 105 λh=>xM a λg=>qF 146 g 1 λg=>xS 105 g h<|Ag<|xM a λg=>qF 146 g 1 λg=>qL 105 g λg=>xR (.call { callee:=.builtin .len,args:=#[.const g],argTypes:=#[105] }) 3 λg=>xM a λh=>qF 146 h 0 λh=>qL 3 h λh=>qP .gtr 3 g h λh=>xW h (xH a λh=>xF 146 h 1 λh=>xL 105 h λh=>xQ (.slice 105 (.const h) (some (.const (.int .i64 1))) none none) 105 λh=>xH a λg=>xF 146 g 1 λg=>xS 105 g h<|e)<|e)<|xO .add 3 c (.int .i64 1) λg=>d g)<|K (.tuple #[])
theorem ZT(a b:Value):Lk 29 #[a,b] (OU a b):=lk [a,b] [(3,[4]),(10,[])] func29
theorem aH:Ad prog 29:=bd func29
def ME(a b:Value)(K:rD):rE:=xO .lss 3 a (.int .i64 0) λc=>xW c (K (.int .i64 0))<|xO .gtr 3 a b λc=>xW c (K b)<|K a
theorem ZL(a b:Value):Lk 60 #[a,b] (ME a b):=lk [a,b] [] func60
theorem V2:Ad prog 60:=bd func60
def R6(a b c:Value)(K:rD):rE:=xQ (.build 86 #[]) 86 λd=>xQ (.box 86 (.const d)) 52 λd=>xQ (.build 91 #[]) 91 λe=>xQ (.box 91 (.const e)) 53 λe=>xC 24 [.const a,.const b] [3,3] 54 λf=>xC 25 [.const c] [3] 55 λg=>xQ (.build 57 #[(0,.const d),(1,.const e),(2,.const f),(3,.const g)]) 57 λg=>xQ (.box 57 (.const g)) 39 λg=>K g
theorem cv(a b c:Value):Lk 9 #[a,b,c] (R6 a b c):=lk [a,b,c] [] func9
theorem XF:Ad prog 9:=bd func9
def Pw(a b:Value)(K:rD):rE:=Ag<|xM a λc=>qF 57 c 2 λc=>qL 54 c λd=>xM a λe=>qF 57 e 1 λe=>qL 53 e λf=>xM a λg=>qF 57 g 0 λg=>qL 52 g λg=>xC 28 [.const g,.const b] [52,9] 97 λg=>xT (qZ 53 e f)<|xT (qZ 54 c d)<|xC 27 [.const f,.const g] [53,97] 95 λg=>xT (qZ 54 c d)<|xC 26 [.const d,.const g] [54,95] 0 λ_=>Ag<|xM a λg=>qF 57 g 3 λg=>qL 55 g λg=>xM a λd=>qF 57 d 2 λd=>qL 54 d λd=>xM d λd=>qF 107 d 10 λd=>qL 105 d λd=>xC 29 [.const g,.const d] [55,105] 0 λ_=>xH a λd=>xF 57 d 2 λd=>xL 54 d λd=>xH d λd=>xF 107 d 10 λd=>xS 105 d (.slice none 0 0)<|K (.tuple #[])
theorem Z7(a b:Value):Lk 10 #[a,b] (Pw a b):=lk [a,b] [] func10
theorem ZC:Ad prog 10:=bd func10
def Ph(a:Value)(K:rD):rE:=xA 50 λb=>Ag<|xM a λc=>qF 107 c 1 λc=>qL 3 c λc=>xM a λd=>qF 107 d 0 λd=>xP (.indexAddr 100 (.const d) (.const c)) 0 λd=>qL 50 d λd=>xS 50 b d<|xD 50 b λd=>K d
theorem cV(a:Value):Lk 12 #[a] (Ph a):=lk [a] [] func12
theorem Ce:Ad prog 12:=bd func12
def K2(a b:Value)(K:rD):rE:=xQ (.build 107 #[(5,.const b),(7,.const (.bool true)),(9,.const (.bool true))]) 107 λc=>xQ (.box 107 (.const c)) 54 λc=>Ag<|xM c λd=>qF 107 d 0 λd=>xC 59 [.const a,.const b] [3,3] 50 λe=>xP (.indexAddr 100 (.const d) (.const (.int .i64 0))) 0 λd=>xS 50 d e<|Ag<|xM c λd=>qF 107 d 0 λd=>xC 59 [.const a,.const b] [3,3] 50 λe=>xP (.indexAddr 100 (.const d) (.const (.int .i64 1))) 0 λd=>xS 50 d e<|Loop1 (.int .i64 8) λd e=>xO .lss 3 d (.int .i64 200) λf=>xW f (xH c λf=>xF 107 f 6 λf=>xI 104 f d λf=>xS 4 f (.bool true)<|xO .add 3 d (.int .i64 8) λf=>e f)<|K c
theorem aU(a b:Value):Lk 24 #[a,b] (K2 a b):=lk [a,b] [(12,[6])] func24
theorem OV:Ad prog 24:=bd func24
def P4(a b:Value)(K:rD):rE:=Loop1 (.int .i64 0) λc d=>xU b 95 λe=>xO .lss 3 c e λe=>xW e (Join0 (λe=>xI 95 b c λf=>xL 89 f λf=>xA 89 λg=>xS 89 g f<|Join1 (λf=>xF 89 g 2 λh=>xL 5 h λh=>xO .eql 5 h (.int .u8 0) λh=>xW h (xF 89 g 3 λh=>xL 5 h λh=>xO .eql 5 h (.int .u8 0) λh=>f h)<|f (.bool false)) λh=>xF 89 g 0 λf=>xL 3 f λf=>xO .eql 3 f (.int .i64 1) λi=>xW i (xF 89 g 1 λi=>xL 21 i λi=>xC 61 [.const a,.const i] [54,21] 0 λ_=>e)<|xO .eql 3 f (.int .i64 2) λi=>xW i (xF 89 g 1 λi=>xL 21 i λi=>xC 62 [.const a,.const i] [54,21] 0 λ_=>e)<|xO .eql 3 f (.int .i64 3) λi=>xW i (xF 89 g 3 λi=>xL 5 i λi=>xO .eql 5 i (.int .u8 0) λi=>xW i (xF 89 g 1 λi=>xL 21 i λi=>xC 63 [.const a,.const i] [54,21] 0 λ_=>e)<|e)<|xO .eql 3 f (.int .i64 4) λi=>xW i (xL 89 g λi=>xC 64 [.const i,.const (.int .i64 0),.const (.int .i64 0)] [89,3,3] 3 λi=>Join1 (λf=>xW h (xF 89 g 1 λj=>xL 21 j λj=>xO .eql 21 j (.int .i32 109) λj=>f j)<|f (.bool false)) λj=>xW j (Ag<|xM a λj=>qF 107 j 2 λj=>qF 102 j 2 λj=>qL 60 j λj=>qL 89 g λf=>xC 65 [.const j,.const f] [60,89] 60 λf=>xM a λj=>qF 107 j 2 λj=>qF 102 j 2 λj=>xS 60 j f<|e)<|Join1 (λj=>xW h (xF 89 g 1 λf=>xL 21 f λf=>xO .eql 21 f (.int .i32 115) λf=>j f)<|j (.bool false)) λf=>xW f (xC 66 [.const a] [54] 0 λ_=>e)<|Join1 (λf=>xW h (xF 89 g 1 λj=>xL 21 j λj=>xO .eql 21 j (.int .i32 103) λj=>f j)<|f (.bool false)) λj=>xW j (Join0 (λj=>xO .eql 3 i (.int .i64 0) λf=>xW f (Ag<|xM a λf=>qF 107 f 2 λf=>qF 102 f 0 λf=>qL 3 f λf=>xM a λl=>qF 107 l 6 λl=>xP (.indexAddr 104 (.const l) (.const f)) 0 λl=>xS 4 l (.bool false)<|j)<|j)<|xO .eql 3 i (.int .i64 3) λl=>xW l (xQ (.build 104 #[]) 104 λl=>xH a λj=>xF 107 j 6 λj=>xS 104 j l<|e)<|e)<|xW h (xL 89 g λj=>xC 67 [.const a,.const j] [54,89] 0 λ_=>e)<|Join1 (λj=>xF 89 g 2 λl=>xL 5 l λl=>xO .eql 5 l (.int .u8 63) λl=>xW l (xF 89 g 3 λl=>xL 5 l λl=>xO .eql 5 l (.int .u8 0) λl=>xW l (xF 89 g 1 λl=>xL 21 l λl=>xO .eql 21 l (.int .i32 104) λl=>xW l (j (.bool true))<|xF 89 g 1 λl=>xL 21 l λl=>xO .eql 21 l (.int .i32 108) λl=>j l)<|j (.bool false))<|j (.bool false)) λl=>xW l (Loop1 (.int .i64 0) λl j=>Join1 (λh=>xF 89 g 4 λi=>xL 3 i λi=>xO .lss 3 l i λi=>xW i (xO .lss 3 l (.int .i64 8) λi=>h i)<|h (.bool false)) λi=>xW i (Ag<|qF 89 g 5 λi=>xP (.indexAddr 87 (.const i) (.const l)) 0 λi=>qL 3 i λi=>qF 89 g 1 λg=>qL 21 g λg=>qR .eql 21 g (.int .i32 104) λg=>xC 68 [.const a,.const i,.const g] [54,3,4] 0 λ_=>xO .add 3 l (.int .i64 1) λg=>j g)<|e)<|e)<|e)<|xO .add 3 c (.int .i64 1) λg=>d g)<|K (.tuple #[])
theorem VL(a b:Value):Lk 26 #[a,b] (P4 a b):=lk [a,b] [(3,[4]),(10,[]),(15,[6]),(41,[59]),(45,[76]),(49,[84]),(51,[]),(67,[123]),(72,[8]),(75,[131])] func26
theorem bC:Ad prog 26:=bd func26
def MO(a b:Value)(K:rD):rE:=xC 117 [.const b] [21] 3 λc=>xC 12 [.const a] [54] 50 λd=>xQ (.field 50 (.const d) 0) 3 λd=>Join1 (λe=>xO .eql 3 c (.int .i64 0) λf=>xW f (e (.bool true))<|xO .gtr 3 c d λf=>e f) λf=>xW f (K (.tuple #[]))<|Join0 (λf=>xH a λe=>xF 107 e 8 λe=>xL 4 e λe=>xW e (xH a λe=>xF 107 e 2 λe=>xF 102 e 0 λe=>xS 3 e (.int .i64 0)<|xC 118 [.const a] [54] 0 λ_=>f)<|f)<|xH a λe=>xF 107 e 8 λe=>xS 4 e (.bool false)<|Join0 (λe=>xH a λf=>xF 107 f 2 λf=>xF 102 f 0 λf=>xL 3 f λf=>xO .add 3 f c λf=>xO .gtr 3 f d λf=>xW f (xH a λf=>xF 107 f 7 λf=>xL 4 f λf=>xW f (xH a λf=>xF 107 f 2 λf=>xF 102 f 0 λf=>xS 3 f (.int .i64 0)<|xC 118 [.const a] [54] 0 λ_=>e)<|xO .sub 3 d c λf=>xH a λg=>xF 107 g 2 λg=>xF 102 g 0 λg=>xS 3 g f<|e)<|e)<|Ag<|xM a λg=>qF 107 g 1 λg=>qL 3 g λf=>xM a λe=>qF 107 e 2 λe=>qF 102 e 0 λe=>qL 3 e λh=>xM a λi=>qF 107 i 2 λi=>qF 102 i 1 λi=>qL 3 i λj=>xM a λl=>qF 107 l 2 λl=>qF 102 l 2 λl=>qL 60 l λm=>xM a λn=>qF 107 n 0 λn=>xC 12 [.const a] [54] 50 λo=>xT (qZ 60 l m)<|xT (qZ 3 i j)<|xT (qZ 3 e h)<|xT (qZ 3 g f)<|xC 120 [.const b,.const m] [21,60] 48 λm=>xT (qZ 3 i j)<|xT (qZ 3 e h)<|xT (qZ 3 g f)<|xC 119 [.const o,.const h,.const j,.const m] [50,3,3,48] 50 λm=>xT (qZ 3 g f)<|xP (.indexAddr 100 (.const n) (.const f)) 0 λn=>xS 50 n m<|xH a λn=>xF 107 n 2 λn=>xF 102 n 0 λn=>xL 3 n λn=>xO .add 3 n c λn=>xH a λc=>xF 107 c 2 λc=>xF 102 c 0 λc=>xS 3 c n<|xH a λc=>xF 107 c 2 λc=>xF 102 c 0 λc=>xL 3 c λc=>xO .eql 3 c d λc=>xW c (xO .sub 3 d (.int .i64 1) λc=>xH a λd=>xF 107 d 2 λd=>xF 102 d 0 λd=>xS 3 d c<|xH a λd=>xF 107 d 7 λd=>xL 4 d λd=>xH a λc=>xF 107 c 8 λc=>xS 4 c d<|K (.tuple #[]))<|K (.tuple #[])
theorem WE(a b:Value):Lk 61 #[a,b] (MO a b):=lk [a,b] [(6,[17]),(10,[]),(20,[])] func61
theorem cn:Ad prog 61:=bd func61
def Pk(a b:Value)(K:rD):rE:=Join0 (λc=>xO .eql 21 b (.int .i32 8) λd=>xW d (Ag<|xM a λd=>qF 107 d 2 λd=>qF 102 d 0 λd=>qL 3 d λe=>qP .sub 3 e (.int .i64 1) λf=>xC 12 [.const a] [54] 50 λg=>xT (qZ 3 d e)<|xP (.field 50 (.const g) 0) 3 λg=>xC 121 [.const f,.const g] [3,3] 3 λg=>xM a λf=>qF 107 f 2 λf=>qF 102 f 0 λf=>xS 3 f g<|c)<|xO .eql 21 b (.int .i32 9) λf=>xW f (xH a λf=>xF 107 f 2 λf=>xF 102 f 0 λf=>xL 3 f λf=>xO .add 3 f (.int .i64 1) λf=>xH a λg=>xF 107 g 2 λg=>xF 102 g 0 λg=>xS 3 g f<|Loop0 λg=>Ag<|Join1 (λf=>xM a λe=>qF 107 e 2 λe=>qF 102 e 0 λe=>qL 3 e λd=>xC 12 [.const a] [54] 50 λh=>xT (qZ 3 e d)<|xP (.field 50 (.const h) 0) 3 λh=>qP .lss 3 d h λh=>xW h (xM a λh=>qF 107 h 2 λh=>qF 102 h 0 λh=>qL 3 h λh=>xM a λd=>qF 107 d 6 λd=>xP (.indexAddr 104 (.const d) (.const h)) 0 λd=>qL 4 d λd=>xP (.unOp .not 4 (.const d)) 4 λd=>f d)<|f (.bool false)) λd=>xW d (xH a λd=>xF 107 d 2 λd=>xF 102 d 0 λd=>xL 3 d λd=>xO .add 3 d (.int .i64 1) λd=>xH a λf=>xF 107 f 2 λf=>xF 102 f 0 λf=>xS 3 f d<|g)<|xC 122 [.const a] [54] 0 λ_=>c)<|Join1 (λf=>xO .eql 21 b (.int .i32 10) λd=>xW d (f (.bool true))<|xO .eql 21 b (.int .i32 11) λd=>xW d (f (.bool true))<|xO .eql 21 b (.int .i32 12) λd=>f d) λd=>xW d (xC 118 [.const a] [54] 0 λ_=>c)<|xO .eql 21 b (.int .i32 13) λd=>xW d (xH a λd=>xF 107 d 2 λd=>xF 102 d 0 λd=>xS 3 d (.int .i64 0)<|c)<|K (.tuple #[]))<|xH a λd=>xF 107 d 8 λd=>xS 4 d (.bool false)<|K (.tuple #[])
theorem ZN(a b:Value):Lk 62 #[a,b] (Pk a b):=lk [a,b] [(0,[]),(15,[]),(18,[53]),(25,[65])] func62
theorem dB:Ad prog 62:=bd func62
def PQ(a b:Value)(K:rD):rE:=Join0 (λc=>xO .eql 21 b (.int .i32 55) λd=>xW d (xC 66 [.const a] [54] 0 λ_=>K (.tuple #[]))<|xO .eql 21 b (.int .i32 72) λd=>xW d (Ag<|xM a λd=>qF 107 d 2 λd=>qF 102 d 0 λd=>qL 3 d λd=>xM a λe=>qF 107 e 6 λe=>xP (.indexAddr 104 (.const e) (.const d)) 0 λe=>xS 4 e (.bool true)<|K (.tuple #[]))<|xO .eql 21 b (.int .i32 68) λe=>xW e (xC 118 [.const a] [54] 0 λ_=>c)<|xO .eql 21 b (.int .i32 69) λe=>xW e (xH a λe=>xF 107 e 2 λe=>xF 102 e 0 λe=>xS 3 e (.int .i64 0)<|xC 118 [.const a] [54] 0 λ_=>c)<|xO .eql 21 b (.int .i32 77) λe=>xW e (xC 123 [.const a] [54] 0 λ_=>c)<|xO .eql 21 b (.int .i32 56) λe=>xW e (xC 124 [.const a] [54] 0 λ_=>c)<|xO .eql 21 b (.int .i32 99) λe=>xW e (xH a λe=>xF 107 e 10 λe=>xL 105 e λe=>xC 12 [.const a] [54] 50 λd=>xQ (.field 50 (.const d) 0) 3 λd=>xC 12 [.const a] [54] 50 λf=>xQ (.field 50 (.const f) 1) 3 λf=>xC 24 [.const d,.const f] [3,3] 54 λf=>xH f λf=>xL 107 f λf=>xH a λd=>xS 107 d f<|xH a λd=>xF 107 d 10 λd=>xS 105 d e<|c)<|K (.tuple #[]))<|xH a λd=>xF 107 d 8 λd=>xS 4 d (.bool false)<|K (.tuple #[])
theorem Zy(a b:Value):Lk 63 #[a,b] (PQ a b):=lk [a,b] [(0,[])] func63
theorem dz:Ad prog 63:=bd func63
def SR(a:Value)(K:rD):rE:=Ag<|xM a λb=>qF 107 b 1 λb=>qL 3 b λb=>xM a λc=>qF 107 c 2 λc=>qL 102 c λc=>xM a λd=>qF 107 d 3 λd=>xP (.indexAddr 103 (.const d) (.const b)) 0 λd=>xS 102 d c<|K (.tuple #[])
theorem Yd(a:Value):Lk 66 #[a] (SR a):=lk [a] [] func66
theorem Jn:Ad prog 66:=bd func66
def NP(a b:Value)(K:rD):rE:=xB 89 b λc=>xL 89 c λd=>xC 64 [.const d,.const (.int .i64 0),.const (.int .i64 1)] [89,3,3] 3 λd=>xC 12 [.const a] [54] 50 λe=>xA 50 λf=>xS 50 f e<|Ag<|Join1 (λe=>xM a λg=>qF 107 g 2 λg=>qF 102 g 1 λg=>qL 3 g λg=>xM a λh=>qF 107 h 4 λh=>qL 3 h λh=>qP .geq 3 g h λh=>xW h (xM a λh=>qF 107 h 2 λh=>qF 102 h 1 λh=>qL 3 h λh=>xM a λg=>qF 107 g 5 λg=>qL 3 g λg=>qP .lss 3 h g λg=>e g)<|e (.bool false)) λg=>Join0 (λe=>xF 89 c 1 λh=>xL 21 h λh=>xO .eql 21 h (.int .i32 65) λi=>xW i (xQ (.unOp .neg 3 (.const d)) 3 λi=>xC 128 [.const a,.const i] [54,3] 0 λ_=>e)<|xO .eql 21 h (.int .i32 66) λi=>xW i (xC 128 [.const a,.const d] [54,3] 0 λ_=>e)<|xO .eql 21 h (.int .i32 67) λi=>xW i (xH a λi=>xF 107 i 2 λi=>xF 102 i 0 λi=>xL 3 i λi=>xO .add 3 i d λi=>xH a λj=>xF 107 j 2 λj=>xF 102 j 0 λj=>xS 3 j i<|e)<|xO .eql 21 h (.int .i32 68) λj=>xW j (xH a λj=>xF 107 j 2 λj=>xF 102 j 0 λj=>xL 3 j λj=>xO .sub 3 j d λj=>xH a λi=>xF 107 i 2 λi=>xF 102 i 0 λi=>xS 3 i j<|e)<|xO .eql 21 h (.int .i32 69) λi=>xW i (xC 128 [.const a,.const d] [54,3] 0 λ_=>xH a λi=>xF 107 i 2 λi=>xF 102 i 0 λi=>xS 3 i (.int .i64 0)<|e)<|xO .eql 21 h (.int .i32 70) λi=>xW i (xQ (.unOp .neg 3 (.const d)) 3 λi=>xC 128 [.const a,.const i] [54,3] 0 λ_=>xH a λi=>xF 107 i 2 λi=>xF 102 i 0 λi=>xS 3 i (.int .i64 0)<|e)<|Join1 (λi=>xO .eql 21 h (.int .i32 71) λj=>xW j (i (.bool true))<|xO .eql 21 h (.int .i32 96) λj=>i j) λj=>xW j (xO .sub 3 d (.int .i64 1) λj=>xH a λi=>xF 107 i 2 λi=>xF 102 i 0 λi=>xS 3 i j<|e)<|xO .eql 21 h (.int .i32 100) λi=>xW i (xO .sub 3 d (.int .i64 1) λi=>xH a λj=>xF 107 j 2 λj=>xF 102 j 1 λj=>xS 3 j i<|e)<|Join1 (λj=>xO .eql 21 h (.int .i32 72) λi=>xW i (j (.bool true))<|xO .eql 21 h (.int .i32 102) λi=>j i) λi=>xW i (xO .sub 3 d (.int .i64 1) λi=>xH a λj=>xF 107 j 2 λj=>xF 102 j 1 λj=>xS 3 j i<|xL 89 c λj=>xC 64 [.const j,.const (.int .i64 1),.const (.int .i64 1)] [89,3,3] 3 λj=>xO .sub 3 j (.int .i64 1) λj=>xH a λi=>xF 107 i 2 λi=>xF 102 i 0 λi=>xS 3 i j<|e)<|xO .eql 21 h (.int .i32 74) λi=>xW i (xL 89 c λi=>xC 64 [.const i,.const (.int .i64 0),.const (.int .i64 0)] [89,3,3] 3 λi=>xC 129 [.const a,.const i,.const (.bool true)] [54,3,4] 0 λ_=>e)<|xO .eql 21 h (.int .i32 75) λi=>xW i (xL 89 c λi=>xC 64 [.const i,.const (.int .i64 0),.const (.int .i64 0)] [89,3,3] 3 λi=>xC 129 [.const a,.const i,.const (.bool false)] [54,3,4] 0 λ_=>e)<|Join1 (λi=>xO .eql 21 h (.int .i32 76) λj=>xW j (i (.bool true))<|xO .eql 21 h (.int .i32 77) λj=>i j) λj=>xW j (Join1 (λj=>xF 89 c 1 λi=>xL 21 i λi=>xO .eql 21 i (.int .i32 76) λi=>xW i (xQ (.unOp .neg 3 (.const d)) 3 λi=>j i)<|j d) λi=>xW g (Ag<|xM a λg=>qF 107 g 1 λg=>qL 3 g λj=>qL 50 f λl=>xM a λm=>qF 107 m 2 λm=>qF 102 m 1 λm=>qL 3 m λn=>xM a λo=>qF 107 o 5 λo=>qL 3 o λp=>xM a λq=>qF 107 q 0 λq=>xC 131 [.const a] [54] 60 λr=>xT (qZ 3 o p)<|xT (qZ 3 m n)<|xT (qZ 50 f l)<|xT (qZ 3 g j)<|xC 130 [.const l,.const n,.const p,.const i,.const r] [50,3,3,3,60] 50 λr=>xT (qZ 3 g j)<|xP (.indexAddr 100 (.const q) (.const j)) 0 λq=>xS 50 q r<|xH a λq=>xF 107 q 2 λq=>xF 102 q 0 λq=>xS 3 q (.int .i64 0)<|e)<|e)<|xO .eql 21 h (.int .i32 64) λq=>xW q (Ag<|xM a λq=>qF 107 q 1 λq=>qL 3 q λr=>qL 50 f λj=>xM a λg=>qF 107 g 2 λg=>qF 102 g 0 λg=>qL 3 g λp=>xM a λo=>qF 107 o 2 λo=>qF 102 o 1 λo=>qL 3 o λn=>xM a λm=>qF 107 m 0 λm=>xC 131 [.const a] [54] 60 λl=>xT (qZ 3 o n)<|xT (qZ 3 g p)<|xT (qZ 50 f j)<|xT (qZ 3 q r)<|xC 132 [.const j,.const p,.const n,.const d,.const l] [50,3,3,3,60] 50 λl=>xT (qZ 3 q r)<|xP (.indexAddr 100 (.const m) (.const r)) 0 λm=>xS 50 m l<|e)<|xO .eql 21 h (.int .i32 80) λm=>xW m (Ag<|xM a λm=>qF 107 m 1 λm=>qL 3 m λl=>qL 50 f λr=>xM a λq=>qF 107 q 2 λq=>qF 102 q 0 λq=>qL 3 q λn=>xM a λo=>qF 107 o 2 λo=>qF 102 o 1 λo=>qL 3 o λp=>xP (.unOp .neg 3 (.const d)) 3 λg=>xM a λj=>qF 107 j 0 λj=>xC 131 [.const a] [54] 60 λi=>xT (qZ 3 o p)<|xT (qZ 3 q n)<|xT (qZ 50 f r)<|xT (qZ 3 m l)<|xC 132 [.const r,.const n,.const p,.const g,.const i] [50,3,3,3,60] 50 λi=>xT (qZ 3 m l)<|xP (.indexAddr 100 (.const j) (.const l)) 0 λj=>xS 50 j i<|e)<|xO .eql 21 h (.int .i32 88) λj=>xW j (Ag<|xM a λj=>qF 107 j 2 λj=>qF 102 j 1 λj=>qL 3 j λj=>xM a λi=>qF 107 i 2 λi=>qF 102 i 0 λi=>qL 3 i λi=>xM a λl=>qF 107 l 2 λl=>qF 102 l 0 λl=>qL 3 l λl=>qP .add 3 l d λl=>xC 133 [.const a,.const j,.const i,.const l] [54,3,3,3] 0 λ_=>e)<|xO .eql 21 h (.int .i32 83) λl=>xW l (xC 134 [.const a,.const d] [54,3] 0 λ_=>e)<|xO .eql 21 h (.int .i32 84) λl=>xW l (xQ (.unOp .neg 3 (.const d)) 3 λl=>xC 134 [.const a,.const l] [54,3] 0 λ_=>e)<|xO .eql 21 h (.int .i32 114) λl=>xW l (xL 89 c λl=>xC 64 [.const l,.const (.int .i64 1),.const (.int .i64 0)] [89,3,3] 3 λl=>Join1 (λc=>Join1 (λi=>xO .eql 3 l (.int .i64 0) λj=>xW j (i (.bool true))<|xF 50 f 1 λj=>xL 3 j λj=>xO .gtr 3 l j λj=>i j) λj=>xW j (xF 50 f 1 λj=>xL 3 j λj=>c j)<|c l) λj=>xO .sub 3 d (.int .i64 1) λc=>xO .sub 3 j (.int .i64 1) λl=>xO .lss 3 c l λl=>xW l (xO .sub 3 d (.int .i64 1) λl=>xH a λd=>xF 107 d 4 λd=>xS 3 d l<|xH a λd=>xF 107 d 5 λd=>xS 3 d j<|xH a λd=>xF 107 d 2 λd=>xF 102 d 0 λd=>xS 3 d (.int .i64 0)<|xH a λd=>xF 107 d 2 λd=>xF 102 d 1 λd=>xS 3 d (.int .i64 0)<|e)<|e)<|xO .eql 21 h (.int .i32 117) λd=>xW d (xC 124 [.const a] [54] 0 λ_=>e)<|K (.tuple #[]))<|xC 122 [.const a] [54] 0 λ_=>xH a λd=>xF 107 d 8 λd=>xS 4 d (.bool false)<|K (.tuple #[])
theorem W8(a b:Value):Lk 67 #[a,b] (NP a b):=lk [a,b] [(7,[6]),(8,[]),(40,[92]),(52,[109]),(70,[137]),(77,[4]),(115,[7]),(117,[266])] func67
theorem cq:Ad prog 67:=bd func67
def PL(a b c:Value)(K:rD):rE:=xO .eql 3 b (.int .i64 7) λd=>xW d (xH a λd=>xF 107 d 7 λd=>xS 4 d c<|xN 4 c λd=>xW d (xH a λd=>xF 107 d 8 λd=>xS 4 d (.bool false)<|K (.tuple #[]))<|K (.tuple #[]))<|xO .eql 3 b (.int .i64 25) λd=>xW d (xH a λd=>xF 107 d 9 λd=>xS 4 d c<|K (.tuple #[]))<|Join1 (λd=>xO .eql 3 b (.int .i64 47) λe=>xW e (d (.bool true))<|xO .eql 3 b (.int .i64 1047) λe=>xW e (d (.bool true))<|xO .eql 3 b (.int .i64 1049) λe=>d e) λe=>xW e (Join1 (λe=>xW c (xH a λd=>xF 107 d 1 λd=>xL 3 d λd=>xO .eql 3 d (.int .i64 0) λd=>e d)<|e (.bool false)) λd=>xW d (xC 66 [.const a] [54] 0 λ_=>xH a λd=>xF 107 d 1 λd=>xS 3 d (.int .i64 1)<|Ag<|xM a λd=>qF 107 d 0 λd=>xP (.indexAddr 100 (.const d) (.const (.int .i64 0))) 0 λd=>qF 50 d 0 λd=>qL 3 d λd=>xM a λe=>qF 107 e 0 λe=>xP (.indexAddr 100 (.const e) (.const (.int .i64 0))) 0 λe=>qF 50 e 1 λe=>qL 3 e λe=>xM a λf=>qF 107 f 0 λf=>xC 59 [.const d,.const e] [3,3] 50 λe=>xP (.indexAddr 100 (.const f) (.const (.int .i64 1))) 0 λf=>xS 50 f e<|xH a λf=>xF 107 f 8 λf=>xS 4 f (.bool false)<|K (.tuple #[]))<|Join1 (λf=>xN 4 c λe=>xW e (xH a λe=>xF 107 e 1 λe=>xL 3 e λe=>xO .eql 3 e (.int .i64 1) λe=>f e)<|f (.bool false)) λe=>xW e (xH a λe=>xF 107 e 1 λe=>xS 3 e (.int .i64 0)<|xC 124 [.const a] [54] 0 λ_=>xH a λe=>xF 107 e 8 λe=>xS 4 e (.bool false)<|K (.tuple #[]))<|K (.tuple #[]))<|K (.tuple #[])
theorem XL(a b c:Value):Lk 68 #[a,b,c] (PL a b c):=lk [a,b,c] [(17,[24]),(29,[35]),(39,[69])] func68
theorem UD:Ad prog 68:=bd func68
def Mx(a:Value)(K:rD):rE:=Ag<|xM a λb=>qF 107 b 2 λb=>qF 102 b 1 λb=>qL 3 b λb=>xM a λc=>qF 107 c 5 λc=>qL 3 c λc=>qP .sub 3 c (.int .i64 1) λc=>qR .eql 3 b c λc=>xW c (xC 134 [.const a,.const (.int .i64 1)] [54,3] 0 λ_=>K (.tuple #[]))<|Ag<|xM a λc=>qF 107 c 2 λc=>qF 102 c 1 λc=>qL 3 c λb=>xC 12 [.const a] [54] 50 λd=>xT (qZ 3 c b)<|xP (.field 50 (.const d) 1) 3 λd=>qP .sub 3 d (.int .i64 1) λd=>qP .lss 3 b d λd=>xW d (xH a λd=>xF 107 d 2 λd=>xF 102 d 1 λd=>xL 3 d λd=>xO .add 3 d (.int .i64 1) λd=>xH a λb=>xF 107 b 2 λb=>xF 102 b 1 λb=>xS 3 b d<|K (.tuple #[]))<|K (.tuple #[])
theorem fB(a:Value):Lk 118 #[a] (Mx a):=lk [a] [] func118
theorem Gq:Ad prog 118:=bd func118
def SP(a b:Value)(K:rD):rE:=xO .lss 3 a (.int .i64 0) λc=>xW c (K (.int .i64 0))<|xO .geq 3 a b λc=>xW c (xO .sub 3 b (.int .i64 1) λc=>K c)<|K a
theorem Vo(a b:Value):Lk 121 #[a,b] (SP a b):=lk [a,b] [] func121
theorem Km:Ad prog 121:=bd func121
def R9(a:Value)(K:rD):rE:=Ag<|xM a λb=>qF 107 b 2 λb=>qF 102 b 0 λb=>qL 3 b λc=>xC 12 [.const a] [54] 50 λd=>xT (qZ 3 b c)<|xP (.field 50 (.const d) 0) 3 λd=>xC 121 [.const c,.const d] [3,3] 3 λd=>xM a λc=>qF 107 c 2 λc=>qF 102 c 0 λc=>xS 3 c d<|Ag<|xM a λc=>qF 107 c 2 λc=>qF 102 c 1 λc=>qL 3 c λd=>xC 12 [.const a] [54] 50 λb=>xT (qZ 3 c d)<|xP (.field 50 (.const b) 1) 3 λb=>xC 121 [.const d,.const b] [3,3] 3 λb=>xM a λd=>qF 107 d 2 λd=>qF 102 d 1 λd=>xS 3 d b<|K (.tuple #[])
theorem Up(a:Value):Lk 122 #[a] (R9 a):=lk [a] [] func122
theorem Ku:Ad prog 122:=bd func122
def N8(a:Value)(K:rD):rE:=Ag<|xM a λb=>qF 107 b 2 λb=>qF 102 b 1 λb=>qL 3 b λb=>xM a λc=>qF 107 c 4 λc=>qL 3 c λc=>qR .eql 3 b c λc=>xW c (xC 134 [.const a,.const (.int .i64 (-1))] [54,3] 0 λ_=>K (.tuple #[]))<|xH a λc=>xF 107 c 2 λc=>xF 102 c 1 λc=>xL 3 c λc=>xO .gtr 3 c (.int .i64 0) λc=>xW c (xH a λc=>xF 107 c 2 λc=>xF 102 c 1 λc=>xL 3 c λc=>xO .sub 3 c (.int .i64 1) λc=>xH a λb=>xF 107 b 2 λb=>xF 102 b 1 λb=>xS 3 b c<|K (.tuple #[]))<|K (.tuple #[])
theorem XW(a:Value):Lk 123 #[a] (N8 a):=lk [a] [] func123
theorem TV:Ad prog 123:=bd func123
def To(a:Value)(K:rD):rE:=Ag<|xM a λb=>qF 107 b 1 λb=>qL 3 b λb=>xM a λc=>qF 107 c 3 λc=>xP (.indexAddr 103 (.const c) (.const b)) 0 λc=>qL 102 c λc=>xM a λb=>qF 107 b 2 λb=>xS 102 b c<|xC 122 [.const a] [54] 0 λ_=>K (.tuple #[])
theorem aQ(a:Value):Lk 124 #[a] (To a):=lk [a] [] func124
theorem KI:Ad prog 124:=bd func124
def K5(a b:Value)(K:rD):rE:=xH a λc=>xF 107 c 2 λc=>xF 102 c 1 λc=>xL 3 c λc=>Join1 (λd=>xH a λe=>xF 107 e 4 λe=>xL 3 e λe=>xO .geq 3 c e λe=>xW e (xH a λe=>xF 107 e 4 λe=>xL 3 e λe=>d e)<|d (.int .i64 0)) λe=>xC 12 [.const a] [54] 50 λd=>xQ (.field 50 (.const d) 1) 3 λd=>xO .sub 3 d (.int .i64 1) λd=>Join1 (λf=>xH a λg=>xF 107 g 5 λg=>xL 3 g λg=>xO .lss 3 c g λg=>xW g (xH a λg=>xF 107 g 5 λg=>xL 3 g λg=>xO .sub 3 g (.int .i64 1) λg=>f g)<|f d) λg=>xO .add 3 c b λc=>Join1 (λf=>xO .lss 3 c e λd=>xW d (f e)<|f c) λd=>Join1 (λf=>xO .gtr 3 d g λc=>xW c (f g)<|f d) λc=>xH a λf=>xF 107 f 2 λf=>xF 102 f 1 λf=>xS 3 f c<|K (.tuple #[])
theorem Zj(a b:Value):Lk 128 #[a,b] (K5 a b):=lk [a,b] [(4,[5]),(12,[6]),(20,[4]),(26,[4])] func128
theorem Hf:Ad prog 128:=bd func128
def RP(a b c:Value)(K:rD):rE:=xC 12 [.const a] [54] 50 λd=>xA 50 λe=>xS 50 e d<|Join1 (λd=>xO .lss 3 b (.int .i64 0) λf=>xW f (d (.bool true))<|xO .gtr 3 b (.int .i64 2) λf=>d f) λf=>xW f (K (.tuple #[]))<|Loop1 (.int .i64 0) λf d=>xF 50 e 1 λg=>xL 3 g λg=>xO .lss 3 f g λg=>xW g (Join0 (λg=>Join1 (λh=>xH a λi=>xF 107 i 2 λi=>xF 102 i 1 λi=>xL 3 i λi=>xO .eql 3 f i λi=>xW i (xO .eql 3 b (.int .i64 0) λi=>h i)<|h (.bool false)) λi=>xW i (Ag<|xM a λi=>qF 107 i 2 λi=>qF 102 i 0 λi=>qL 3 i λi=>qF 50 e 0 λh=>qL 3 h λh=>xC 133 [.const a,.const f,.const i,.const h] [54,3,3,3] 0 λ_=>g)<|Join1 (λh=>xH a λi=>xF 107 i 2 λi=>xF 102 i 1 λi=>xL 3 i λi=>xO .eql 3 f i λi=>xW i (xO .eql 3 b (.int .i64 1) λi=>h i)<|h (.bool false)) λi=>xW i (xH a λi=>xF 107 i 2 λi=>xF 102 i 0 λi=>xL 3 i λi=>xO .add 3 i (.int .i64 1) λi=>xC 133 [.const a,.const f,.const (.int .i64 0),.const i] [54,3,3,3] 0 λ_=>g)<|Join1 (λi=>xH a λh=>xF 107 h 2 λh=>xF 102 h 1 λh=>xL 3 h λh=>xO .eql 3 f h λh=>xW h (i (.bool true))<|xW c (xO .eql 3 b (.int .i64 2) λh=>xW h (i (.bool true))<|xO .eql 3 b (.int .i64 0) λh=>xW h (xH a λh=>xF 107 h 2 λh=>xF 102 h 1 λh=>xL 3 h λh=>xO .gtr 3 f h λh=>xW h (i (.bool true))<|xO .eql 3 b (.int .i64 1) λh=>xW h (xH a λh=>xF 107 h 2 λh=>xF 102 h 1 λh=>xL 3 h λh=>xO .lss 3 f h λh=>i h)<|i (.bool false))<|xO .eql 3 b (.int .i64 1) λh=>xW h (xH a λh=>xF 107 h 2 λh=>xF 102 h 1 λh=>xL 3 h λh=>xO .lss 3 f h λh=>i h)<|i (.bool false))<|i (.bool false)) λh=>xW h (xF 50 e 0 λh=>xL 3 h λh=>xC 133 [.const a,.const f,.const (.int .i64 0),.const h] [54,3,3,3] 0 λ_=>g)<|g)<|xO .add 3 f (.int .i64 1) λh=>d h)<|K (.tuple #[])
theorem W3(a b c:Value):Lk 129 #[a,b,c] (RP a b c):=lk [a,b,c] [(4,[15]),(11,[7]),(18,[]),(21,[32]),(25,[53]),(29,[102])] func129
theorem Mw:Ad prog 129:=bd func129
def QQ(a:Value)(K:rD):rE:=xA 60 λb=>xH a λc=>xF 107 c 2 λc=>xF 102 c 2 λc=>xF 60 c 2 λc=>xL 5 c λc=>xQ (.build 60 #[(0,.const (.int .i32 32)),(2,.const c)]) 60 λc=>xS 60 b c<|xD 60 b λc=>K c
theorem Ub(a:Value):Lk 131 #[a] (QQ a):=lk [a] [] func131
theorem F4:Ad prog 131:=bd func131
def PA(a b c d:Value)(K:rD):rE:=Ag<|Join0 (λe=>xM a λf=>qF 107 f 1 λf=>qL 3 f λg=>qP .sub 3 d c λh=>xM a λi=>qF 107 i 0 λi=>xT (xC 12 [.const a] [54] 50 λj=>xT (qZ 3 f g)<|xT (xQ (.build 42 #[(0,.const c),(1,.const b),(2,.const h),(3,.const (.int .i64 1))]) 42 λl=>xT (qZ 3 f g)<|xC 131 [.const a] [54] 60 λm=>xT (qZ 3 f g)<|xC 183 [.const j,.const l,.const m] [50,42,60] 50 λm=>xT (qZ 3 f g)<|xP (.indexAddr 100 (.const i) (.const g)) 0 λl=>xS 50 l m<|e)<|xC 131 [.const a] [54] 60 λl=>xT (qZ 3 f g)<|xQ (.build 42 #[(0,.const c),(1,.const b),(2,.const h),(3,.const (.int .i64 1))]) 42 λm=>xT (qZ 3 f g)<|xC 183 [.const j,.const m,.const l] [50,42,60] 50 λm=>xT (qZ 3 f g)<|xP (.indexAddr 100 (.const i) (.const g)) 0 λl=>xS 50 l m<|e)<|xQ (.build 42 #[(0,.const c),(1,.const b),(2,.const h),(3,.const (.int .i64 1))]) 42 λl=>xT (qZ 3 f g)<|xC 12 [.const a] [54] 50 λm=>xT (qZ 3 f g)<|xC 131 [.const a] [54] 60 λh=>xT (qZ 3 f g)<|xC 183 [.const m,.const l,.const h] [50,42,60] 50 λh=>xT (qZ 3 f g)<|xP (.indexAddr 100 (.const i) (.const g)) 0 λi=>xS 50 i h<|e)<|K (.tuple #[])
theorem ji(a b c d:Value):Lk 133 #[a,b,c,d] (PA a b c d):=lk [a,b,c,d] [(0,[])] func133
theorem G1:Ad prog 133:=bd func133
def Rn(a b:Value)(K:rD):rE:=xC 12 [.const a] [54] 50 λc=>xA 50 λd=>xS 50 d c<|Loop1 (.int .i64 0) λc e=>Join1 (λf=>xO .lss 3 c b λg=>xW g (xH a λg=>xF 107 g 5 λg=>xL 3 g λg=>xO .lss 3 c g λg=>xW g (xH a λg=>xF 107 g 4 λg=>xL 3 g λg=>xO .eql 3 g (.int .i64 0) λg=>xW g (xH a λg=>xF 107 g 1 λg=>xL 3 g λg=>xO .eql 3 g (.int .i64 0) λg=>f g)<|f (.bool false))<|f (.bool false))<|f (.bool false)) λg=>xW g (Ag<|xM a λg=>qF 107 g 10 λg=>qL 105 g λf=>qL 50 d λh=>xC 39 [.const h,.const c] [50,3] 48 λh=>xT (qZ 105 g f)<|xQ (.buildSlice 105 1 #[(0,.const h)]) 105 λh=>xT (qZ 105 g f)<|xV f h 105 105 105 λh=>xM a λf=>qF 107 f 10 λf=>xS 105 f h<|xO .add 3 c (.int .i64 1) λf=>e f)<|Loop0 λf=>xH a λe=>xF 107 e 10 λe=>xL 105 e λe=>xU e 105 λe=>xO .gtr 3 e (.int .i64 500) λe=>xW e (xH a λe=>xF 107 e 10 λe=>xL 105 e λe=>xQ (.slice 105 (.const e) (some (.const (.int .i64 1))) none none) 105 λe=>xH a λh=>xF 107 h 10 λh=>xS 105 h e<|f)<|Ag<|xM a λh=>qF 107 h 1 λh=>qL 3 h λe=>qL 50 d λf=>xM a λc=>qF 107 c 4 λc=>qL 3 c λg=>xM a λi=>qF 107 i 5 λi=>qL 3 i λj=>xM a λl=>qF 107 l 0 λl=>xC 131 [.const a] [54] 60 λm=>xT (qZ 3 i j)<|xT (qZ 3 c g)<|xT (qZ 50 d f)<|xT (qZ 3 h e)<|xC 130 [.const f,.const g,.const j,.const b,.const m] [50,3,3,3,60] 50 λm=>xT (qZ 3 h e)<|xP (.indexAddr 100 (.const l) (.const e)) 0 λl=>xS 50 l m<|K (.tuple #[])
theorem TC(a b:Value):Lk 134 #[a,b] (Rn a b):=lk [a,b] [(6,[5]),(9,[32]),(19,[])] func134
theorem Hn:Ad prog 134:=bd func134
end Go.Proofs.YtnpkidnbhlepkaaGreat
namespace Lyc
open Go
section
variable {P:Program} {α:Type}
def Oy(w:World)(e:TypeId)(f:α→List Value)(v:Value)(l:List α):Prop:=
 (v=.slice none 0 0∧l=[])∨∃g o a b c d,v=.slice (some ⟨g,o,none⟩) l.length a∧w.heap[g]?=some (.cells (b++l.flatMap f++c++d).toArray e)∧b.length=o∧a=l.length+c.length
variable {w w':World} {e:TypeId} {f:α→List Value} {v:Value} {l:List α}
theorem Oy.nil(w:World)(e:TypeId)(f:α→List Value):Oy w e f (.slice none 0 0) []:=.inl ⟨rfl,rfl⟩
theorem Oy.lt(h:Oy w e f v l):∀b∈v.ownBlock.toList,b<w.heap.size:=by
 rcases h with ⟨rfl,-⟩|⟨g,o,a,c,d,i,rfl,j,-⟩
 ·simp [Value.ownBlock]
 ·simpa [Value.ownBlock] using Aa j
theorem Oy.off(h:Oy w e f v l){t:Nat}{c:Array Value}{e':TypeId}{a:Nat × Nat}(b:w.heap[t]?=some (.cells c e' a))(d:Nat.beq e' e=false):t∉v.ownBlock.toList:=by
 rcases h with ⟨rfl,-⟩|⟨g,o,i,j,k,m,rfl,n,-⟩
 ·simp [Value.ownBlock]
 ·simp only[Value.ownBlock,Option.toList_some,List.mem_singleton];rintro rfl;rw[b] at n;simp only[Option.some.injEq,Obj.cells.injEq] at n;rw[n.2.1,Nat.beq_refl] at d;simp at d
theorem Oy.chg{F:List Nat}(h:Oy w e f v l)(a:Chg F w w')(c:∀b∈v.ownBlock.toList,b∉F):Oy w' e f v l:=by
 rcases h with h|⟨g,o,d,i,j,k,rfl,m,n⟩
 ·exact .inl h
 ·exact .inr ⟨g,o,d,i,j,k,rfl,a.keep m (c g (by simp [Value.ownBlock])),n⟩
theorem Oy.form(h:Oy w e f v l):∃a b,v=.slice a l.length b∧l.length≤b∧Sx w (some e) f a l:=by
 rcases h with ⟨rfl,rfl⟩|⟨g,o,b,c,d,i,rfl,j,k,m⟩
 ·exact⟨none,0,rfl,rH _,Sx.nil ..⟩
 ·exact⟨_,b,rfl,O,⟨λ_=>⟨g,o,_,e,(0,0),c,d++i,rfl,j,by simp [Bz],Z,k⟩⟩⟩
theorem Oy.of_own{base:Nat}{v:Value}(a:∀x,(f x).length=1)(h:w.ownsRow base e 1 v l.length (l.flatMap f)):Oy w e f v l:=by
 rcases h.2 with ⟨rfl,b⟩|⟨g,c,d,rfl,-,i,j,k,m,n⟩
 ·exact .inl ⟨rfl,rQ b⟩
 ·refine .inr ⟨g,0,c,[],d.toList.drop (l.length*1),[],rfl,?_,rfl,?_⟩
  ·rw[i,←n];simp
  ·simp;omega
theorem Oy.begun{x:α}(h:Oy w e f v (x::l)):∃g o a,v=.slice (some ⟨g,o,none⟩) (l.length+1) a∧l.length+1≤a:=by
 rcases h with ⟨-,h⟩|⟨g,o,a,b,c,d,rfl,-,-,i⟩
 ·cases h
 ·exact⟨g,o,a,rfl,by simp at i;omega⟩
theorem Oy.drop(a:∀x,(f x).length=1){x:α}{g o n cap:Nat}(h:Oy w e f (.slice (some ⟨g,o,none⟩) n cap) (x::l)):Oy w e f (.slice (some ⟨g,slo o cap 1 1,none⟩) l.length (cap-1)) l:=by
 rcases h with ⟨h,-⟩|⟨b,c,d,i,j,k,m,p,q,r⟩
 ·cases h
 ·cases m;have s:=a x;simp only[List.length_cons] at r;unfold slo;by_cases t:cap=1
  ·rw[rG t];have u:l=[]:=rQ O;have y:j=[]:=rQ O;subst u y;exact .inr ⟨g,o,cap-1,i,[],f x++k,rfl,by simpa using p,q,by simp;omega⟩
  ·rw[rF t];exact .inr ⟨g,o+1*1,cap-1,i++f x,j,k,rfl,by simpa using p,by simp [s];omega,O⟩
theorem Pa{t d e:TypeId}{k:Nat}{f:α→List Value}{v:Value}{l:List α}{y:α}{u:Value}{b o c:Nat}{K:Value→World→Prop}{w:World}(n:BO P t=some (e,1,k))(p:∀x,(f x).length=1)(h:Oy w e f v l)(q:f y=[u])(r:u.oneCell'=true)(s:As w.heap[b]? o=some u)(A:l.length≤100000)(B:k≤100000)(C:∀D w',Oy w' e f D (l++[y])→Chg v.ownBlock.toList w w'→(D.ownBlock=v.ownBlock∨∃g,D.ownBlock=some g∧w.heap.size≤g)→K D w'):
  OpX P (.call { callee:=.builtin .append,args:=#[.const v,.const (.slice (some ⟨b,o,none⟩) 1 c)],argTypes:=#[t,t] }) d K w:=by
 obtain⟨E,i,z,F,G,H,I,J,L⟩:=EA n;have M:(1000000000:Nat)≤maxLen:=by simp [maxLen]
 have N:∀j Q,([u]:List Value)[j]?=some Q→w.cell? ((⟨b,o,none⟩:Addr).add j)=some Q:=by
  intro j Q R
  match j,R with
  | 0,R =>
   simp at R;subst R;rw[CF,cell?_at];exact s
 have S:=AH (m:=1) p l;rcases h with ⟨rfl,rfl⟩|⟨g,T,U,V,W,X,rfl,Y,A,n⟩
 ·obtain⟨D,w',M,s,h7,_,h8⟩:=run_append_own_at (P:=P) w w.heap.size t d e i z 1 k E F G H I J L (.slice none 0 0) 0 [] (World.ownsRow_nil w _ e 1) ⟨b,o,none⟩ 1 c [u] rfl N (λu' hu'=>by simp at hu';rw[hu'];exact r) O (Nat.le_trans (Nat.mul_le_mul (show 0+1≤1 by omega) B) O) (rH _);rw[Bc (v:=D) (w':=w') λρ Y=>by simp [execOp,Ap,resolve,invoke,builtin,Y.1,M]];refine C _ _ (Oy.of_own p (base:=w.heap.size) (by simpa [q] using s)) (F8 h7) ?_;rcases h8 with h8|h8
  ·exact .inl h8
  ·exact .inr ⟨_,h8,rH _⟩
 ·by_cases hroom:l.length+1≤U
  ·obtain⟨s0,sp',rfl⟩:∃s0 sp',W=s0::sp':=by
    cases W with
    | nil=>simp at n;omega
    | cons a b=>exact⟨a,b,rfl⟩
   have W:As w.heap[g]? (T+l.length)=some s0:=by
    rw[Y,Cp,List.getElem?_toArray,rJ,rJ,rK O,rK O];simp [S,A]
   have M:=run_append_room_cells (P:=P) w t d e i E F g T l.length U ⟨b,o,none⟩ 1 c [u] (by rw[H];rfl) N (λu' hu'=>by simp at hu';rw[hu'];exact r) hroom
    (λj R=>by
     obtain rfl:j=0:=by simp at R;exact R
     rw[cell?_at,H,Nat.mul_one,Nat.add_zero,W];rfl)
    (λj R=>by simp [World.frozen?,Y])
   rw[H,Nat.mul_one] at M;rw[Bc (v:=.slice (some ⟨g,T,none⟩) (l.length+1) U) (w':=w.setCell ⟨g,T+l.length,none⟩ u) λρ r=>by simp [execOp,Ap,resolve,invoke,builtin,r.1,M,World.setCells]];have W:=Aa Y;refine C _ _ (.inr ⟨g,T,U,V,sp',X,Z,?_,A,by simp at n ⊢;omega⟩) ⟨rfl,rfl,rfl,by simp [World.setCell],λk X A=>?_⟩ (.inl rfl)
   ·rw[show(w.setCell ⟨g,T+l.length,none⟩ u).heap=w.heap.modify g (fun
      | .cells c n W=>.cells (c.setIfInBounds (T+l.length) u) n W
      | o=>o) from rfl,Array.getElem?_modify,rG rfl,Y]
    simp only[Option.map_some,Option.some.injEq,Obj.cells.injEq,and_true];apply Array.ext';simp only[Array.toList_setIfInBounds,List.flatMap_append,List.flatMap_cons,List.flatMap_nil,List.append_nil,q];rw[rJ,rJ,List.set_append_right _ _ O,List.set_append_right _ _ O,show T+l.length-V.length-(l.flatMap f).length=0 by omega];simp
   ·rw[show(w.setCell ⟨g,T+l.length,none⟩ u).heap=w.heap.modify g (fun
      | .cells c n W=>.cells (c.setIfInBounds (T+l.length) u) n W
      | o=>o) from rfl,Array.getElem?_modify,rF (λe=>A (by simp [Value.ownBlock,e]))]
  ·obtain⟨D,w',M,s,h7⟩:=run_append_arg_grows (P:=P) w t d e i z 1 k E F G H I J L ⟨g,T,none⟩ l.length U (l.flatMap f) S
    (λj Q R=>by
     have X:=(rO.1 R).1;rw[CF,cell?_at,Y,Cp,List.getElem?_toArray,rJ,rJ,rK O,rL O,←R];congr 1;omega) ⟨b,o,none⟩ 1 c [u] rfl N O O (Nat.le_trans (Nat.mul_le_mul (show l.length+1≤100001 by omega) B) O)
   rw[Bc (v:=D) (w':=w') λρ r=>by simp [execOp,Ap,resolve,invoke,builtin,r.1,M]];refine C _ _ (Oy.of_own p (base:=w.heap.size) (by simpa [q] using s)) ((F8 h7).mono Z) ?_;rcases s.2 with ⟨rfl,d⟩|⟨k,E,F,rfl,G,-⟩
   ·omega
   ·exact .inr ⟨k,rfl,G⟩
end
end Lyc
namespace Go.Proofs.YtnpkidnbhlepkaaGreat
open Lyc Go Go.Proofs.Tryz
def Scm.dend(M:Scm):List Value:=M.S.tabs.map Value.bool++[.bool M.S.wraps,.bool M.S.waits,.bool M.S.shown,M.gv]
def Scm.dcells(M:Scm)(x y:Int):List Value:=
 (.int .i64 M.S.g0.w:Value)::(.int .i64 M.S.g0.h:Value)::(.slice (some ⟨M.b0,0,none⟩) M.S.g0.cs.length M.c0:Value)::(.int .i64 M.S.g1.w:Value)::(.int .i64 M.S.g1.h:Value)::(.slice (some ⟨M.b1,0,none⟩) M.S.g1.cs.length M.c1:Value)::(.int .i64 (Bu M.S.alt):Value)::(.int .i64 x:Value)::(.int .i64 y:Value)::(.int .i32 M.S.now.pen.r:Value)::(.int .u8 M.S.now.pen.fg.toNat:Value)::(.int .u8 M.S.now.pen.bg.toNat:Value)::(.int .u8 M.S.now.pen.a.toNat:Value)::(.int .i64 M.S.s0.x:Value)::(.int .i64 M.S.s0.y:Value)::(.int .i32 M.S.s0.pen.r:Value)::(.int .u8 M.S.s0.pen.fg.toNat:Value)::(.int .u8 M.S.s0.pen.bg.toNat:Value)::(.int .u8 M.S.s0.pen.a.toNat:Value)::(.int .i64 M.S.s1.x:Value)::(.int .i64 M.S.s1.y:Value)::(.int .i32 M.S.s1.pen.r:Value)::(.int .u8 M.S.s1.pen.fg.toNat:Value)::(.int .u8 M.S.s1.pen.bg.toNat:Value)::(.int .u8 M.S.s1.pen.a.toNat:Value)::(.int .i64 M.S.top:Value)::(.int .i64 M.S.fin:Value)::M.dend
def Scm.dobj(M:Scm)(x y:Int):Obj:=.cells (M.dcells x y).toArray 107
theorem Scm.dend_len(M:Scm)(h:M.S.tabs.length=200):M.dend.length=204:=by simp [Scm.dend,h]
theorem Scm.dcells_len(M:Scm)(x y:Int)(h:M.S.tabs.length=200):(M.dcells x y).length=231:=by simp [Scm.dcells,M.dend_len h]
section
variable (M:Scm) (x y:Int)
@[go_sem] theorem Scm.dr:(As (some (M.dobj x y)) 0=some (.int .i64 M.S.g0.w)∧As (some (M.dobj x y)) 1=some (.int .i64 M.S.g0.h)∧As (some (M.dobj x y)) 6=some (.int .i64 (Bu M.S.alt))∧As (some (M.dobj x y)) 7=some (.int .i64 x)∧As (some (M.dobj x y)) 8=some (.int .i64 y))
  ∧ As (some (M.dobj x y)) 11=some (.int .u8 M.S.now.pen.bg.toNat)∧As (some (M.dobj x y)) 25=some (.int .i64 M.S.top)∧As (some (M.dobj x y)) 26=some (.int .i64 M.S.fin):=⟨⟨rfl,rfl,rfl,rfl,rfl⟩,rfl,rfl,rfl⟩
theorem Scm.dTail(i:Nat):As (some (M.dobj x y)) (27+i)=M.dend[i]?:=by
 show(M.dcells x y).toArray[27+i]?=_;rw[List.getElem?_toArray,Nat.add_comm];rfl
@[go_sem] theorem Scm.dt(h:M.S.tabs.length=200):As (some (M.dobj x y)) 227=some (.bool M.S.wraps)∧As (some (M.dobj x y)) 228=some (.bool M.S.waits)∧As (some (M.dobj x y)) 230=some M.gv:=by
 refine⟨?_,?_,?_⟩
 ·rw[show 227=27+200 from rfl,M.dTail,Scm.dend,rK (by simp [h])];simp [h]
 ·rw[show 228=27+201 from rfl,M.dTail,Scm.dend,rK (by simp [h])];simp [h]
 ·rw[show 230=27+203 from rfl,M.dTail,Scm.dend,rK (by simp [h])];simp [h]
@[go_sem] theorem Scm.dTab(i:Nat)(h:M.S.tabs.length=200)(a:i<200):As (some (M.dobj x y)) (27+i)=some (.bool (M.S.tabs.getD i false)):=by
 rw[M.dTail,Scm.dend,rL (by simp;omega),List.getElem?_map,rN,rI O];rfl
@[go_sem] theorem Scm.dCur:AT (some (M.dobj x y)) ((Bu M.S.alt).toNat*3) 3=some #[.int .i64 M.S.cur.w,.int .i64 M.S.cur.h,.slice (some ⟨M.cb,0,none⟩) M.S.cur.cs.length M.cc]:=by
 unfold Scr.cur Scm.cb Scm.cc;cases M.S.alt
 ·refine Cz (l:=[.int .i64 M.S.g0.w,.int .i64 M.S.g0.h,.slice (some ⟨M.b0,0,none⟩) M.S.g0.cs.length M.c0]) rfl O λj a=>?_
  match j,a with
  | 0,_=>rfl
  | 1,_=>rfl
  | 2,_=>rfl
 ·refine Cz (l:=[.int .i64 M.S.g1.w,.int .i64 M.S.g1.h,.slice (some ⟨M.b1,0,none⟩) M.S.g1.cs.length M.c1]) rfl O λj a=>?_
  match j,a with
  | 0,_=>rfl
  | 1,_=>rfl
  | 2,_=>rfl
@[go_sem] theorem Scm.dNow:AT (some (M.dobj x y)) 7 6=some #[.int .i64 x,.int .i64 y,.int .i32 M.S.now.pen.r,.int .u8 M.S.now.pen.fg.toNat,.int .u8 M.S.now.pen.bg.toNat,.int .u8 M.S.now.pen.a.toNat]:=by
 refine Cz (l:=[.int .i64 x,.int .i64 y,.int .i32 M.S.now.pen.r,.int .u8 M.S.now.pen.fg.toNat,.int .u8 M.S.now.pen.bg.toNat,.int .u8 M.S.now.pen.a.toNat]) rfl O λj a=>?_
 match j,a with
 | 0,_=>rfl
 | 1,_=>rfl
 | 2,_=>rfl
 | 3,_=>rfl
 | 4,_=>rfl
 | 5,_=>rfl
@[go_sem] theorem Scm.dPen:AT (some (M.dobj x y)) 9 4=some #[.int .i32 M.S.now.pen.r,.int .u8 M.S.now.pen.fg.toNat,.int .u8 M.S.now.pen.bg.toNat,.int .u8 M.S.now.pen.a.toNat]:=by
 refine Cz (l:=[.int .i32 M.S.now.pen.r,.int .u8 M.S.now.pen.fg.toNat,.int .u8 M.S.now.pen.bg.toNat,.int .u8 M.S.now.pen.a.toNat]) rfl O λj a=>?_
 match j,a with
 | 0,_=>rfl
 | 1,_=>rfl
 | 2,_=>rfl
 | 3,_=>rfl
def AZ(S:Scr):Sav:=bif S.alt then S.s1 else S.s0
@[go_sem] theorem Scm.dKept:AT (some (M.dobj x y)) (13+(Bu M.S.alt).toNat*6) 6=some #[.int .i64 (AZ M.S).x,.int .i64 (AZ M.S).y,.int .i32 (AZ M.S).pen.r,.int .u8 (AZ M.S).pen.fg.toNat,.int .u8 (AZ M.S).pen.bg.toNat,.int .u8 (AZ M.S).pen.a.toNat]:=by
 refine Cz (l:=[.int .i64 (AZ M.S).x,.int .i64 (AZ M.S).y,.int .i32 (AZ M.S).pen.r,.int .u8 (AZ M.S).pen.fg.toNat,.int .u8 (AZ M.S).pen.bg.toNat,.int .u8 (AZ M.S).pen.a.toNat]) rfl O λj a=>?_;unfold AZ;cases M.S.alt<;>match j,a with
 | 0,_=>rfl
 | 1,_=>rfl
 | 2,_=>rfl
 | 3,_=>rfl
 | 4,_=>rfl
 | 5,_=>rfl
theorem Scm.dput{M:Scm}{x y:Int}(a:Scm)(x' b:Int)(o:Nat)(vs:List Value)(h:M.S.tabs.length=200)(c:o+vs.length≤231)(d:(M.dcells x y).take o++vs++(M.dcells x y).drop (o+vs.length)=a.dcells x' b):Ao (some (M.dobj x y)) o vs=some (a.dobj x' b):=by
 unfold Scm.dobj;rw[EX,rG (by simp [M.dcells_len x y h];omega)];rw[J6,d]
@[go_sem] theorem Scm.dwX(x':Int)(h:M.S.tabs.length=200):Ao (some (M.dobj x y)) 7 [.int .i64 x']=some (M.dobj x' y):=Scm.dput _ _ _ 7 _ h Z rfl
@[go_sem] theorem Scm.dwY(a:Int)(h:M.S.tabs.length=200):Ao (some (M.dobj x y)) 8 [.int .i64 a]=some (M.dobj x a):=Scm.dput _ _ _ 8 _ h Z rfl
@[go_sem] theorem Scm.dwNow(x' c r:Int)(f b a:BitVec 8)(h:M.S.tabs.length=200):Ao (some (M.dobj x y)) 7 [.int .i64 x',.int .i64 c,.int .i32 r,.int .u8 (f.toNat:Int),.int .u8 (b.toNat:Int),.int .u8 (a.toNat:Int)]=some (({ M with S:={ M.S with now:={ M.S.now with pen:=⟨r,f,b,a⟩ } } }:Scm).dobj x' c):=Scm.dput _ _ _ 7 _ h Z rfl
@[go_sem] theorem Scm.dwPen(r:Int)(f b a:BitVec 8)(h:M.S.tabs.length=200):Ao (some (M.dobj x y)) 9 [.int .i32 r,.int .u8 (f.toNat:Int),.int .u8 (b.toNat:Int),.int .u8 (a.toNat:Int)]=some (({ M with S:={ M.S with now:={ M.S.now with pen:=⟨r,f,b,a⟩ } } }:Scm).dobj x y):=Scm.dput _ _ _ 9 _ h Z rfl
def C0(S:Scr)(s:Sav):Scr:=bif S.alt then { S with s1:=s } else { S with s0:=s }
theorem Scm.dwKept(s:Sav)(h:M.S.tabs.length=200):Ao (some (M.dobj x y)) (13+(Bu M.S.alt).toNat*6) [.int .i64 (s.x:Int),.int .i64 (s.y:Int),.int .i32 s.pen.r,.int .u8 (s.pen.fg.toNat:Int),.int .u8 (s.pen.bg.toNat:Int),.int .u8 (s.pen.a.toNat:Int)]=some (({ M with S:=C0 M.S s }:Scm).dobj x y):=by
 unfold C0;rcases Bool.eq_false_or_eq_true M.S.alt with a|a<;>rw[a]
 ·exact Scm.dput _ _ _ 19 _ h Z (by simp only[Scm.dcells,a];rfl)
 ·exact Scm.dput _ _ _ 13 _ h Z (by simp only[Scm.dcells,a];rfl)
@[go_sem] theorem Scm.dwAlt(h:M.S.tabs.length=200):Ao (some (M.dobj x y)) 6 [.int .i64 0]=some (({ M with S:={ M.S with alt:=false } }:Scm).dobj x y)∧Ao (some (M.dobj x y)) 6 [.int .i64 1]=some (({ M with S:={ M.S with alt:=true } }:Scm).dobj x y):=⟨Scm.dput _ _ _ 6 _ h Z rfl,Scm.dput _ _ _ 6 _ h Z rfl⟩
@[go_sem] theorem Scm.dwTop(n:Nat)(h:M.S.tabs.length=200):Ao (some (M.dobj x y)) 25 [.int .i64 (n:Int)]=some (({ M with S:={ M.S with top:=n } }:Scm).dobj x y):=Scm.dput _ _ _ 25 _ h Z rfl
@[go_sem] theorem Scm.dwFin(n:Nat)(h:M.S.tabs.length=200):Ao (some (M.dobj x y)) 26 [.int .i64 (n:Int)]=some (({ M with S:={ M.S with fin:=n } }:Scm).dobj x y):=Scm.dput _ _ _ 26 _ h Z rfl
theorem Scm.dwG1(G:Gr)(b c:Nat)(p:List Value)(h:M.S.tabs.length=200):Ao (some (M.dobj x y)) 3 [.int .i64 G.w,.int .i64 G.h,.slice (some ⟨b,0,none⟩) G.cs.length c]=some (({ M with S:={ M.S with g1:=G },b1:=b,c1:=c,p1:=p }:Scm).dobj x y):=Scm.dput _ _ _ 3 _ h Z rfl
theorem Scm.dwCur(G:Gr)(b c:Nat)(p:List Value)(h:M.S.tabs.length=200):Ao (some (M.dobj x y)) ((Bu M.S.alt).toNat*3) [.int .i64 G.w,.int .i64 G.h,.slice (some ⟨b,0,none⟩) G.cs.length c]=some ((M.setCur G b c p).dobj x y):=by
 unfold Scm.setCur;rcases Bool.eq_false_or_eq_true M.S.alt with a|a<;>rw[a]
 ·exact M.dwG1 x y G b c p h
 ·exact Scm.dput _ _ _ 0 _ h Z rfl
theorem Scm.dputTail(a:Scm)(i:Nat)(v:Value)(h:M.S.tabs.length=200)(b:i<204)(c:(M.dcells x y).take 27=(a.dcells x y).take 27)(d:M.dend.set i v=a.dend):Ao (some (M.dobj x y)) (27+i) [v]=some (a.dobj x y):=by
 have e:M.dcells x y=(M.dcells x y).take 27++M.dend:=rfl;have f:a.dcells x y=(a.dcells x y).take 27++a.dend:=rfl;have g:=M.dend_len h;refine Scm.dput _ _ _ (27+i) _ h (by simp;omega) ?_;rw[f,←c,←d];generalize j:(M.dcells x y).take 27=p at *;have k:p.length=27:=by rw[←j];rfl
 rw[e,List.take_append,List.drop_append];simp only[k,List.length_singleton];rw[List.take_of_length_le O,show 27+i-27=i by omega,List.drop_eq_nil_of_le O,show 27+i+1-27=i+1 by omega,List.set_eq_take_append_cons_drop,rG O];simp
@[go_sem] theorem Scm.dwTab(i:Nat)(b:Bool)(h:M.S.tabs.length=200)(a:i<200):Ao (some (M.dobj x y)) (27+i) [.bool b]=some (({ M with S:={ M.S with tabs:=M.S.tabs.set i b } }:Scm).dobj x y):=
 M.dputTail x y _ i _ h O rfl (by simp only[Scm.dend];rw[List.set_append_left _ _ (by simp;omega),List.map_set])
@[go_sem] theorem Scm.dw(b:Bool)(h:M.S.tabs.length=200):Ao (some (M.dobj x y)) 227 [.bool b]=some (({ M with S:={ M.S with wraps:=b } }:Scm).dobj x y)∧Ao (some (M.dobj x y)) 228 [.bool b]=some (({ M with S:={ M.S with waits:=b } }:Scm).dobj x y)∧Ao (some (M.dobj x y)) 229 [.bool b]=some (({ M with S:={ M.S with shown:=b } }:Scm).dobj x y):=by
 refine⟨?_,?_,?_⟩
 ·exact M.dputTail x y _ 200 _ h O rfl (by simp only[Scm.dend];rw[List.set_append_right _ _ (by simp [h])];simp [h])
 ·exact M.dputTail x y _ 201 _ h O rfl (by simp only[Scm.dend];rw[List.set_append_right _ _ (by simp [h])];simp [h])
 ·exact M.dputTail x y _ 202 _ h O rfl (by simp only[Scm.dend];rw[List.set_append_right _ _ (by simp [h])];simp [h])
theorem Scm.dwGv(v:Value)(l:List Rw)(h:M.S.tabs.length=200):Ao (some (M.dobj x y)) 230 [v]=some (({ M with gv:=v,rows:=l }:Scm).dobj x y):=
 M.dputTail x y _ 203 _ h O rfl (by simp only[Scm.dend];rw[List.set_append_right _ _ (by simp [h])];simp [h])
end
set_option maxRecDepth 100000
def OJ(a b c:Value)(K:rD):rE:=xB 50 a λd=>xA 60 λe=>xL 50 d λd=>xC 39 [.const d,.const c] [50,3] 48 λd=>Join1 (λf=>xO .lss 3 b (.int .i64 0) λg=>xW g (f (.bool true))<|xU d 48 λg=>xO .geq 3 b g λg=>f g) λg=>xW g (xQ (.build 60 #[]) 60 λg=>xS 60 e g<|xD 60 e λg=>K g)<|xI 48 d b λg=>xL 60 g λg=>xS 60 e g<|xD 60 e λg=>K g
theorem ed(a b c:Value):Lk 13 #[a,b,c] (OJ a b c):=lk [a,b,c] [(6,[18])] func13
theorem RW:Ad prog 13:=bd func13
def KR(a b:Value)(K:rD):rE:=xB 50 a λc=>Ag<|Join1 (λd=>qP .lss 3 b (.int .i64 0) λe=>xW e (d (.bool true))<|qF 50 c 1 λe=>qL 3 e λe=>qP .geq 3 b e λe=>xW e (d (.bool true))<|qF 50 c 0 λe=>qL 3 e λe=>qP .lss 3 e (.int .i64 1) λe=>xW e (d (.bool true))<|qF 50 c 1 λe=>qL 3 e λe=>qF 50 c 2 λf=>qL 48 f λf=>xR (.call { callee:=.builtin .len,args:=#[.const f],argTypes:=#[48] }) 3 λf=>qF 50 c 0 λg=>qL 3 g λg=>qP .quo 3 f g λg=>qP .gtr 3 e g λg=>d g) λg=>xW g (K (.slice none 0 0))<|xQ (.buildSlice 48 0 #[]) 48 λg=>xF 50 c 2 λd=>xL 48 d λd=>xF 50 c 0 λe=>xL 3 e λe=>xO .mul 3 b e λe=>xF 50 c 0 λf=>xL 3 f λf=>xO .mul 3 b f λf=>xF 50 c 0 λc=>xL 3 c λc=>xO .add 3 f c λc=>xQ (.slice 48 (.const d) (some (.const e)) (some (.const c)) none) 48 λc=>xV g c 48 48 48 λc=>K c
theorem Tt(a b:Value):Lk 39 #[a,b] (KR a b):=lk [a,b] [(4,[28])] func39
theorem Hu:Ad prog 39:=bd func39
def Qc(a b:Value)(K:rD):rE:=xA 50 λc=>xC 115 [.const a,.const b] [3,3] 4 λd=>xN 4 d λd=>xW d (xQ (.build 50 #[]) 50 λd=>xS 50 c d<|xD 50 c λd=>K d)<|xQ (.build 50 #[(0,.const a),(1,.const b)]) 50 λd=>xA 50 λe=>xS 50 e d<|Loop1 (.int .i64 0) λd f=>xO .mul 3 a b λg=>xO .lss 3 d g λg=>xW g (Ag<|qF 50 e 2 λg=>qL 48 g λh=>xC 116 [] [] 60 λi=>xT (qZ 48 g h)<|xQ (.buildSlice 48 1 #[(0,.const i)]) 48 λi=>xT (qZ 48 g h)<|xV h i 48 48 48 λi=>qF 50 e 2 λh=>xS 48 h i<|xO .add 3 d (.int .i64 1) λh=>f h)<|xL 50 e λh=>xS 50 c h<|xD 50 c λh=>K h
theorem Vb(a b:Value):Lk 59 #[a,b] (Qc a b):=lk [a,b] [(18,[7])] func59
theorem Kg:Ad prog 59:=bd func59
def Ru(a b:Value)(K:rD):rE:=Join1 (λc=>xO .geq 3 a (.int .i64 1) λd=>xW d (xO .leq 3 a (.int .i64 200) λd=>xW d (xO .geq 3 b (.int .i64 1) λd=>xW d (xO .leq 3 b (.int .i64 60) λd=>c d)<|c (.bool false))<|c (.bool false))<|c (.bool false)) λd=>K d
theorem Wg(a b:Value):Lk 115 #[a,b] (Ru a b):=lk [a,b] [(3,[4])] func115
theorem Pm:Ad prog 115:=bd func115
def OE(a b c d:Value)(K:rD):rE:=xB 50 a λe=>xA 50 λf=>xL 50 e λg=>xC 176 [.const g] [50] 4 λg=>Join1 (λh=>xN 4 g λg=>xW g (h (.bool true))<|xO .lss 3 c (.int .i64 0) λg=>xW g (h (.bool true))<|xF 50 e 1 λg=>xL 3 g λg=>xO .geq 3 c g λg=>h g) λg=>xW g (xL 50 e λg=>xS 50 f g<|xD 50 f λg=>K g)<|xF 50 e 1 λg=>xL 3 g λg=>xQ (.makeSlice 260 (.const g) (.const g)) 260 λg=>xI 260 g c λh=>xS 4 h (.bool true)<|xQ (.buildSlice 48 0 #[]) 48 λh=>xF 50 e 2 λi=>xL 48 i λi=>xV h i 48 48 48 λi=>Loop1 (.int .i64 0) λh j=>xU d 48 λl=>xO .lss 3 h l λl=>xW l (Join1 (λl=>xO .geq 3 b (.int .i64 0) λm=>xW m (xF 50 e 0 λm=>xL 3 m λm=>xO .sub 3 m h λm=>xO .lss 3 b m λm=>xW m (l (.bool true))<|xO .lss 3 b (.int .i64 0) λm=>xW m (xO .add 3 b h λm=>xO .geq 3 m (.int .i64 0) λm=>xW m (xO .add 3 b h λm=>xF 50 e 0 λn=>xL 3 n λn=>xO .lss 3 m n λn=>l n)<|l (.bool false))<|l (.bool false))<|xO .lss 3 b (.int .i64 0) λn=>xW n (xO .add 3 b h λn=>xO .geq 3 n (.int .i64 0) λn=>xW n (xO .add 3 b h λn=>xF 50 e 0 λm=>xL 3 m λm=>xO .lss 3 n m λm=>l m)<|l (.bool false))<|l (.bool false)) λm=>xW m (Ag<|qF 50 e 0 λm=>qL 3 m λm=>qP .mul 3 c m λm=>qP .add 3 m b λm=>qP .add 3 m h λm=>xP (.indexAddr 48 (.const d) (.const h)) 0 λl=>qL 60 l λl=>xP (.indexAddr 48 (.const i) (.const m)) 0 λm=>xS 60 m l<|xO .add 3 h (.int .i64 1) λm=>j m)<|xO .add 3 h (.int .i64 1) λm=>j m)<|xF 50 e 0 λm=>xL 3 m λm=>xF 50 e 1 λe=>xL 3 e λe=>xC 177 [.const m,.const e,.const g,.const i] [3,3,260,48] 50 λe=>xS 50 f e<|xD 50 f λe=>K e
theorem UW(a b c d:Value):Lk 119 #[a,b,c,d] (OE a b c d):=lk [a,b,c,d] [(6,[26]),(22,[12]),(32,[71])] func119
theorem gp:Ad prog 119:=bd func119
def Tj(a b c d e:Value)(K:rD):rE:=xB 50 a λf=>xB 60 e λg=>xA 50 λh=>xL 50 f λi=>xC 176 [.const i] [50] 4 λi=>xL 60 g λj=>xC 181 [.const j] [60] 4 λj=>Join1 (λl=>xN 4 i λi=>xW i (l (.bool true))<|xN 4 j λi=>l i) λi=>xW i (xL 50 f λi=>xS 50 h i<|xD 50 h λi=>K i)<|xF 50 f 1 λi=>xL 3 i λi=>xC 182 [.const b,.const (.int .i64 0),.const i] [3,3,3] 3 λi=>xF 50 f 1 λl=>xL 3 l λl=>xC 182 [.const c,.const (.int .i64 0),.const l] [3,3,3] 3 λl=>xC 182 [.const d,.const (.int .i64 (-100)),.const (.int .i64 100)] [3,3,3] 3 λj=>xQ (.buildSlice 48 0 #[]) 48 λm=>xF 50 f 2 λn=>xL 48 n λn=>xV m n 48 48 48 λn=>Loop1 i λm o=>xO .lss 3 m l λp=>xW p (Loop1 (.int .i64 0) λp q=>xF 50 f 0 λr=>xL 3 r λr=>xO .lss 3 p r λr=>xW r (Join0 (λr=>xF 50 f 0 λs=>xL 3 s λs=>xO .mul 3 m s λs=>xO .add 3 s p λs=>xL 60 g λg=>xI 48 n s λs=>xS 60 s g<|Join1 (λs=>xO .add 3 m j λg=>xO .geq 3 g i λg=>xW g (xO .add 3 m j λg=>xO .lss 3 g l λg=>s g)<|s (.bool false)) λg=>xW g (Ag<|qF 50 f 0 λg=>qL 3 g λg=>qP .mul 3 m g λg=>qP .add 3 g p λg=>qF 50 f 2 λs=>qL 48 s λs=>qP .add 3 m j λj=>qF 50 f 0 λl=>qL 3 l λl=>qP .mul 3 j l λl=>qP .add 3 l p λl=>xP (.indexAddr 48 (.const s) (.const l)) 0 λl=>qL 60 l λl=>xP (.indexAddr 48 (.const n) (.const g)) 0 λg=>xS 60 g l<|r)<|r)<|xO .add 3 p (.int .i64 1) λg=>q g)<|xO .add 3 m (.int .i64 1) λg=>o g)<|Ag<|qF 50 f 0 λg=>qL 3 g λo=>qF 50 f 1 λq=>qL 3 q λm=>qF 50 f 1 λf=>qL 3 f λf=>xQ (.makeSlice 260 (.const f) (.const f)) 260 λf=>xT (qZ 3 q m)<|xT (qZ 3 g o)<|xC 177 [.const o,.const m,.const f,.const n] [3,3,260,48] 50 λf=>xS 50 h f<|xD 50 h λf=>K f
theorem dN(a b c d e:Value):Lk 130 #[a,b,c,d,e] (Tj a b c d e):=lk [a,b,c,d,e] [(8,[25]),(26,[14]),(38,[15]),(45,[]),(50,[73])] func130
theorem KW:Ad prog 130:=bd func130
def Qi(a b c d e:Value)(K:rD):rE:=xB 50 a λf=>xB 60 e λg=>xA 50 λh=>xL 50 f λi=>xC 176 [.const i] [50] 4 λi=>xL 60 g λj=>xC 181 [.const j] [60] 4 λj=>Join1 (λl=>xN 4 i λi=>xW i (l (.bool true))<|xN 4 j λi=>xW i (l (.bool true))<|xO .lss 3 c (.int .i64 0) λi=>xW i (l (.bool true))<|xF 50 f 1 λi=>xL 3 i λi=>xO .geq 3 c i λi=>l i) λi=>xW i (xL 50 f λi=>xS 50 h i<|xD 50 h λi=>K i)<|xF 50 f 0 λi=>xL 3 i λi=>xC 182 [.const b,.const (.int .i64 0),.const i] [3,3,3] 3 λi=>xC 182 [.const d,.const (.int .i64 (-300)),.const (.int .i64 300)] [3,3,3] 3 λl=>xF 50 f 1 λj=>xL 3 j λj=>xQ (.makeSlice 260 (.const j) (.const j)) 260 λj=>xI 260 j c λm=>xS 4 m (.bool true)<|xQ (.buildSlice 48 0 #[]) 48 λm=>xF 50 f 2 λn=>xL 48 n λn=>xV m n 48 48 48 λn=>Loop1 i λm o=>xF 50 f 0 λp=>xL 3 p λp=>xO .lss 3 m p λp=>xW p (Join0 (λp=>xF 50 f 0 λq=>xL 3 q λq=>xO .mul 3 c q λq=>xO .add 3 q m λq=>xL 60 g λg=>xI 48 n q λq=>xS 60 q g<|Join1 (λq=>xO .sub 3 m l λg=>xO .geq 3 g i λg=>xW g (xO .sub 3 m l λg=>xF 50 f 0 λi=>xL 3 i λi=>xO .lss 3 g i λi=>q i)<|q (.bool false)) λi=>xW i (Ag<|qF 50 f 0 λi=>qL 3 i λi=>qP .mul 3 c i λi=>qP .add 3 i m λi=>qF 50 f 2 λq=>qL 48 q λq=>qF 50 f 0 λg=>qL 3 g λg=>qP .mul 3 c g λg=>qP .add 3 g m λg=>qP .sub 3 g l λg=>xP (.indexAddr 48 (.const q) (.const g)) 0 λg=>qL 60 g λg=>xP (.indexAddr 48 (.const n) (.const i)) 0 λi=>xS 60 i g<|p)<|p)<|xO .add 3 m (.int .i64 1) λi=>o i)<|xF 50 f 0 λi=>xL 3 i λi=>xF 50 f 1 λf=>xL 3 f λf=>xC 177 [.const i,.const f,.const j,.const n] [3,3,260,48] 50 λf=>xS 50 h f<|xD 50 h λf=>K f
theorem gT(a b c d e:Value):Lk 132 #[a,b,c,d,e] (Qi a b c d e):=lk [a,b,c,d,e] [(8,[35]),(28,[15]),(35,[]),(40,[81])] func132
theorem SD:Ad prog 132:=bd func132
def Ta(a:Value)(K:rD):rE:=xB 50 a λb=>xF 50 b 0 λc=>xL 3 c λc=>xF 50 b 1 λd=>xL 3 d λd=>xC 115 [.const c,.const d] [3,3] 4 λd=>Join1 (λc=>xN 4 d λd=>xW d (c (.bool true))<|xF 50 b 2 λd=>xL 48 d λd=>xU d 48 λd=>xF 50 b 0 λe=>xL 3 e λe=>xF 50 b 1 λf=>xL 3 f λf=>xO .mul 3 e f λf=>xO .neq 3 d f λf=>c f) λf=>xW f (K (.bool false))<|Loop1 (.int .i64 0) λf c=>xF 50 b 1 λd=>xL 3 d λd=>xO .lss 3 f d λd=>xW d (xL 50 b λd=>xC 39 [.const d,.const f] [50,3] 48 λd=>xC 224 [.const d] [48] 4 λd=>xN 4 d λd=>xW d (K (.bool false))<|xO .add 3 f (.int .i64 1) λd=>c d)<|K (.bool true)
theorem au(a:Value):Lk 176 #[a] (Ta a):=lk [a] [(6,[23]),(16,[4])] func176
theorem H5:Ad prog 176:=bd func176
def QM(a b c d:Value)(K:rD):rE:=xA 50 λe=>xQ (.build 50 #[(0,.const a),(1,.const b)]) 50 λf=>xA 50 λg=>xS 50 g f<|Loop1 (.int .i64 0) λf h=>xO .lss 3 f b λi=>xW i (xO .mul 3 f a λi=>xO .mul 3 f a λj=>xO .add 3 j a λj=>xQ (.slice 48 (.const d) (some (.const i)) (some (.const j)) none) 48 λj=>Join1 (λi=>xI 260 c f λl=>xL 4 l λl=>xW l (xC 71 [.const j] [48] 48 λl=>i l)<|i j) λl=>xF 50 g 2 λi=>xL 48 i λi=>xV i l 48 48 48 λi=>xF 50 g 2 λl=>xS 48 l i<|xO .add 3 f (.int .i64 1) λl=>h l)<|xL 50 g λl=>xS 50 e l<|xD 50 e λl=>K l
theorem eo(a b c d:Value):Lk 177 #[a,b,c,d] (QM a b c d):=lk [a,b,c,d] [(8,[10]),(19,[11])] func177
theorem HS:Ad prog 177:=bd func177
def Lq(a:Value)(K:rD):rE:=xB 60 a λb=>Join1 (λc=>xL 60 b λd=>xC 138 [.const d] [60] 4 λd=>xW d (xF 60 b 3 λd=>xL 5 d λd=>xO .lss 5 d (.int .u8 64) λd=>c d)<|c (.bool false)) λd=>K d
theorem eY(a:Value):Lk 181 #[a] (Lq a):=lk [a] [(3,[2])] func181
theorem I4:Ad prog 181:=bd func181
def LD(a b c:Value)(K:rD):rE:=xO .lss 3 a b λd=>xW d (K b)<|xO .gtr 3 a c λd=>xW d (K c)<|K a
theorem Ze(a b c:Value):Lk 182 #[a,b,c] (LD a b c):=lk [a,b,c] [] func182
theorem F5:Ad prog 182:=bd func182
def RN(a b c:Value)(K:rD):rE:=xB 50 a λd=>xB 42 b λe=>xB 60 c λf=>xA 50 λg=>xL 50 d λh=>xC 176 [.const h] [50] 4 λh=>xL 60 f λi=>xC 181 [.const i] [60] 4 λi=>Join1 (λj=>xN 4 h λh=>xW h (j (.bool true))<|xN 4 i λh=>j h) λh=>xW h (xL 50 d λh=>xS 50 g h<|xD 50 g λh=>K h)<|xF 50 d 1 λh=>xL 3 h λh=>xQ (.makeSlice 260 (.const h) (.const h)) 260 λh=>xQ (.buildSlice 48 0 #[]) 48 λj=>xF 50 d 2 λi=>xL 48 i λi=>xV j i 48 48 48 λi=>Loop1 (.int .i64 0) λj l=>xF 50 d 1 λm=>xL 3 m λm=>xO .lss 3 j m λm=>xW m (Loop1 (.int .i64 0) λm n=>xF 50 d 0 λo=>xL 3 o λo=>xO .lss 3 m o λo=>xW o (Join0 (λo=>xF 42 e 0 λp=>xL 3 p λp=>xF 42 e 2 λq=>xL 3 q λq=>xC 225 [.const m,.const p,.const q] [3,3,3] 4 λq=>xF 42 e 1 λp=>xL 3 p λp=>xF 42 e 3 λe=>xL 3 e λe=>xC 225 [.const j,.const p,.const e] [3,3,3] 4 λe=>Join1 (λp=>xW q (p e)<|p (.bool false)) λp=>xW p (xI 260 h j λp=>xS 4 p (.bool true)<|xF 50 d 0 λp=>xL 3 p λp=>xO .mul 3 j p λp=>xO .add 3 p m λp=>xL 60 f λf=>xI 48 i p λp=>xS 60 p f<|o)<|o)<|xO .add 3 m (.int .i64 1) λp=>n p)<|xO .add 3 j (.int .i64 1) λp=>l p)<|xF 50 d 0 λp=>xL 3 p λp=>xF 50 d 1 λd=>xL 3 d λd=>xC 177 [.const p,.const d,.const h,.const i] [3,3,260,48] 50 λd=>xS 50 g d<|xD 50 g λd=>K d
theorem gR(a b c:Value):Lk 183 #[a,b,c] (RN a b c):=lk [a,b,c] [(8,[24]),(22,[11]),(34,[12]),(41,[]),(48,[60])] func183
theorem jB:Ad prog 183:=bd func183
def Nt(a b c:Value)(K:rD):rE:=Join1 (λd=>xO .geq 3 a b λe=>xW e (xO .gtr 3 c (.int .i64 0) λe=>xW e (xO .lss 3 b (.int .i64 0) λe=>xW e (xO .geq 3 b (.int .i64 0) λe=>xW e (d (.bool true))<|xO .add 3 b c λe=>xO .lss 3 a e λe=>d e)<|xO .sub 3 a b λe=>xO .lss 3 e c λe=>xW e (xO .geq 3 b (.int .i64 0) λe=>xW e (d (.bool true))<|xO .add 3 b c λe=>xO .lss 3 a e λe=>d e)<|d (.bool false))<|d (.bool false))<|d (.bool false)) λe=>K e
theorem UX(a b c:Value):Lk 225 #[a,b,c] (Nt a b c):=lk [a,b,c] [(3,[6])] func225
theorem Se:Ad prog 225:=bd func225
theorem Tk(x:BitVec 8):(x.toNat:Int).tmod 64=((x &&& 63#8).toNat:Int):=by
 have h:∀x:BitVec 8,x.toNat % 64=(x &&& 63#8).toNat:=by decide +kernel
 rw[show(64:Int)=((64:Nat):Int) from rfl,←Int.ofNat_tmod,h]
theorem Nf(x:BitVec 8):(x &&& 63#8).toNat<64:=by
 have h:∀x:BitVec 8,(x &&& 63#8).toNat<64:=by decide +kernel
 exact h x
theorem VM(x:BitVec 8):((x &&& 63#8).toNat:Int)+64=(((x &&& 63#8) ||| 64#8).toNat:Int):=by
 have h:∀x:BitVec 8,(x &&& 63#8).toNat+64=((x &&& 63#8) ||| 64#8).toNat:=by decide +kernel
 have:=h x;omega
theorem Yj(x:BitVec 8):((x &&& 63#8).toNat:Int)+128=(((x &&& 63#8) ||| 128#8).toNat:Int):=by
 have h:∀x:BitVec 8,(x &&& 63#8).toNat+128=((x &&& 63#8) ||| 128#8).toNat:=by decide +kernel
 have:=h x;omega
theorem aq(x:BitVec 8):((x &&& 63#8) ||| 64#8) &&& 63#8=x &&& 63#8:=by
 have h:∀x:BitVec 8,((x &&& 63#8) ||| 64#8) &&& 63#8=x &&& 63#8:=by decide +kernel
 exact h x
theorem UQ(w:World)(r:Int):Calls prog 174 #[.int .i32 r] w (Ac λv w'=>v=.bool (decide (r<0∨1114111<r∨(55296≤r∧r≤57343)))∧w'=w):=by
 apply gH;intro K hK;unfold Nj;refine Join1.inl ?_;refine sn ?_;refine sd (λh1=>?_) (λh1=>?_)
 ·exact hK _ _ ⟨by simp [h1],rfl⟩
 ·refine sn ?_;refine sd (λh2=>?_) (λh2=>?_)
  ·exact hK _ _ ⟨by simp [h2],rfl⟩
  ·refine sn ?_;refine sd (λh3=>?_) (λh3=>?_)
   ·refine sn ?_;refine hK _ _ ⟨?_,rfl⟩;congr 1;simp [h1,h2,h3]
   ·refine sn ?_;refine hK _ _ ⟨?_,rfl⟩;congr 1;simp [h1,h2,h3]
theorem Ci(w:World)(r a b:Int)(h1:-2147483648≤r)(h2:r≤2147483647):Calls prog 175 #[.int .i32 r,.int .i64 a,.int .i64 b] w (Ac λv w'=>v=.bool (decide (a≤r∧r≤b))∧w'=w):=by
 apply eS;intro K hK;unfold Sp;refine Join1.inl ?_;refine sn ?_;refine sd (λh3=>?_) (λh3=>?_)
 ·refine sn ?_;exact hK _ _ ⟨by simp [h3],rfl⟩
 ·refine sn ?_;exact hK _ _ ⟨by simp [h3],rfl⟩
def w0(r:Int):Prop:=(r<0∨1114111<r∨(55296≤r∧r≤57343))∨r<32∨(127≤r∧r≤159)∨(768≤r∧r≤879)∨(8203≤r∧r≤8207)∨(65024≤r∧r≤65039)
def w2(r:Int):Prop:=(4352≤r∧r≤4447)∨(11904≤r∧r≤12350)∨(12353≤r∧r≤42191)∨(44032≤r∧r≤55203)∨(63744≤r∧r≤64255)∨(65072≤r∧r≤65135)∨(65281≤r∧r≤65376)∨(65504≤r∧r≤65510)∨(127744≤r∧r≤128591)∨(129280≤r∧r≤129535)∨(131072≤r∧r≤262141)
instance (r:Int):Decidable (w0 r):=by unfold w0;infer_instance
instance (r:Int):Decidable (w2 r):=by unfold w2;infer_instance
theorem eJ{r:Int}(h:w0 r):AN r=0:=by
 unfold w0 at h;simp only[AN,BE,Ch]
 repeat' split
 all_goals first|rfl|omega
theorem VF{r:Int}(a:¬w0 r)(h:w2 r):AN r=2:=by
 unfold w0 at a;unfold w2 at h;simp only[AN,BE,Ch]
 repeat' split
 all_goals first|rfl|omega
theorem bj{r:Int}(a:¬w0 r)(h:¬w2 r):AN r=1:=by
 unfold w0 at a;unfold w2 at h;simp only[AN,BE,Ch]
 repeat' split
 all_goals first|rfl|omega
theorem IS(w:World)(r:Int)(h1:-2147483648≤r)(h2:r≤2147483647):Calls prog 117 #[.int .i32 r] w (Ac λv w'=>v=.int .i64 (AN r)∧w'=w):=by
 apply Uj;intro K hK;unfold K6;refine sh (λv w'=>v=.bool (decide (w0 r))∧w'=w) ?_ ?_
 ·refine td YF rfl (UQ w r) ?_;rintro v w1 ⟨rfl,rfl⟩;refine sd (λh=>⟨by simp [w0,h],rfl⟩) (λh3=>?_);refine sn ?_;refine sd (λh=>⟨by simp [w0,h],rfl⟩) (λh4=>?_);refine td Cg rfl (Ci _ r 127 159 h1 h2) ?_;rintro v w1 ⟨rfl,rfl⟩;refine sd (λh=>⟨by simp [w0,h],rfl⟩) (λh5=>?_);refine td Cg rfl (Ci _ r 768 879 h1 h2) ?_;rintro v w1 ⟨rfl,rfl⟩;refine sd (λh=>⟨by simp [w0,h],rfl⟩) (λh6=>?_);refine td Cg rfl (Ci _ r 8203 8207 h1 h2) ?_;rintro v w1 ⟨rfl,rfl⟩;refine sd (λh=>⟨by simp [w0,h],rfl⟩) (λh7=>?_);refine td Cg rfl (Ci _ r 65024 65039 h1 h2) ?_;rintro v w1 ⟨rfl,rfl⟩;refine⟨?_,rfl⟩;congr 1;unfold w0;simp only[h3,h4,h5,h6,h7,false_or]
 ·rintro v w1 ⟨rfl,rfl⟩;refine sd (λh=>hK _ _ ⟨by rw[eJ h],rfl⟩) (λh0=>?_);refine sh (λv w'=>v=.bool (decide (w2 r))∧w'=w1) ?_ ?_
  ·refine td Cg rfl (Ci _ r 4352 4447 h1 h2) ?_;rintro v w1 ⟨rfl,rfl⟩;refine sd (λh=>⟨by simp [w2,h],rfl⟩) (λh3=>?_);refine td Cg rfl (Ci _ r 11904 12350 h1 h2) ?_;rintro v w1 ⟨rfl,rfl⟩;refine sd (λh=>⟨by simp [w2,h],rfl⟩) (λh4=>?_);refine td Cg rfl (Ci _ r 12353 42191 h1 h2) ?_;rintro v w1 ⟨rfl,rfl⟩;refine sd (λh=>⟨by simp [w2,h],rfl⟩) (λh5=>?_);refine td Cg rfl (Ci _ r 44032 55203 h1 h2) ?_;rintro v w1 ⟨rfl,rfl⟩;refine sd (λh=>⟨by simp [w2,h],rfl⟩) (λh6=>?_);refine td Cg rfl (Ci _ r 63744 64255 h1 h2) ?_;rintro v w1 ⟨rfl,rfl⟩;refine sd (λh=>⟨by simp [w2,h],rfl⟩) (λh7=>?_);refine td Cg rfl (Ci _ r 65072 65135 h1 h2) ?_;rintro v w1 ⟨rfl,rfl⟩;refine sd (λh=>⟨by simp [w2,h],rfl⟩) (λh8=>?_);refine td Cg rfl (Ci _ r 65281 65376 h1 h2) ?_;rintro v w1 ⟨rfl,rfl⟩;refine sd (λh=>⟨by simp [w2,h],rfl⟩) (λh9=>?_);refine td Cg rfl (Ci _ r 65504 65510 h1 h2) ?_;rintro v w1 ⟨rfl,rfl⟩;refine sd (λh=>⟨by simp [w2,h],rfl⟩) (λh10=>?_);refine td Cg rfl (Ci _ r 127744 128591 h1 h2) ?_;rintro v w1 ⟨rfl,rfl⟩;refine sd (λh=>⟨by simp [w2,h],rfl⟩) (λh11=>?_);refine td Cg rfl (Ci _ r 129280 129535 h1 h2) ?_;rintro v w1 ⟨rfl,rfl⟩;refine sd (λh=>⟨by simp [w2,h],rfl⟩) (λh12=>?_);refine td Cg rfl (Ci _ r 131072 262141 h1 h2) ?_;rintro v w1 ⟨rfl,rfl⟩;refine⟨?_,rfl⟩;congr 1;unfold w2;simp only[h3,h4,h5,h6,h7,h8,h9,h10,h11,h12,false_or]
  ·rintro v w1 ⟨rfl,rfl⟩;refine sd (λh=>hK _ _ ⟨by rw[VF h0 h],rfl⟩) (λh=>hK _ _ ⟨by rw[bj h0 h],rfl⟩)
theorem QO(w:World)(c:Cel):Calls prog 178 #[c.val] w (Ac λv a=>v=(⟨0,c.fg,c.bg,(c.a &&& 63#8) ||| 128#8⟩:Cel).val∧Chg [] w a):=by
 have:=Nf c.a;apply gn;intro K b;unfold N1;simp -dsimp (disch:=first|omega|(simp only[go_sem,seval];try omega))only[go_sem,seval,Tk,Yj];exact b _ _ ⟨rfl,((sg [] w).alloc _).alloc _⟩
theorem Za(w:World)(r:Int)(p:Cel)(h1:-2147483648≤r)(h2:r≤2147483647):Calls prog 120 #[.int .i32 r,p.val] w (Ac λv w'=>Ox w.heap.size w' 60 4 Cel.cells v (A8 r p)∧Chg [] w w'):=by
 have h3:=Nf p.a;apply XJ;intro K hK;unfold Ow;refine sn ?_;have hc1:=(sg [] w).alloc (.cells p.cells.toArray 60);refine td Js rfl (IS _ r h1 h2) ?_;rintro v w1 ⟨rfl,rfl⟩;simp -dsimp (disch:=first|omega|(simp only[go_sem,seval];try omega))only[go_sem,seval,Tk];have hc2:=hc1.alloc (.cells #[.int .i32 r,.int .u8 p.fg.toNat,.int .u8 p.bg.toNat,.int .u8 (p.a &&& 63#8).toNat] 60);refine sd (λh4=>?_) (λh4=>?_)
 ·refine sn ?_;refine hK _ _ ⟨?_,hc2.alloc _⟩;have e:A8 r p=[⟨r,p.fg,p.bg,p.a &&& 63#8⟩]:=by simp [A8,h4]
  rw[e];refine Ox.built (c:=[.int .i32 r,.int .u8 p.fg.toNat,.int .u8 p.bg.toNat,.int .u8 (p.a &&& 63#8).toNat]) ?_ Cel.len ?_ rfl rfl O rfl
  ·exact so
  ·omega
 ·refine sn ?_;refine sd (λh5=>?_) (λh5=>?_)
  ·simp -dsimp (disch:=first|omega|(simp only[go_sem,seval];try omega))only[go_sem,seval,VM];generalize hw2:(((w.alloc _).alloc _)).drew=w2;have hc3:Chg [] w w2:=by rw[←hw2];exact(((sg _ _).alloc _).alloc _).drew
   have hh:w2.heap[w.heap.size+1]?=some (.cells #[.int .i32 r,.int .u8 p.fg.toNat,.int .u8 p.bg.toNat,.int .u8 ((p.a &&& 63#8) ||| 64#8).toNat] 60):=by rw[←hw2];exact so
   refine td Nn rfl (QO _ ⟨r,p.fg,p.bg,(p.a &&& 63#8) ||| 64#8⟩) ?_;rintro v w3 ⟨rfl,hc4⟩;have hh2:=hc4.keep hh Z;have hc5:=hc3.trans0 hc4;dsimp only;simp -dsimp (disch:=first|omega|(simp only[go_sem,seval];try omega))only[go_sem,seval,hh2,aq];refine hK _ _ ⟨?_,hc5.alloc _⟩;have e:A8 r p=[⟨r,p.fg,p.bg,(p.a &&& 63#8) ||| 64#8⟩,⟨0,p.fg,p.bg,(p.a &&& 63#8) ||| 128#8⟩]:=by simp [A8,h5]
   rw[e];exact Ox.built (c:=[.int .i32 r,.int .u8 p.fg.toNat,.int .u8 p.bg.toNat,.int .u8 ((p.a &&& 63#8) ||| 64#8).toNat,.int .i32 0,.int .u8 p.fg.toNat,.int .u8 p.bg.toNat,.int .u8 ((p.a &&& 63#8) ||| 128#8).toNat]) (by exact so) Cel.len hc5.size rfl rfl O rfl
  ·refine hK _ _ ⟨?_,hc2⟩;have e:A8 r p=[]:=by simp [A8,h4,h5]
   rw[e];exact Ox.nil _ _ _ _ _
theorem W7(c:Cel):(⟨0,c.fg,c.bg,(c.a &&& 63#8) ||| 128#8⟩:Cel)=c.tailOf:=by
 have h:∀a:BitVec 8,(a &&& 63#8) ||| 128#8=(a &&& ~~~64#8) ||| 128#8:=rC;simp only[Cel.tailOf,h]
theorem Ey(w:World)(c:Cel):Calls prog 140 #[c.val] w (Ac λv b=>v=.bool c.wide∧Chg [] w b):=by
 have h:∀a:BitVec 8,decide (a.toNat / 64 % 2=1)=decide (¬a &&& 64#8=0#8):=rC;have d:=c.a.isLt;apply jR;intro K e;unfold K7;refine sn ?_;refine e _ _ ⟨?_,Ar _ _⟩;unfold Cel.wide;rw[←h c.a];congr 1;apply decide_eq_decide.2;have f:(c.a.toNat:Int).tdiv 64=((c.a.toNat / 64:Nat):Int):=by rw[Int.tdiv_eq_ediv_of_nonneg O];rfl
 rw[f,Eu _ O O];have g:((c.a.toNat / 64:Nat):Int).tmod 2=((c.a.toNat / 64 % 2:Nat):Int):=by rw[Int.tmod_eq_emod_of_nonneg O];rfl
 rw[g];omega
theorem G8(w:World)(c:Cel):Calls prog 141 #[c.val] w (Ac λv b=>v=.bool c.tail∧Chg [] w b):=by
 have h:∀a:BitVec 8,decide (a.toNat / 128=1)=decide (¬a &&& 128#8=0#8):=rC;have d:=c.a.isLt;apply Vh;intro K e;unfold Mj;refine sn ?_;refine e _ _ ⟨?_,Ar _ _⟩;unfold Cel.tail;rw[←h c.a];congr 1;apply decide_eq_decide.2;have f:(c.a.toNat:Int).tdiv 128=((c.a.toNat / 128:Nat):Int):=by rw[Int.tdiv_eq_ediv_of_nonneg O];rfl
 rw[f,Eu _ O O];omega
theorem HN(w:World)(c:Cel)(hc:c.fits):Calls prog 138 #[c.val] w (Ac λv w'=>v=.bool c.check∧Chg [] w w'):=by
 apply gV;intro K hK;unfold MM;refine sn ?_;have hc0:=Ar w (.cells c.cells.toArray 60);have hb0:(w.alloc (.cells c.cells.toArray 60)).heap[w.heap.size]?=some (.cells c.cells.toArray 60):=by exact so
 refine td Js rfl (IS _ c.r hc.1 hc.2) ?_;rintro v w1 ⟨rfl,rfl⟩;refine sn ?_;refine td H7 rfl (G8 _ c) ?_;rintro v w2 ⟨rfl,hc2⟩;have hb2:=hc2.keep hb0 Z;have hc02:=hc0.trans0 hc2;unfold Cel.check at hK;refine BrW.by (λh=>?_) (λh=>?_)
 ·rw[rG h] at hK;refine Join1.inl ?_;refine sq hb2 ?_;refine td EN rfl (Ey _ c) ?_;rintro v w3 ⟨rfl,hc3⟩;have hb3:=hc3.keep hb2 Z;refine sn ?_;refine BrW.by (λh=>?_) (λh=>?_)
  ·refine sq hb3 ?_;refine hK _ _ ⟨?_,hc02.trans0 hc3⟩;simp at h;simp [h]
  ·refine hK _ _ ⟨?_,hc02.trans0 hc3⟩;simp at h;simp [h]
 ·rw[rF (by simp [h])] at hK;refine Join1.inl ?_;refine sn ?_;refine sd (λh1=>?_) (λh1=>?_)
  ·refine sq hb2 ?_;refine td EN rfl (Ey _ c) ?_;rintro v w3 ⟨rfl,hc3⟩;have hb3:=hc3.keep hb2 Z;refine sn ?_;refine BrW.by (λh2=>?_) (λh2=>?_)
   ·simp at h2;refine hK _ _ ⟨?_,hc02.trans0 hc3⟩;simp [h2,h1]
   ·simp at h2;refine sn ?_;have h3:¬AN c.r=2:=O;refine sd (λh4=>absurd h4 h3) (λh4=>?_);refine hK _ _ ⟨?_,hc02.trans0 hc3⟩;simp [h2,h3]
  ·refine sn ?_;refine sd (λh4=>?_) (λh4=>?_)
   ·refine sq hb2 ?_;refine td EN rfl (Ey _ c) ?_;rintro v w3 ⟨rfl,hc3⟩;refine hK _ _ ⟨?_,hc02.trans0 hc3⟩;cases hw:c.wide<;>simp [h1,h4]
   ·refine hK _ _ ⟨?_,hc02⟩;cases hw:c.wide<;>simp [h1,h4]
theorem FF{w:World}{e:Option TypeId}{a:Option Addr}{l:List Cel}(hs:SxC w e a l)(cap:Nat)(i:Int)(h1:-1≤i)(h2:i≤l.length)(hl:l.length≤1000000)(hf:∀c∈l,c.fits):Calls prog 139 #[.slice a l.length cap,.int .i64 i] w
  (Ac λv w'=>v=.bool (decide (0≤i) && AD l i.toNat)∧Chg [] w w'):=by
 apply Xt;intro K hK;unfold Sq;refine sh (λv w'=>v=.bool (decide (0≤i) && AD l i.toNat)∧Chg [] w w') ?_ ?_
 ·refine sn ?_;refine sd (λh3=>?_) (λh3=>⟨by simp [h3],(sg _ _).drew⟩);obtain⟨k,rfl⟩:=Int.eq_ofNat_of_zero_le h3;refine sn ?_;refine sd (λh4=>?_) (λh4=>⟨by have:=@H8 l k;simp;cases hp:AD l k<;>simp_all;omega,(sg _ _).drew⟩);have hk:k<l.length:=O;have hk1:k+1<l.length:=O;have hpa:AD l k=Bs l[k] l[k+1]:=by
   unfold AD;rw[rI hk,rI hk1]
  have hgo:(decide (0≤(k:Int)) && AD l (k:Int).toNat)=Bs l[k] l[k+1]:=by simp [hpa]
  rw[hgo];obtain⟨b,o,rfl,hb,m1,-⟩:=SxC.cel hs (rI hk);refine sq m1 ?_;refine td Gt rfl (HN _ l[k] (hf _ (rR hk))) ?_;rintro v w1 ⟨rfl,hc1⟩;refine BrW.by (λh5=>?_) (λh5=>⟨by simp [Bs,h5],hc1.low_drew⟩);obtain⟨b',o',hbo,hb',m1,-⟩:=SxC.cel ((hs.chg0 (sg _ _).drew).chg0 hc1) (rI hk);cases hbo;refine sq m1 ?_;refine td EN rfl (Ey _ l[k]) ?_;rintro v w2 ⟨rfl,hc2⟩;have hc12:=hc1.trans0 hc2;refine BrW.by (λh6=>?_) (λh6=>⟨by simp [Bs,h6],hc12.low_drew⟩);obtain⟨b',o',hbo,hb',m1,-⟩:=SxC.cel ((hs.chg0 (sg _ _).drew).chg0 hc12) (rI hk);cases hbo;obtain⟨b',o',hbo,hb',m2,-⟩:=SxC.cel ((hs.chg0 (sg _ _).drew).chg0 hc12) (rI hk1);cases hbo;have ek:(k:Int)+1=((k+1:Nat):Int):=Z;refine LX3 m1 m2 ek ?_;refine td Nn rfl (QO _ l[k]) ?_;rintro v w3 ⟨rfl,hc3⟩;rw[W7];obtain⟨b',o',hbo,hb',m2,-⟩:=SxC.cel (((hs.chg0 (sg _ _).drew).chg0 hc12).chg0 hc3) (rI hk1);cases hbo;refine sq m2 ?_;refine⟨by simp [Bs,h5,h6],(hc12.trans0 hc3).low_drew⟩
 ·rintro v w1 ⟨rfl,hc⟩;exact hK _ _ ⟨rfl,hc⟩
theorem ig(l:List Cel)(i:Nat):AW l i=(AD l i || (decide (0≤(i:Int)-1) && AD l ((i:Int)-1).toNat)):=by
 cases i with
 | zero=>simp [AW]
 | succ i =>
  have a:(((i+1:Nat):Int)-1).toNat=i:=O;have b:decide (0≤((i+1:Nat):Int)-1)=true:=by apply decide_eq_true;omega
  rw[a,b];simp [AW]
theorem J5(c:Cel):c.single=(c.check && (!c.wide && !c.tail)):=by
 have h:∀a:BitVec 8,decide (a &&& 192#8=0#8)=(!decide (¬a &&& 64#8=0#8) && !decide (¬a &&& 128#8=0#8)):=rC;unfold Cel.single Cel.plain Cel.wide Cel.tail;rw[h,Bool.and_comm]
theorem Ps{w:World}{e:Option TypeId}{a:Option Addr}{l:List Cel}(hs:SxC w e a l)(cap:Nat)(hl:l.length≤100000)(hf:∀c∈l,c.fits):Calls prog 71 #[.slice a l.length cap] w
  (Ac λv w'=>Ox w.heap.size w' 60 4 Cel.cells v (Au l)∧Chg [] w w'):=by
 apply eV;intro K hK;unfold Qj;refine Loop2.st (λs:Value × Nat=>s.1) (λs:Value × Nat=>.int .i64 s.2) (λs w'=>Chg [] w w'∧Ox w.heap.size w' 60 4 Cel.cells s.1 ((Au l).take s.2)∧s.2≤l.length) (λs=>l.length-s.2) (.slice none 0 0,0) rfl rfl ⟨sg _ _,Ox.nil _ _ _ _ _,Z⟩ ?_;rintro next ⟨v,k⟩ w1 hn ⟨hc1,ho1,hk1⟩
 dsimp only at ho1 hk1 ⊢;refine sn ?_;refine sd (λh1=>?_) (λh1=>?_)
 ·have hk:k<l.length:=O;have hs1:=hs.chg0 hc1;obtain⟨b,o,rfl,hb,m1,-⟩:=SxC.cel hs1 (rI hk);refine sq m1 ?_;have hc2:=Ar w1 (.cells l[k].cells.toArray 60);have hb2:(w1.alloc (.cells l[k].cells.toArray 60)).heap[w1.heap.size]?=some (.cells l[k].cells.toArray 60):=by exact so
  refine td Gt rfl (HN _ l[k] (hf _ (rR hk))) ?_;rintro v3 w3 ⟨rfl,hc3⟩;have hc23:=hc2.trans0 hc3;have hb3:=hc3.keep hb2 Z;refine td Gi rfl (FF (hs1.chg0 hc23) cap (k:Int) O O O hf) ?_;rintro v4 w4 ⟨rfl,hc4⟩;have hc24:=hc23.trans0 hc4;have hb4:=hc4.keep hb3 Z;refine sn ?_;refine td Gi rfl (FF (hs1.chg0 hc24) cap ((k:Int)-1) O O O hf) ?_;rintro v5 w5 ⟨rfl,hc5⟩;have hc25:=hc24.trans0 hc5;have hb5:=hc5.keep hb4 Z;have hg:=FI l k _ (rI hk);have hn0:AW l k=(AD l k || (decide (0≤(k:Int)-1) && AD l ((k:Int)-1).toNat)):=ig l k;have hp0:(decide (0≤(k:Int)) && AD l (k:Int).toNat)=AD l k:=Z;rw[hp0];refine si (λw6=>Chg [w1.heap.size] w5 w6∧∃c,w6.heap[w1.heap.size]?=some (.cells c.cells.toArray 60)∧(Au l)[k]?=some c) ?_ ?_
  ·refine sh (λv w6=>v=.bool (!(AW l k || l[k].single))∧Chg [] w5 w6) ?_ ?_
   ·refine BrW.by (λh2=>?_) (λh2=>?_)
    ·refine sn ?_;have hnt:AW l k=true:=by rw[hn0,h2];rfl
     exact⟨by rw[hnt];rfl,sg _ _⟩
    ·refine BrW.by (λh3=>?_) (λh3=>?_)
     ·refine sn ?_;have hnt:AW l k=true:=by rw[hn0,h2,h3];rfl
      exact⟨by rw[hnt];rfl,sg _ _⟩
     ·have hnf:AW l k=false:=by rw[hn0,h2,h3];rfl
      refine BrW.by (λh4=>?_) (λh4=>?_)
      ·refine sq hb5 ?_;refine td EN rfl (Ey _ l[k]) ?_;rintro v7 w7 ⟨rfl,hc7⟩;have hb7:=hc7.keep hb5 Z;refine sn ?_;refine BrW.by (λh5=>?_) (λh5=>?_)
       ·refine sq hb7 ?_;refine td H7 rfl (G8 _ l[k]) ?_;rintro v8 w8 ⟨rfl,hc8⟩;refine sn ?_;refine⟨?_,hc7.trans0 hc8⟩;simp at h5;simp [hnf,J5,h4,h5]
       ·refine sn ?_;refine⟨?_,hc7⟩;simp at h5;simp [hnf,J5,h5]
      ·refine sn ?_;exact⟨by simp [hnf,J5,h4],sg _ _⟩
   ·rintro v6 w6 ⟨rfl,hc6⟩;have hb6:=hc6.keep hb5 Z;have hl6:=Aa hb6;refine BrW.by (λh2=>?_) (λh2=>?_)
    ·refine sq hb6 ?_;refine⟨(hc6.mono Z).set _ _ Z,⟨32,l[k].fg,l[k].bg,0⟩,rfl,?_⟩;simp at h2;rw[hg,h2.1];simp [Cel.fix,h2.2]
    ·refine⟨hc6.mono Z,l[k],hb6,?_⟩;rw[hg];cases hn1:AW l k
     ·simp [hn1] at h2;simp [Cel.fix,h2]
     ·rfl
  ·rintro w6 ⟨hc6,c,hb6,hg6⟩;have hc16:=hc25.trans hc6 Z;have ho6:=ho1.chg0 hc16;refine sq hb6 ?_;refine Bd (l2:=[c]) CZ Cel.len Cel.ok (ho6.chg0 (Ar _ _)) (Sx.built (c:=c.cells) (by refine sn ?_;rfl) Z) rfl (by simp;omega) O (by refine sn ?_;have:=hc1.size;have:=hc16.size;omega) ?_;intro v' w' ho' hc' _;have hca:Chg v.ownBlock.toList w6 w':=((sg _ w6).alloc _).trans hc' (λx hx=>.inl hx);have hc1':=C2 ho6 (hc1.trans0 hc16) hca;refine sn ?_;refine hn (v',k+1) _ ⟨hc1',?_,by dsimp only;omega⟩ (by dsimp only;omega);dsimp only;have hkm:k<(Au l).length:=by rw[Cj];exact hk
   have e1:(Au l)[k]=c:=by have:=hg6;rw[rI hkm] at this;exact Option.some.inj this
   rw[Cd hkm,e1];exact ho'
 ·have hk:k=l.length:=O;subst hk;refine hK _ _ ⟨?_,hc1⟩
  rwa [List.take_of_length_le (by rw[Cj];omega)] at ho1
theorem QA(l:List Cel)(i:Nat):(decide (0≤(i:Int)-1) && AD l ((i:Int)-1).toNat)=DH l i:=by
 cases i with
 | zero=>simp [DH]
 | succ i =>
  have a:(((i+1:Nat):Int)-1).toNat=i:=O;have b:decide (0≤((i+1:Nat):Int)-1)=true:=by apply decide_eq_true;omega
  rw[a,b];simp [DH]
theorem WX{w:World}{e:Option TypeId}{a:Option Addr}{l:List Cel}(hs:SxC w e a l)(cap:Nat)(hl:l.length≤100000)(hf:∀c∈l,c.fits):Calls prog 224 #[.slice a l.length cap] w
  (Ac λv w'=>v=.bool (right l)∧Chg [] w w'):=by
 apply XG;intro K hK;unfold P1;refine Loop1.st (λk:Nat=>.int .i64 k) (λk w'=>Chg [] w w'∧k≤l.length∧∀i c,i<k→l[i]?=some c→AW l i=true∨c.single=true) (λk=>l.length-k) 0 rfl ⟨sg _ _,O,Z⟩ ?_;rintro next k w1 hn ⟨hc1,hk1,hi1⟩
 refine sn ?_;refine sd (λh1=>?_) (λh1=>?_)
 ·have hk:k<l.length:=O;have hs1:=hs.chg0 hc1;have hgk:=rI hk;have hiff:=Sa hgk;refine sh (λv w'=>v=.bool (!decide (AW l k=true∨l[k].single=true))∧Chg [] w1 w') ?_ ?_
  ·obtain⟨b,o,rfl,hb,m1,-⟩:=SxC.cel hs1 hgk;refine sq m1 ?_;refine td Gt rfl (HN _ l[k] (hf _ (rR hk))) ?_;rintro v2 w2 ⟨rfl,hc2⟩;refine sn ?_;refine BrW.by (λh2=>⟨?_,hc2⟩) (λh2=>?_)
   ·simp at h2;simp [hiff,h2]
   ·simp at h2;obtain⟨b',o',hbo,hb',m2,-⟩:=SxC.cel (hs1.chg0 hc2) hgk;cases hbo;refine sq m2 ?_;refine td EN rfl (Ey _ l[k]) ?_;rintro v3 w3 ⟨rfl,hc3⟩;have hc13:=hc2.trans0 hc3;obtain⟨b',o',hbo,hb',m3,-⟩:=SxC.cel (hs1.chg0 hc13) hgk;cases hbo;refine BrW.by (λh3=>?_) (λh3=>?_)
    ·refine td Gi rfl (FF (hs1.chg0 hc13) cap (k:Int) O O O hf) ?_;rintro v4 w4 ⟨rfl,hc4⟩;have hc14:=hc13.trans0 hc4;have hp0:(decide (0≤(k:Int)) && AD l (k:Int).toNat)=AD l k:=Z;rw[hp0];refine sn ?_;refine BrW.by (λh4=>⟨?_,hc14⟩) (λh4=>?_)
     ·simp at h4;simp [hiff,h3,h4]
     ·simp at h4;obtain⟨b',o',hbo,hb',m4,-⟩:=SxC.cel (hs1.chg0 hc14) hgk;cases hbo;refine sq m4 ?_;refine td H7 rfl (G8 _ l[k]) ?_;rintro v5 w5 ⟨rfl,hc5⟩;have hc15:=hc14.trans0 hc5;refine BrW.by (λh5=>?_) (λh5=>?_)
      ·refine sn ?_;refine td Gi rfl (FF (hs1.chg0 hc15) cap ((k:Int)-1) O O O hf) ?_;rintro v6 w6 ⟨rfl,hc6⟩;rw[QA];refine sn ?_;refine⟨?_,hc15.trans0 hc6⟩;simp [hiff,h2,h4,h5]
      ·refine⟨?_,hc15⟩;simp [hiff,h2,h4,h5]
    ·refine sq m3 ?_;refine td H7 rfl (G8 _ l[k]) ?_;rintro v5 w5 ⟨rfl,hc5⟩;have hc15:=hc13.trans0 hc5;refine BrW.by (λh5=>?_) (λh5=>?_)
     ·refine sn ?_;refine td Gi rfl (FF (hs1.chg0 hc15) cap ((k:Int)-1) O O O hf) ?_;rintro v6 w6 ⟨rfl,hc6⟩;rw[QA];refine sn ?_;refine⟨?_,hc15.trans0 hc6⟩;simp [hiff,h2,h3,h5]
     ·refine⟨?_,hc15⟩;simp [hiff,h2,h3,h5]
  ·rintro v w2 ⟨rfl,hc2⟩;refine BrW.by (λh2=>?_) (λh2=>?_)
   ·have hnr:right l=false:=by
     cases hr:right l
     ·rfl
     ·simp at h2;rcases Fi l hr k _ hgk with h|h
      ·rw[h] at h2;simp at h2
      ·rw[h] at h2;simp at h2
    exact hK _ _ ⟨by rw[hnr],hc1.trans0 hc2⟩
   ·refine sn ?_;refine hn (k+1) _ ⟨hc1.trans0 hc2,O,?_⟩ O;intro i c hi hic;by_cases he:i=k
    ·subst he;rw[hgk] at hic;cases hic;rw[Bool.not_eq_false'] at h2;exact of_decide_eq_true h2
    ·exact hi1 i c O hic
 ·have hk:k=l.length:=O;refine hK _ _ ⟨?_,hc1⟩;rw[GY l λi c hic=>hi1 i c (by rw[hk];exact(rO.1 hic).1) hic]
theorem Sr(w:World)(x y:Int):Calls prog 115 #[.int .i64 x,.int .i64 y] w (Ac λv w'=>v=.bool (BF x y)∧w'=w):=by
 apply Wg;intro K hK;unfold Ru;refine Join1.inl ?_;refine sn ?_;refine sd (λh1=>?_) (λh1=>?_)
 ·refine sn ?_;refine sd (λh2=>?_) (λh2=>?_)
  ·refine sn ?_;refine sd (λh3=>?_) (λh3=>?_)
   ·refine sn ?_;refine hK _ _ ⟨?_,rfl⟩;simp [BF,h1,h2,h3]
   ·refine hK _ _ ⟨?_,rfl⟩;simp [BF,h3]
  ·refine hK _ _ ⟨?_,rfl⟩;simp [BF,h2]
 ·refine hK _ _ ⟨?_,rfl⟩;simp [BF,h1]
theorem ix(w:World):Calls prog 116 #[] w (Ac λv a=>v=Cel.blank.val∧Chg [] w a):=by
 apply dD;intro K b;unfold Oa;refine sn ?_;exact b _ _ ⟨rfl,Ar _ _⟩
theorem GAt.of_ox{base:Nat}{w:World}{v:Value}{W H:Nat}{cs:List Cel}(h:Ox base w 60 4 Cel.cells v cs)(a:cs≠[]):GAt base w (.agg #[.int .i64 W,.int .i64 H,v]) ⟨W,H,cs⟩:=by
 obtain⟨b,c,d,rfl,e,f,g⟩:=h.blk a;exact⟨b,c,d,rfl,e,f,g⟩
theorem KT(w:World)(x y:Nat)(x0:0<x)(x1:x≤200)(y0:0<y)(y1:y≤60):Calls prog 59 #[.int .i64 x,.int .i64 y] w
  (Ac λv w'=>GAt w.heap.size w' v (Gr.plain x y Cel.blank)∧Chg [] w w'):=by
 have hf:BF x y=true:=by unfold BF;apply decide_eq_true;omega
 have hm:=Nat.mul_le_mul x1 y1;have hm0:=Nat.mul_pos x0 y0;have e1:(x:Int)*(y:Int)=((x*y:Nat):Int):=Z;apply Vb;intro K hK;unfold Qc;refine sn ?_;refine td Pm rfl (Sr _ x y) ?_;rintro v w1 ⟨rfl,rfl⟩;refine sq hf ?_;refine Loop1.st (λs:Nat × Value=>.int .i64 s.1) (λs w'=>s.1≤x*y∧Chg [] w w'∧w'.heap[w.heap.size]?=some (.cells #[.int .i64 0,.int .i64 0,.slice none 0 0] 50)∧w'.heap[w.heap.size+1]?=some (.cells #[.int .i64 x,.int .i64 y,s.2] 50)∧(∃a n c,s.2=.slice a n c)∧Ox (w.heap.size+2) w' 60 4 Cel.cells s.2 (List.replicate s.1 Cel.blank))
  (λs=>x*y-s.1) (0,.slice none 0 0) rfl ⟨Z,?_,?_,?_,⟨_,_,_,rfl⟩,Ox.nil _ _ _ _ _⟩ ?_
 ·exact By _ _ _
 ·exact so
 ·exact so
 ·rintro next ⟨k,v⟩ w2 hn ⟨hk,hc2,ho2,hb2,⟨a,n,c,hv⟩,hox⟩
  dsimp only at hk hb2 hv hox ⊢;subst hv;have hlt2:=Aa hb2;refine sq e1 ?_;refine sd (λh1=>?_) (λh1=>?_)
  ·refine sq hb2 ?_;refine td Vf rfl (ix _) ?_;rintro v3 w3 ⟨rfl,hc3⟩;have hb3:=hc3.keep hb2 Z;have ho3:=hc3.keep ho2 Z;have hox3:=(hox.chg0 (sg _ _).drew).chg0 hc3;have hlt3:=Aa hb3;refine sq hb3 ?_;have hc23:=hc2.drew.trans0 hc3;refine Bd (l2:=[Cel.blank]) CZ Cel.len Cel.ok (hox3.chg0 (Ar _ _)) (Sx.built (c:=Cel.blank.cells) (by refine sn ?_;rfl) Z) rfl (by simp;omega) O (by refine sn ?_;omega) ?_;intro v' w' ho' hc' _;have hca:Chg (Value.slice a n c).ownBlock.toList w3 w':=((sg _ w3).alloc _).trans hc' (λx hx=>.inl hx);have hlow:∀x∈(Value.slice a n c).ownBlock.toList,w.heap.size+2≤x:=λx hx=>(hox3.lt x (by cases hv:(Value.slice a n c).ownBlock<;>simp_all)).1;have hb4:=hca.keep hb3 (λhm=>by have:=hlow _ hm;omega);have ho4:=hca.keep ho3 (λhm=>by have:=hlow _ hm;omega);have hlt4:=Aa hb4;obtain⟨a',cap',rfl,_⟩:=ho'.form;refine sq hb4 ?_;refine hn (k+1,.slice a' ((List.replicate k Cel.blank++[Cel.blank])).length cap') _ ⟨by dsimp only;omega,(hc23.trans hca (λx hx=>.inr (by have:=hlow _ hx;omega))).set _ _ (.inr O),?_,?_,⟨_,_,_,rfl⟩,?_⟩ (by dsimp only;omega)
   ·rw[A5 _ _ _ _ O];exact ho4
   ·dsimp only;exact so
   ·dsimp only;have:List.replicate (k+1) Cel.blank=List.replicate k Cel.blank++[Cel.blank]:=by rw[List.replicate_succ']
    rw[this];exact ho'.low ((sg [w.heap.size+1] _).set _ _ Z) Z
  ·have hke:k=x*y:=O;have hlo:=Aa ho2;refine sr hb2 ho2 ?_;refine hK _ _ ⟨?_,hc2.set _ _ (.inr (rH _))⟩;rw[hke] at hox;have hox':=hox.low ((sg [w.heap.size] w2).set w.heap.size (.cells #[.int .i64 x,.int .i64 y,.slice a n c] 50) Z) Z;exact(GAt.of_ox (W:=x) (H:=y) hox' (by simp;omega)).le O
theorem bJ{g:Gr}(a:g.ok):(g.cs.length:Int).tdiv g.w=g.h:=by
 rw[a.len];have b:=a.w0;have:((g.w*g.h:Nat):Int)=(g.w:Int)*g.h:=Z;rw[this,Int.mul_tdiv_cancel_left _ O]
theorem KP{w:World}{g:Gr}(d:g.ok){e:Option TypeId}{a:Option Addr}(f:SxC w e a g.cs)(cap:Nat)(h:g.cs.length≤cap)(y:Nat)(i:y<g.h):Calls prog 39 #[g.val a cap,.int .i64 y] w
  (Ac λv j=>Ox w.heap.size j 60 4 Cel.cells v (g.row y)∧Chg [] w j):=by
 have k:=d.row_lt i;have m:=d.le;have n:=d.w0;have p:=d.w1;have q:=d.h1;have r:=bJ d;obtain⟨b,o,_,_,_,_,_,rfl,s,_⟩:=f.at_ d.ne;clear s;apply Tt;intro K t;unfold KR;simp -dsimp (disch:=first|omega|(simp only[go_sem,seval];try omega))only[go_sem,seval,Gr.val];have u:=Ar w (.cells #[.int .i64 g.w,.int .i64 g.h,.slice (some ⟨b,o,none⟩) g.cs.length cap] 50);have x:(w.alloc (.cells #[.int .i64 g.w,.int .i64 g.h,.slice (some ⟨b,o,none⟩) g.cs.length cap] 50)).heap[w.heap.size]?=some (.cells #[.int .i64 g.w,.int .i64 g.h,.slice (some ⟨b,o,none⟩) g.cs.length cap] 50):=by exact so
 refine sh (λv j=>v=.bool false∧j=(w.alloc (.cells #[.int .i64 g.w,.int .i64 g.h,.slice (some ⟨b,o,none⟩) g.cs.length cap] 50)).drew) ?_ ?_
 ·refine sn ?_;refine sd (λh=>O) (λ_=>?_);refine sn ?_;refine sd (λh=>O) (λ_=>?_);refine sn ?_;refine sd (λh=>O) (λ_=>?_);refine sq r ?_;simp
 ·rintro v z ⟨rfl,rfl⟩;have A:(y:Int)*(g.w:Int)=((y*g.w:Nat):Int):=Z;have B:((y*g.w:Nat):Int)+(g.w:Int)=((y*g.w+g.w:Nat):Int):=Z;refine sr A B ?_;have C:slo o cap (y*g.w) 4=o+y*g.w*4:=by unfold slo;rw[rF O]
  have D:y*g.w+g.w-y*g.w=g.w:=O;rw[C,D];have E:=d.row_len i;have F:SxC (((w.alloc (.cells #[.int .i64 g.w,.int .i64 g.h,.slice (some ⟨b,o,none⟩) g.cs.length cap] 50)).alloc (.cells #[] 60)).drew) e (some ⟨b,o+y*g.w*4,none⟩) (g.row y):=Sx.sub (f.chg0 (By _ _ _).drew) Cel.len (y*g.w) g.w _ (.inr (.inr rfl));have G:Ox w.heap.size (((w.alloc (.cells #[.int .i64 g.w,.int .i64 g.h,.slice (some ⟨b,o,none⟩) g.cs.length cap] 50)).alloc (.cells #[] 60)).drew) 60 4 Cel.cells (.slice (some ⟨w.heap.size+1,0,none⟩) 0 0) []:=Ox.built (c:=[]) (by exact so) Cel.len O rfl rfl O rfl;refine Bd (l:=[]) (l2:=g.row y) CZ Cel.len Cel.ok G F (by rw[E]) (by simp;omega) O (by refine sn ?_;omega) ?_;intro H j I J _;exact t _ _ ⟨by simpa using I,C2 G (By _ _ _).drew J⟩
theorem O7{g:Gr}{y:Nat}{c:Cel}(h:c∈g.row y):c∈g.cs:=List.mem_of_mem_drop (List.mem_of_mem_take h)
theorem Hz{w:World}{g:Gr}(b:g.ok)(c:g.right=true){e:Option TypeId}{a:Option Addr}(d:SxC w e a g.cs)(cap:Nat)(f:g.cs.length≤cap):Calls prog 176 #[g.val a cap] w
  (Ac λv h=>v=.bool true∧Chg [] w h):=by
 have i:=b.le;have j:(g.w:Int)*(g.h:Int)=(g.cs.length:Int):=by rw[b.len];simp
 have l:=b.w1;have m:=b.h1;apply au;intro K n;unfold Ta;simp -dsimp (disch:=first|omega|(simp only[go_sem,seval];try omega))only[go_sem,seval,Gr.val];have o:=Ar w (.cells #[.int .i64 g.w,.int .i64 g.h,.slice a g.cs.length cap] 50);have p:(w.alloc (.cells #[.int .i64 g.w,.int .i64 g.h,.slice a g.cs.length cap] 50)).heap[w.heap.size]?=some (.cells #[.int .i64 g.w,.int .i64 g.h,.slice a g.cs.length cap] 50):=by exact so
 refine td Pm rfl (Sr _ g.w g.h) ?_;rintro v q ⟨rfl,rfl⟩;refine Join1.inl ?_;simp -dsimp (disch:=first|omega|(simp only[go_sem,seval];try omega))only[go_sem,seval,b.fits,j];refine Loop1.st (λk:Nat=>.int .i64 k) (λk h=>Chg [] w h∧k≤g.h∧h.heap[w.heap.size]?=some (.cells #[.int .i64 g.w,.int .i64 g.h,.slice a g.cs.length cap] 50)) (λk=>g.h-k) 0 rfl ⟨o,O,p⟩ ?_;rintro next k w2 r ⟨s,t,u⟩
 refine sq u ?_;refine sd (λh1=>?_) (λh1=>n _ _ ⟨rfl,s⟩);have x:k<g.h:=O;refine sq u ?_;refine td Hu rfl (KP b (d.chg0 s) cap f k x) ?_;rintro y z ⟨A,B⟩;obtain⟨C,D,rfl,E,F,-⟩:=A.form;have G:=b.row_len x;have H:=Gr.right.at c x;refine td Vc rfl (WX F D O (NI H)) ?_;rintro I J ⟨rfl,L⟩;rw[H];refine sn ?_;exact r (k+1) _ ⟨(s.trans0 B).trans0 L,O,(B.trans0 L).keep u Z⟩ O
theorem VD{w:World}{g:Gr}(hg:g.ok){e:Option TypeId}{b o:Nat}(hs:SxC w e (some ⟨b,o,none⟩) g.cs)(cap:Nat)(hcap:g.cs.length≤cap){rb:Nat}{R:Nat→Bool}(hR:∃c t fr,w.heap[rb]?=some (.cells c t fr)∧∀k,k<g.h→c[k]?=some (Value.bool (R k)))(hf:∀c∈g.cs,c.fits):
  Calls prog 177 #[.int .i64 g.w,.int .i64 g.h,.slice (some ⟨rb,0,none⟩) g.h g.h,.slice (some ⟨b,o,none⟩) g.cs.length cap] w
  (Ac λv w'=>GAt w.heap.size w' v (Gr.of g.w g.h λy=>if R y then Au (g.row y) else g.row y)∧Chg [] w w'):=by
 have h2:=hg.le;have h3:=hg.w0;have h4:=hg.w1;have h5:=hg.h1;have h6:=hg.h0;obtain⟨rc,rt,rf,hR,hRk⟩:=hR;have hlF:∀y,y<g.h→(if R y then Au (g.row y) else g.row y).length=g.w:=by
  intro y hy;split
  ·rw[Cj,hg.row_len hy]
  ·exact hg.row_len hy
 apply eo;intro K hK;unfold QM;refine sn ?_;refine Loop1.st (λs:Nat × Value=>.int .i64 s.1) (λs w'=>s.1≤g.h∧Chg [] w w'∧w'.heap[w.heap.size]?=some (.cells #[.int .i64 0,.int .i64 0,.slice none 0 0] 50)∧w'.heap[w.heap.size+1]?=some (.cells #[.int .i64 g.w,.int .i64 g.h,s.2] 50)∧(∃a n c,s.2=.slice a n c)∧Ox (w.heap.size+2) w' 60 4 Cel.cells s.2 (A7 (λy=>if R y then Au (g.row y) else g.row y) s.1))
  (λs=>g.h-s.1) (0,.slice none 0 0) rfl ⟨Z,By _ _ _,(by exact so),(by exact so),⟨_,_,_,rfl⟩,Ox.nil _ _ _ _ _⟩ ?_
 rintro next ⟨k,v⟩ w2 hn ⟨hk,hc2,ho2,hb2,⟨a,n,c,hv⟩,hox⟩
 dsimp only at hk hb2 hv hox ⊢;subst hv;have hlt2:=Aa hb2;refine sn ?_;refine sd (λh1=>?_) (λh1=>?_)
 ·have hky:k<g.h:=O;have hrl:=hg.row_len hky;have hrt:=hg.row_lt hky;have e1:(k:Int)*(g.w:Int)=((k*g.w:Nat):Int):=Z;have e2:((k*g.w:Nat):Int)+(g.w:Int)=((k*g.w+g.w:Nat):Int):=Z;refine sr e1 e2 ?_;have e3:slo o cap (k*g.w) 4=o+k*g.w*4:=by unfold slo;rw[rF O]
  have e4:k*g.w+g.w-k*g.w=g.w:=O;rw[Int.toNat_natCast,Int.toNat_natCast,e3,e4];have hs2:SxC w2 e (some ⟨b,o+k*g.w*4,none⟩) (g.row k):=Sx.sub (hs.chg0 hc2) Cel.len (k*g.w) g.w _ (.inr (.inr rfl));have hR2:As w2.heap[rb]? k=some (.bool (R k)):=by
   rw[hc2.keep hR Z,Cp,hRk k hky]
  refine sh (λv w'=>Chg [] w2 w'∧∃a3 cap3,v=.slice a3 g.w cap3∧SxC w' none a3 (if R k then Au (g.row k) else g.row k)) ?_ ?_
  ·refine sq hR2 ?_;refine BrW.by (λh=>?_) (λh=>?_)
   ·have hmc:=Ps hs2 (cap-k*g.w) O (λc hc=>hf c (O7 hc));rw[hrl] at hmc;refine td Lr rfl (hmc) ?_;rintro v3 w3 ⟨ho3,hc3⟩;obtain⟨a3,cap3,rfl,hcap3,hs3,-⟩:=ho3.form;refine⟨hc3,a3,cap3,by rw[Cj,hrl],?_⟩;rw[rG h];exact hs3.untag
   ·refine⟨sg _ _,_,_,rfl,?_⟩;rw[rF (by simp [h])];exact hs2.untag
  ·rintro v3 w3 ⟨hc3,a3,cap3,rfl,hs3⟩;have hb3:=hc3.keep hb2 Z;have ho3:=hc3.keep ho2 Z;have hlt3:=Aa hb3;have hlr:=Ep (R:=λy=>if R y then Au (g.row y) else g.row y) (w:=g.w) (h:=k) (λy hy=>hlF y O);refine sq hb3 ?_;refine Bd (l2:=if R k then Au (g.row k) else g.row k) CZ Cel.len Cel.ok (hox.chg0 hc3) hs3 (by rw[hlF k hky]) (by rw[hlF k hky,hlr];omega) O O ?_;intro v' w' ho' hc' _;have hlow:∀x∈(Value.slice a n c).ownBlock.toList,w.heap.size+2≤x:=λx hx=>(hox.lt x (by cases hv:(Value.slice a n c).ownBlock<;>simp_all)).1;have hb4:=hc'.keep hb3 (λhm=>by have:=hlow _ hm;omega);have ho4:=hc'.keep ho3 (λhm=>by have:=hlow _ hm;omega);have hlt4:=Aa hb4;obtain⟨a',cap',rfl,_⟩:=ho'.form;refine sq hb4 ?_;refine hn (k+1,.slice a' (A7 (λy=>if R y then Au (g.row y) else g.row y) k++if R k then Au (g.row k) else g.row k).length cap') _ ⟨by dsimp only;omega,((hc2.trans0 hc3).trans hc' (λx hx=>.inr (by have:=hlow _ hx;omega))).set _ _ (.inr O),?_,?_,⟨_,_,_,rfl⟩,?_⟩ (by dsimp only;omega)
   ·rw[A5 _ _ _ _ O];exact ho4
   ·dsimp only;exact so
   ·dsimp only;exact ho'.low ((sg [w.heap.size+1] _).set _ _ Z) Z
 ·have hke:k=g.h:=O;have hlo:=Aa ho2;refine sr hb2 ho2 ?_;refine hK _ _ ⟨?_,hc2.set _ _ (.inr (rH _))⟩;rw[hke] at hox;have hox':=hox.low ((sg [w.heap.size] w2).set w.heap.size (.cells #[.int .i64 g.w,.int .i64 g.h,.slice a n c] 50) Z) Z;refine(GAt.of_ox (W:=g.w) (H:=g.h) hox' ?_).le O;intro hnil;have:=Ep hlF;rw[hnil] at this;have:=Nat.mul_pos h6 h3;simp at *;omega
def boF(b:Bool):List Value:=[.bool b]
theorem DY(b:Bool):(boF b).length=1:=rfl
theorem dV(l:List Bool):l.flatMap boF=l.map Value.bool:=by induction l<;>simp_all [boF]
theorem JI(w:World)(c:Cel)(b:c.usual=true):Calls prog 181 #[c.val] w (Ac λv d=>v=.bool true∧Chg [] w d):=by
 have e:=Eg b;have f:c.check=true:=by unfold Cel.single at e;rw[Bool.and_eq_true] at e;exact e.2
 have g:=ID e;have i:c.a.toNat<64:=by
  unfold Cel.plain at g;have g:=of_decide_eq_true g
  revert g
  generalize c.a=a
  revert a
  decide
 apply eY;intro K j;unfold Lq;unfold Cel.val;refine sn ?_;have k:=Ar w (.cells #[.int .i32 c.r,.int .u8 c.fg.toNat,.int .u8 c.bg.toNat,.int .u8 c.a.toNat] 60);have l:(w.alloc (.cells #[.int .i32 c.r,.int .u8 c.fg.toNat,.int .u8 c.bg.toNat,.int .u8 c.a.toNat] 60)).heap[w.heap.size]?=some (.cells #[.int .i32 c.r,.int .u8 c.fg.toNat,.int .u8 c.bg.toNat,.int .u8 c.a.toNat] 60):=by exact so
 generalize w.alloc (.cells #[.int .i32 c.r,.int .u8 c.fg.toNat,.int .u8 c.bg.toNat,.int .u8 c.a.toNat] 60)=w0 at *;refine sh (λv d=>v=.bool true∧Chg [] w d) ?_ (λv d h=>j _ _ h);refine sq l ?_;have m:=HN w0 c (Gj f);unfold Cel.val at m;refine td Gt rfl (m) ?_;rintro v n ⟨rfl,o⟩;have p:=o.keep l Z;rw[f];refine sq p ?_;exact⟨congrArg Value.bool (decide_eq_true O),k.trans0 o⟩
theorem FE(w:World)(n a b:Int)(c:a≤b):Calls prog 182 #[.int .i64 n,.int .i64 a,.int .i64 b] w (Ac λv d=>v=.int .i64 (min (max n a) b)∧d=w):=by
 apply Ze;intro K e;unfold LD;refine sn ?_;refine sd (λg=>e _ _ ⟨by congr 1;omega,rfl⟩) (λg=>?_);refine sn ?_;exact sd (λg2=>e _ _ ⟨by congr 1;omega,rfl⟩) (λg2=>e _ _ ⟨by congr 1;omega,rfl⟩)
theorem Ot(w:World)(n a m:Int)(b:0≤n)(c:n≤1000)(d:-9223372036854775808≤a)(e:a≤9223372036854775807)(f:m≤9223372036854775807):Calls prog 225 #[.int .i64 n,.int .i64 a,.int .i64 m] w (Ac λv i=>v=.bool (decide (a≤n∧n<a+m))∧i=w):=by
 apply UX;intro K j;unfold Nt;refine sh (λv i=>v=.bool (decide (a≤n∧n<a+m))∧i=w) ?_ (λv i h=>j _ _ h);refine sn ?_;refine sd (λg=>?_) (λg=>⟨sv O,rfl⟩);refine sn ?_;refine sd (λg1=>?_) (λg1=>⟨sv O,rfl⟩);refine sn ?_;refine sd (λg2=>?_) (λg2=>?_)
 ·refine sn ?_;refine sd (λg3=>O) (λg3=>?_);refine sn ?_;exact sw ⟨λh=>⟨g,h⟩,λh=>h.2⟩
 ·refine sn ?_;refine sd (λg3=>?_) (λg3=>⟨sv O,rfl⟩);refine sn ?_;refine sd (λg4=>⟨su O,rfl⟩) (λg4=>O)
theorem HQ{base a:Nat}{w:World}{W H:Nat}{L:List Cel}{b:List Bool}{rb d cap:Nat}(f:(⟨W,H,L⟩:Gr).ok)(g:Ox base w 60 4 Cel.cells (.slice (some ⟨d,0,none⟩) L.length cap) L)(h:L.length≤cap)(i:Ox a w 4 1 boF (.slice (some ⟨rb,0,none⟩) H H) b)(j:b.length=H)(l:∀c∈L,c.fits):
  Calls prog 177 #[.int .i64 W,.int .i64 H,.slice (some ⟨rb,0,none⟩) H H,.slice (some ⟨d,0,none⟩) L.length cap] w
   (Ac λv m=>GAt w.heap.size m v (Gr.of W H λy=>if b.getD y false then Au ((⟨W,H,L⟩:Gr).row y) else(⟨W,H,L⟩:Gr).row y)∧Chg [] w m):=by
 obtain⟨n,o,p,q,-,-,r⟩:=g.blk (λe=>by have:=f.ne;exact this e);rw[Value.slice.injEq] at q;obtain⟨q,-,-⟩:=q;cases q;obtain⟨s,t,u,x,-,-,z⟩:=i.blk (λe=>by have:=f.h0;rw[e] at j;simp at j;have:(0:Nat)<H:=f.h0;omega);rw[Value.slice.injEq] at x;obtain⟨x,-,-⟩:=x;cases x;have A:SxC w (some 60) (some ⟨d,0,none⟩) (⟨W,H,L⟩:Gr).cs:=⟨λ_=>⟨d,0,_,_,_,[],p,rfl,r,by simp [Bz],Z,rfl⟩⟩;exact VD f A cap h (rb:=rb) (R:=λy=>b.getD y false) ⟨_,_,_,z,λk B=>by
  have C:k<b.length:=by rw[j];exact B
  rw[dV,List.getElem?_toArray,rL (by simpa using C),List.getElem?_map,rN,rI C];rfl⟩ l
theorem XT{w x y x' a:Nat}(b:x<w)(c:x'<w)(h:y*w+x=a*w+x'):y=a∧x=x':=by
 rcases Nat.lt_trichotomy y a with d|d|d
 ·have:=Nat.mul_le_mul_right w (show y+1≤a from d);rw[Nat.add_mul] at this;omega
 ·subst d;exact⟨rfl,O⟩
 ·have:=Nat.mul_le_mul_right w (show a+1≤y from d);rw[Nat.add_mul] at this;omega
def Bg(L:List Cel)(W H:Nat)(f:Nat→Nat→Cel):Prop:=L.length=W*H∧∀x y,x<W→y<H→L[y*W+x]?=some (f x y)
theorem Bg.of{g:Gr}(a:g.ok):Bg g.cs g.w g.h g.at:=⟨a.len,λ_ _ b c=>a.at_some b c⟩
theorem Bg.lt{L:List Cel}{W H:Nat}{f:Nat→Nat→Cel}(h:Bg L W H f){x y:Nat}(a:x<W)(b:y<H):y*W+x<L.length:=by
 have:=Nat.mul_le_mul_right W (show y+1≤H from b);rw[Nat.add_mul] at this;rw[h.1,Nat.mul_comm W H];omega
theorem Bg.set{L:List Cel}{W H:Nat}{f d:Nat→Nat→Cel}(h:Bg L W H f){x y:Nat}(e:x<W)(g:y<H){c:Cel}(i:d x y=c)(j:∀x' k,x'<W→k<H→¬(x'=x∧k=y)→d x' k=f x' k):Bg (L.set (y*W+x) c) W H d:=by
 refine⟨by rw[List.length_set];exact h.1,λx' k l m=>?_⟩;rw[List.getElem?_set];by_cases n:y*W+x=k*W+x'
 ·obtain⟨rfl,rfl⟩:=XT e l n;rw[rG rfl,rG (h.lt e g),i]
 ·rw[rF n,h.2 x' k l m,j x' k l m λ⟨a,b⟩=>n (by rw[a,b])]
theorem Bg.congr{L:List Cel}{W H:Nat}{f a:Nat→Nat→Cel}(h:Bg L W H f)(b:∀x y,x<W→y<H→a x y=f x y):Bg L W H a:=⟨h.1,λx y c d=>by rw[b x y c d];exact h.2 x y c d⟩
theorem Bg.row{L:List Cel}{W H:Nat}{f:Nat→Nat→Cel}(h:Bg L W H f){y:Nat}(a:y<H):(⟨W,H,L⟩:Gr).row y=Av W λx=>f x y:=by
 have b:y*W+W≤L.length:=by
  have:=Nat.mul_le_mul_right W (show y+1≤H from a);rw[Nat.add_mul] at this;rw[h.1,Nat.mul_comm W H];omega
 unfold Gr.row;refine FV (by rw[List.length_take,List.length_drop];dsimp only;omega) λx c=>?_;rw[List.getElem?_take_of_lt c,List.getElem?_drop];exact h.2 x y c a
theorem Bg.mem{L:List Cel}{W H:Nat}{f:Nat→Nat→Cel}(h:Bg L W H f){p:Cel→Prop}(a:∀x y,x<W→y<H→p (f x y)):∀c∈L,p c:=by
 intro c b;obtain⟨i,d,rfl⟩:=List.mem_iff_getElem.1 b;have g:0<W:=by
  rcases Nat.eq_zero_or_pos W with j|j
  ·rw[h.1,j] at d;simp at d
  ·exact j
 have k:i<W*H:=by rw[←h.1];exact d
 have l:i % W<W:=Nat.mod_lt _ g;have m:i / W<H:=Nat.div_lt_of_lt_mul k;have e:=h.2 (i % W) (i / W) l m;rw[Nat.div_add_mod',rI d] at e;rw[Option.some.inj e];exact a _ _ l m
theorem Fu{g:Gr}(a:g.ok)(b:g.right=true){x y:Nat}(c:x<g.w)(d:y<g.h):(g.at x y).fits:=a.fits_all b _ (List.mem_of_getElem? (a.at_some c d))
theorem Oj{w:World}{g:Gr}(hg:g.ok)(hr:g.right=true){e:Option TypeId}{a:Option Addr}(hs:SxC w e a g.cs)(cap:Nat)(hcap:g.cs.length≤cap){top fin n:Int}{c:Cel}(hc:c.usual=true):
  Calls prog 130 #[g.val a cap,.int .i64 top,.int .i64 fin,.int .i64 n,c.val] w (Ac λv w'=>GAt w.heap.size w' v (g.scroll top fin n c)∧Chg [] w w'):=by
 have h2:=hg.le;have h3:=hg.w0;have h4:=hg.w1;have h5:=hg.h1;have h6:=hg.h0;apply dN;intro K hK;unfold Tj;unfold Gr.val Cel.val;refine sn ?_;refine OpX.gen λw0 hw0=>?_;have hc0:Chg [] w w0:=by rw[hw0];exact sy
 have hz0:w0.heap.size=w.heap.size+3:=by rw[hw0];exact so
 have a3:w0.heap[w.heap.size]?=some (.cells #[.int .i64 g.w,.int .i64 g.h,.slice a g.cs.length cap] 50):=by rw[hw0];exact so
 have a5:w0.heap[w.heap.size+1]?=some (.cells #[.int .i32 c.r,.int .u8 c.fg.toNat,.int .u8 c.bg.toNat,.int .u8 c.a.toNat] 60):=by rw[hw0];exact so
 have a6:w0.heap[w.heap.size+2]?=some (.cells #[.int .i64 0,.int .i64 0,.slice none 0 0] 50):=by rw[hw0];exact so
 clear hw0;have hck:=Hz hg hr (hs.chg0 hc0) cap hcap;unfold Gr.val at hck;refine td H5 rfl (hck) ?_;rintro v w1' ⟨rfl,hc1⟩;have b3:=hc1.keep a3 Z;have b5:=hc1.keep a5 Z;have b6:=hc1.keep a6 Z;refine sq b5 ?_;have hpl:=JI w1' c hc;unfold Cel.val at hpl;refine td I4 rfl (hpl) ?_;rintro v w2 ⟨rfl,hc2⟩;have hc02:=(hc0.trans0 hc1).trans0 hc2;have c3:=hc2.keep b3 Z;have c5:=hc2.keep b5 Z;have c6:=hc2.keep b6 Z;refine sh (λv w'=>v=.bool false∧w'=w2) (by exact so) ?_;rintro v w3 ⟨rfl,rfl⟩;have l6:=Aa c6;refine sq c3 ?_;refine td F5 rfl (FE w3 top 0 g.h O) ?_;rintro v w4 ⟨rfl,rfl⟩;refine sq c3 ?_;refine td F5 rfl (FE w4 fin 0 g.h O) ?_;rintro v w3 ⟨rfl,rfl⟩;refine td F5 rfl (FE w3 n (-100) 100 O) ?_;rintro v w4 ⟨rfl,rfl⟩;obtain⟨T,hT⟩:∃T:Nat,min (max top 0) (g.h:Int)=T:=⟨(min (max top 0) (g.h:Int)).toNat,O⟩;obtain⟨E,hE⟩:∃E:Nat,min (max fin 0) (g.h:Int)=E:=⟨(min (max fin 0) (g.h:Int)).toNat,O⟩;obtain⟨N,hN⟩:∃N:Int,min (max n (-100)) 100=N:=⟨_,rfl⟩;have hTb:T≤g.h:=O;have hEb:E≤g.h:=O;have hNb:-100≤N∧N≤100:=O;rw[hT,hE,hN];refine sq c3 ?_;have hoe:Ox w4.heap.size (w4.alloc (.cells #[] 60)) 60 4 Cel.cells (.slice (some ⟨w4.heap.size,0,none⟩) 0 0) []:=Ox.built (c:=[]) (by exact so) Cel.len (rH _) rfl rfl O rfl;refine Bd (l:=[]) (l2:=g.cs) CZ Cel.len Cel.ok hoe ((hs.chg0 hc02).chg0 (Ar _ _)) rfl (by simp;omega) O (by refine sn ?_;omega) ?_;intro v5 w5 ho5 hc5 _;rw[List.nil_append] at ho5;have hc45:Chg [] w4 w5:=C2 hoe (Ar _ _) hc5;obtain⟨F,hF⟩:∃F:Nat→Nat→Cel,F=λ(x y:Nat)=>if(T:Int)≤(y:Int)+N∧(y:Int)+N<E then g.at x ((y:Int)+N).toNat else c:=⟨_,rfl⟩
 obtain⟨St,hSt⟩:∃St:Nat→Nat→World→Prop,St=λx y w'=>Chg [] w4 w'∧∃L,Ox w4.heap.size w' 60 4 Cel.cells v5 L ∧
  Bg L g.w g.h (λx' y'=>if T≤y'∧y'<E∧(y'<y∨y'=y∧x'<x) then F x' y' else g.at x' y'):=⟨_,rfl⟩
 have hSt0:St 0 T w5:=by
  rw[hSt];exact⟨hc45,g.cs,ho5,(Bg.of hg).congr λx y _ _=>rF O⟩
 have hss:=hs.chg0 hc02;refine Loop1.st (λy:Nat=>.int .i64 (y:Int)) (λy w'=>T≤y∧(y≤E∨y=T)∧St 0 y w') (λy=>E-y) T rfl ⟨rH _,.inr rfl,hSt0⟩ ?_;rintro next y wy hn ⟨hTy,hyE,hS⟩
 have hcy:Chg [] w4 wy:=by rw[hSt] at hS;exact hS.1
 refine sn ?_;refine sd (λgy=>?_) (λgy=>?_)
 ·have hy':y<g.h:=O;refine Loop1.st (λx:Nat=>.int .i64 (x:Int)) (λx w'=>x≤g.w∧St x y w') (λx=>g.w-x) 0 rfl ⟨Nat.zero_le _,hS⟩ ?_;rintro next2 x wx hn2 ⟨hx,hSx⟩;have hcx:Chg [] w4 wx:=by rw[hSt] at hSx;exact hSx.1
  have f3:=hcx.keep c3 Z;have f5:=hcx.keep c5 Z;refine sq f3 ?_;refine sd (λgx=>?_) (λgx=>?_)
  ·have hx':x<g.w:=O;have ex:(x:Int)+1=((x+1:Nat):Int):=O;rw[hSt] at hSx;obtain⟨i1,L,i2,i5⟩:=hSx;have e1:(y:Int)*(g.w:Int)=((y*g.w:Nat):Int):=Z;have e2:((y*g.w:Nat):Int)+(x:Int)=((y*g.w+x:Nat):Int):=Z;have hlt:=i5.lt hx' hy';have hnl:=i5.1;have hwh:=hg.len;refine si (λw'=>St (x+1) y w') ?_ ?_
   ·refine sr f3 f5 ?_;obtain⟨gB,capB,xB,rfl,hgB,hgBl,hputB,hoxB⟩:=i2.put Cel.len (i:=y*g.w+x) hlt c;have hputB':Ao wx.heap[gB]? ((y*g.w+x)*4) [.int .i32 c.r,.int .u8 c.fg.toNat,.int .u8 c.bg.toNat,.int .u8 c.a.toNat]=some xB:=hputB;rw[e1,e2];refine sq hputB' ?_;have hcB:Chg [gB] wx (Ab wx gB xB):=(sg _ _).set _ _ Z;have g3:=hcB.keep f3 (by simp;omega);have hssB:=(hss.chg0 hcx).chg hcB λb o e hne hm=>by
     have:=hss.lt hne e;simp at hm;omega
    generalize Ab wx gB xB=wB at *;refine sh (λv w'=>v=.bool (decide ((T:Int)≤(y:Int)+N∧(y:Int)+N<E))∧w'=wB) ?_ ?_
    ·refine sn ?_;refine sd (λh=>?_) (λh=>⟨sv λh'=>h h'.1,rfl⟩);refine sn ?_;exact sw ⟨λh'=>⟨h,h'⟩,λh'=>h'.2⟩
    rintro v wB' ⟨rfl,rfl⟩;refine sd (λhb=>?_) (λhb=>?_)
    ·obtain⟨Y,hY⟩:∃Y:Nat,(y:Int)+N=(Y:Int):=⟨((y:Int)+N).toNat,O⟩;have hYh:Y<g.h:=O;have e3:(Y:Int)*(g.w:Int)=((Y*g.w:Nat):Int):=Z;have e4:((Y*g.w:Nat):Int)+(x:Int)=((Y*g.w+x:Nat):Int):=Z;have hltY:=(Bg.of hg).lt hx' hYh;obtain⟨bB,oB,rfl,-,q1,-⟩:=SxC.cel hssB (hg.at_some hx' hYh);have i5B:Bg (L.set (y*g.w+x) c) g.w g.h (λx' y'=>if x'=x∧y'=y then c else if T≤y'∧y'<E∧(y'<y∨y'=y∧x'<x) then F x' y' else g.at x' y'):=i5.set hx' hy' (rG ⟨rfl,rfl⟩) λx' y' _ _ hne=>rF hne;obtain⟨gC,capC,xC,e5,hgC,hgCl,hputC,hoxC⟩:=hoxB.put Cel.len (i:=y*g.w+x) (by rw[List.length_set];exact hlt) (g.at x Y);rw[Value.slice.injEq] at e5;obtain⟨e5,-,-⟩:=e5;cases e5;have hputC':Ao wB'.heap[gB]? ((y*g.w+x)*4) [.int .i32 (g.at x Y).r,.int .u8 (g.at x Y).fg.toNat,.int .u8 (g.at x Y).bg.toNat,.int .u8 (g.at x Y).a.toNat]=some xC:=hputC;refine sq g3 ?_;rw[hY,e3];simp -dsimp (disch:=first|omega|(simp only[go_sem,seval];try omega))only[go_sem,seval,e4,q1,e1,e2,hputC'];have hcC:Chg [gB] wB' (Ab wB' gB xC):=(sg _ _).set _ _ Z;rw[hSt];refine⟨((i1.trans hcB (by simp;omega)).trans hcC (by simp;omega)).drew,_,hoxC.chg0 (sg _ _).drew,i5B.set hx' hy' ?_ λx' y' _ _ hne=>?_⟩
     ·rw[hF,rG O];dsimp only;rw[rG hb,hY];rfl
     ·rw[rF hne];congr 1;exact propext ⟨λh=>O,λh=>O⟩
    ·rw[hSt];refine⟨i1.trans hcB (by simp;omega),_,hoxB,i5.set hx' hy' ?_ λx' y' _ _ hne=>?_⟩
     ·rw[hF,rG O];exact rF hb
     ·congr 1;exact propext ⟨λh=>O,λh=>O⟩
   ·intro w9 hS9;refine sq ex ?_;exact hn2 (x+1) _ ⟨O,hS9⟩ O
  ·have ey:(y:Int)+1=((y+1:Nat):Int):=O;refine sq ey ?_;refine hn (y+1) _ ⟨O,.inl O,?_⟩ O;rw[hSt] at hSx ⊢;obtain⟨i1,L,i2,i5⟩:=hSx;refine⟨i1,L,i2,i5.congr λx' y' hx2 _=>?_⟩;congr 1;exact propext ⟨λh=>O,λh=>O⟩
 ·have hST:St 0 E wy∨E≤T:=by
   rcases hyE with h|h
   ·exact .inl (by rwa [show E=y by omega])
   ·exact .inr O
  rw[hSt] at hS;obtain⟨i1,L,i2,i5⟩:=hS;have hG:(⟨g.w,g.h,L⟩:Gr).ok:=⟨h3,h4,h6,h5,i5.1⟩;have hcf:c.fits:=Gj (by have:=Eg hc;unfold Cel.single at this;rw[Bool.and_eq_true] at this;exact this.2);have hff:∀d∈L,d.fits:=i5.mem λx y hx hy=>by
   split
   ·rw[hF];dsimp only;split
    ·exact Fu hg hr hx O
    ·exact hcf
   ·exact Fu hg hr hx hy
  have f3:=hcy.keep c3 Z;have f6:=hcy.keep c6 Z;refine sq f3 ?_;refine DJ (f:=boF) false HX DY rfl O O O (rH _) ?_;intro w7 hw7 hob7;have hc7:Chg [] wy w7:=by rw[hw7];exact(sg _ _).drew.alloc _
  clear hw7;have g3:=hc7.keep f3 Z;have g6:=hc7.keep f6 Z;refine sq g3 ?_;have hLn:L.length=g.cs.length:=by rw[i5.1,hg.len]
  obtain⟨nb,cp,sp,rfl,hcp,hnb,hblk⟩:=i2.blk (by intro e;rw[e] at hLn;have:=hg.ne;cases hgc:g.cs<;>simp_all);have hall:=HQ hG (i2.chg0 hc7) hcp hob7 (List.length_replicate ..) hff;have hTe:(T:Int)=min (max top 0) g.h:=hT.symm;have hEe:(E:Int)=min (max fin 0) g.h:=hE.symm;have hGr:(Gr.of g.w g.h λy=>if(List.replicate g.h false).getD y false then Au ((⟨g.w,g.h,L⟩:Gr).row y) else(⟨g.w,g.h,L⟩:Gr).row y)=g.scroll top fin n c:=by
   unfold Gr.scroll Gr.chg Gr.of;congr 1;refine BS λy' hy'=>?_;rw[rF (by rw[rN,List.getElem?_replicate];split<;>simp),i5.row hy',←hTe,←hEe];by_cases hy2:T≤y'∧y'<E
   ·rw[rG O,Hl (WM hr hc O O _)];unfold Gr.scrollF;by_cases hb:(T:Int)≤(y':Int)+N∧(y':Int)+N<E
    ·rw[rF O,hg.row_line O];refine AX λx' hx'=>?_;rw[rG O,hF];dsimp only;rw[rG hb];congr 1;omega
    ·rw[rG O];refine AX λx' hx'=>?_;rw[rG O,hF];exact rF hb
   ·rw[rF O,hg.row_line hy'];exact AX λx' hx'=>rF O
  rw[hGr] at hall;generalize g.scroll top fin n c=G2 at *;refine td HS rfl (hall) ?_;rintro v w9 ⟨⟨nb9,cap9,sp9,rfl,k1,k2,k3⟩,hc9⟩;have k6:=hc9.keep g6 Z;have lg6:=Aa k6;simp -dsimp (disch:=first|omega|(simp only[go_sem,seval];try omega))only[go_sem,seval,Gr.val,k6];have hzy:=hcy.size;have hz7:=hc7.size;have hcs:∀o,Chg [w.heap.size+2] w9 (Ab w9 (w.heap.size+2) o):=λo=>(sg _ _).set _ _ Z;refine hK _ _ ⟨⟨nb9,cap9,sp9,rfl,k1,O,(hcs _).keep k3 (by simp;omega)⟩,(((hc02.trans0 hcy).trans0 hc7).trans0 hc9).trans (hcs _) Z⟩
theorem Qk{H Y y:Nat}(a:Y<H):((List.replicate H false).set Y true).getD y false=decide (y=Y):=by
 rw[rN,List.getElem?_set,List.getElem?_replicate];by_cases h:Y=y
 ·subst h;simp [a]
 ·rw[rF h];by_cases b:y<H<;>simp [b,Ne.symm h]
theorem ah{w:World}{g:Gr}(hg:g.ok)(hr:g.right=true){e e':Option TypeId}{a a':Option Addr}(hs:SxC w e a g.cs)(cap:Nat)(hcap:g.cs.length≤cap){X Y:Nat}(hY:Y<g.h){l:List Cel}(hl:SxC w e' a' l)(cap':Nat)(hll:X+l.length≤g.w)(hl0:0<l.length)(hf:∀c∈l,c.fits):
  Calls prog 119 #[g.val a cap,.int .i64 X,.int .i64 Y,.slice a' l.length cap'] w (Ac λv w'=>GAt w.heap.size w' v (g.put X Y l)∧Chg [] w w'):=by
 have h2:=hg.le;have h3:=hg.w0;have h4:=hg.w1;have h5:=hg.h1;have h6:=hg.h0;apply UW;intro K hK;unfold OE;simp -dsimp (disch:=first|omega|(simp only[go_sem,seval];try omega))only[go_sem,seval,Gr.val];refine OpX.gen λw0 hw0=>?_;have hc0:Chg [] w w0:=by rw[hw0];exact sy
 have a3:w0.heap[w.heap.size]?=some (.cells #[.int .i64 g.w,.int .i64 g.h,.slice a g.cs.length cap] 50):=by rw[hw0];exact so
 have a6:w0.heap[w.heap.size+1]?=some (.cells #[.int .i64 0,.int .i64 0,.slice none 0 0] 50):=by rw[hw0];exact so
 clear hw0;have hck:=Hz hg hr (hs.chg0 hc0) cap hcap;unfold Gr.val at hck;refine td H5 rfl (hck) ?_;rintro v w2 ⟨rfl,hc1⟩;have hc02:=hc0.trans0 hc1;have c3:=hc1.keep a3 Z;have c6:=hc1.keep a6 Z;have l6:=Aa c6;refine sh (λv w'=>v=.bool false∧w'=w2) ?_ ?_
 ·refine sn ?_;refine sd (λh=>O) (λ_=>?_);refine sq c3 ?_;simp;omega
 rintro v w3 ⟨rfl,rfl⟩;refine sq c3 ?_;refine DJ (f:=boF) false HX DY rfl O O O (rH _) ?_;intro w4 hw4 hob4;have hc4:Chg [] w3 w4:=by rw[hw4];exact Ar _ _
 have hz4:w4.heap.size=w3.heap.size+1:=by rw[hw4];exact so
 clear hw4;obtain⟨g4,cap4,x4,he4,hg4b,hg4l,hput4,hob5⟩:=hob4.put DY (i:=Y) (by simp;exact hY) true;rw[Value.slice.injEq] at he4;obtain⟨he4,-,-⟩:=he4;cases he4;have hput4':Ao w4.heap[w3.heap.size]? Y [.bool true]=some x4:=by have:=hput4;rwa [Nat.mul_one] at this
 have hc5:Chg [] w3 (Ab w4 w3.heap.size x4):=hc4.set _ _ (.inr (rH _));have hg4:=hc4.keep c3 Z;refine sr hput4' hg4 ?_;have hz5:(Ab w4 w3.heap.size x4).heap.size=w3.heap.size+1:=by refine sn ?_;exact hz4
 have e34:w4.heap.size=(Ab w4 w3.heap.size x4).heap.size:=O;generalize Ab w4 w3.heap.size x4=w5 at *;rw[e34];have d3:=hc5.keep c3 Z;have d6:=hc5.keep c6 Z;have hoe:Ox w5.heap.size (w5.alloc (.cells #[] 60)) 60 4 Cel.cells (.slice (some ⟨w5.heap.size,0,none⟩) 0 0) []:=Ox.built (c:=[]) (by exact so) Cel.len (rH _) rfl rfl O rfl;refine Bd (l:=[]) (l2:=g.cs) CZ Cel.len Cel.ok hoe ((hs.chg0 hc02).chg0 (hc5.alloc _)) rfl (by simp;omega) O (by refine sn ?_;omega) ?_;intro v6 w6 ho6 hc6 _;rw[List.nil_append] at ho6;have hc56:Chg [] w5 w6:=C2 hoe (Ar _ _) hc6;refine Loop1.st (λk:Nat=>.int .i64 k) (λk w'=>k≤l.length∧Chg [] w5 w'∧∃L,Ox w5.heap.size w' 60 4 Cel.cells v6 L∧Bg L g.w g.h (λx' y'=>if y'=Y∧X≤x'∧x'<X+k then l.getD (x'-X) Cel.none else g.at x' y')) (λk=>l.length-k) 0 rfl ⟨O,hc56,g.cs,ho6,(Bg.of hg).congr λx y _ _=>rF O⟩ ?_;rintro next k w7 hn ⟨hk,hc7,L,ho7,hL⟩
 have f3:=hc7.keep d3 Z;have f6:=hc7.keep d6 Z;refine sn ?_;refine sd (λh1=>?_) (λh1=>?_)
 ·have hkl:k<l.length:=O;refine sh (λv w'=>v=.bool true∧w'=w7) ?_ ?_
  ·refine sq f3 ?_;refine sd (λ_=>?_) (λh=>O);refine sq f3 ?_;refine sd (λ_=>⟨rfl,rfl⟩) (λh=>O)
  rintro v w8 ⟨rfl,rfl⟩;obtain⟨b',o',rfl,hb',m1,-⟩:=SxC.cel ((hl.chg0 hc02).chg0 (hc5.trans0 hc7)) (rI hkl);have hlt:=hL.lt (x:=X+k) (y:=Y) O hY;have hnl:=hL.1;have hwh:=hg.len;obtain⟨g7,cap7,x7,rfl,hg7b,hg7l,hput7,hox7⟩:=ho7.put Cel.len (i:=Y*g.w+(X+k)) hlt l[k];have hput7':Ao w8.heap[g7]? ((Y*g.w+(X+k))*4) [.int .i32 l[k].r,.int .u8 l[k].fg.toNat,.int .u8 l[k].bg.toNat,.int .u8 l[k].a.toNat]=some x7:=hput7;have e1:(Y:Int)*(g.w:Int)=((Y*g.w:Nat):Int):=Z;have e2:((Y*g.w:Nat):Int)+(X:Int)+(k:Int)=((Y*g.w+(X+k):Nat):Int):=by push_cast;omega
  simp -dsimp (disch:=first|omega|(simp only[go_sem,seval];try omega))only[go_sem,seval,f3,e1,e2,m1,hput7'];refine hn (k+1) _ ⟨O,(hc7.set _ _ (.inr hg7b)).drew,_,hox7.chg0 (sg _ _).drew,hL.set O hY ?_ λx' y' _ _ hne=>?_⟩ O
  ·rw[rG O,show X+k-X=k by omega,rN,rI hkl];rfl
  ·congr 1;exact propext ⟨λh=>O,λh=>O⟩
 ·have hke:k=l.length:=O;subst hke;have hLn:L.length=g.cs.length:=by rw[hL.1,hg.len]
  obtain⟨nb,cp,sp,rfl,hcp,hnb,hblk⟩:=ho7.blk (by intro e;rw[e] at hLn;have:=hg.ne;cases hgc:g.cs<;>simp_all);have hG:(⟨g.w,g.h,L⟩:Gr).ok:=⟨h3,h4,h6,h5,hL.1⟩;have hff:∀d∈L,d.fits:=hL.mem λx y hx hy=>by
   split
   ·rename_i h;rw[rN,rI (show x-X<l.length by omega)];exact hf _ (rR _)
   ·exact Fu hg hr hx hy
  have hall:=HQ hG ho7 hcp (hob5.chg0 hc7) Z hff;have hGr:(Gr.of g.w g.h λy=>if((List.replicate g.h false).set Y true).getD y false then Au ((⟨g.w,g.h,L⟩:Gr).row y) else(⟨g.w,g.h,L⟩:Gr).row y)=g.put X Y l:=by
   unfold Gr.put Gr.chg Gr.of;congr 1;refine BS λy' hy'=>?_;have hsp:=BX (x:=(Y:Int)) (n:=1) (size:=(g.h:Int)) (i:=(y':Int)) O O;rw[Qk hY,hL.row hy'];by_cases h:y'=Y
   ·rw[rG (by simpa using h),rG (hsp.2 O)];congr 1;refine AX λx' hx'=>?_;have hsx:=BX (x:=(X:Int)) (n:=(l.length:Int)) (size:=(g.w:Int)) (i:=(x':Int)) O O;by_cases h2:X≤x'∧x'<X+l.length
    ·rw[rG ⟨h,h2⟩,rG (hsx.2 O)];congr 1;omega
    ·rw[rF (λh'=>h2 h'.2),rF (λh'=>h2 (by have:=hsx.1 h';omega))]
   ·rw[rF (by simpa using h),rF (λh'=>h (by have:=hsp.1 h';omega)),hg.row_line hy'];exact AX λx' _=>rF (λh'=>h h'.1)
  rw[hGr] at hall;generalize g.put X Y l=G2 at *;refine sq f3 ?_;refine td HS rfl (hall) ?_;rintro v w9 ⟨⟨nb9,cap9,sp9,rfl,k1,k2,k3⟩,hc9⟩;have k6:=hc9.keep f6 Z;have lg6:=Aa k6;simp -dsimp (disch:=first|omega|(simp only[go_sem,seval];try omega))only[go_sem,seval,Gr.val,k6];have hz7:=hc7.size;have hcs:∀o,Chg [w.heap.size+1] w9 (Ab w9 (w.heap.size+1) o):=λo=>(sg _ _).set _ _ Z;refine hK _ _ ⟨⟨nb9,cap9,sp9,rfl,k1,O,(hcs _).keep k3 (by simp;omega)⟩,(((hc02.trans0 hc5).trans0 hc7).trans0 hc9).trans (hcs _) Z⟩
theorem LO{w:World}{g:Gr}(hg:g.ok)(hr:g.right=true){e:Option TypeId}{a:Option Addr}(hs:SxC w e a g.cs)(cap:Nat)(hcap:g.cs.length≤cap){X Y:Nat}(hX:X<g.w)(hY:Y<g.h){n:Int}{c:Cel}(hc:c.usual=true):
  Calls prog 132 #[g.val a cap,.int .i64 X,.int .i64 Y,.int .i64 n,c.val] w (Ac λv w'=>GAt w.heap.size w' v (g.shift X Y n c)∧Chg [] w w'):=by
 have h2:=hg.le;have h3:=hg.w0;have h4:=hg.w1;have h5:=hg.h1;have h6:=hg.h0;apply gT;intro K hK;unfold Qi;unfold Gr.val Cel.val;refine sn ?_;refine OpX.gen λw0 hw0=>?_;have hc0:Chg [] w w0:=by rw[hw0];exact sy
 have a3:w0.heap[w.heap.size]?=some (.cells #[.int .i64 g.w,.int .i64 g.h,.slice a g.cs.length cap] 50):=by rw[hw0];exact so
 have a5:w0.heap[w.heap.size+1]?=some (.cells #[.int .i32 c.r,.int .u8 c.fg.toNat,.int .u8 c.bg.toNat,.int .u8 c.a.toNat] 60):=by rw[hw0];exact so
 have a6:w0.heap[w.heap.size+2]?=some (.cells #[.int .i64 0,.int .i64 0,.slice none 0 0] 50):=by rw[hw0];exact so
 clear hw0;have hck:=Hz hg hr (hs.chg0 hc0) cap hcap;unfold Gr.val at hck;refine td H5 rfl (hck) ?_;rintro v w1' ⟨rfl,hc1⟩;have b3:=hc1.keep a3 Z;have b5:=hc1.keep a5 Z;have b6:=hc1.keep a6 Z;refine sq b5 ?_;have hpl:=JI w1' c hc;unfold Cel.val at hpl;refine td I4 rfl (hpl) ?_;rintro v w2 ⟨rfl,hc2⟩;have hc02:=(hc0.trans0 hc1).trans0 hc2;have c3:=hc2.keep b3 Z;have c5:=hc2.keep b5 Z;have c6:=hc2.keep b6 Z;have l6:=Aa c6;refine sh (λv w'=>v=.bool false∧w'=w2) ?_ ?_
 ·refine sn ?_;refine sd (λh=>O) (λ_=>?_);refine sq c3 ?_;simp;omega
 rintro v w3 ⟨rfl,rfl⟩;refine sq c3 ?_;refine td F5 rfl (FE w3 X 0 g.w O) ?_;rintro v w4 ⟨rfl,rfl⟩;refine td F5 rfl (FE w4 n (-300) 300 O) ?_;rintro v w3 ⟨rfl,rfl⟩;obtain⟨N,hN⟩:∃N:Int,min (max n (-300)) 300=N:=⟨_,rfl⟩;have hNb:-300≤N∧N≤300:=O;rw[hN,show min (max (X:Int) 0) (g.w:Int)=(X:Int) by omega];refine sq c3 ?_;refine DJ (f:=boF) false HX DY rfl O O O (rH _) ?_;intro w4 hw4 hob4;have hc4:Chg [] w3 w4:=by rw[hw4];exact Ar _ _
 have hz4:w4.heap.size=w3.heap.size+1:=by rw[hw4];exact so
 clear hw4;obtain⟨g4,cap4,x4,he4,hg4b,hg4l,hput4,hob5⟩:=hob4.put DY (i:=Y) (by simp;exact hY) true;rw[Value.slice.injEq] at he4;obtain⟨he4,-,-⟩:=he4;cases he4;have hput4':Ao w4.heap[w3.heap.size]? Y [.bool true]=some x4:=by have:=hput4;rwa [Nat.mul_one] at this
 have hc5:Chg [] w3 (Ab w4 w3.heap.size x4):=hc4.set _ _ (.inr (rH _));have hg4:=hc4.keep c3 Z;refine sr hput4' hg4 ?_;have hz5:(Ab w4 w3.heap.size x4).heap.size=w3.heap.size+1:=by refine sn ?_;exact hz4
 have e34:w4.heap.size=(Ab w4 w3.heap.size x4).heap.size:=O;generalize Ab w4 w3.heap.size x4=w5 at *;rw[e34];have d3:=hc5.keep c3 Z;have d5:=hc5.keep c5 Z;have d6:=hc5.keep c6 Z;have hoe:Ox w5.heap.size (w5.alloc (.cells #[] 60)) 60 4 Cel.cells (.slice (some ⟨w5.heap.size,0,none⟩) 0 0) []:=Ox.built (c:=[]) (by exact so) Cel.len (rH _) rfl rfl O rfl;refine Bd (l:=[]) (l2:=g.cs) CZ Cel.len Cel.ok hoe ((hs.chg0 hc02).chg0 (hc5.alloc _)) rfl (by simp;omega) O (by refine sn ?_;omega) ?_;intro v6 w6 ho6 hc6 _;rw[List.nil_append] at ho6;have hc56:Chg [] w5 w6:=C2 hoe (Ar _ _) hc6;have hss:=(hs.chg0 hc02).chg0 hc5;obtain⟨F,hF⟩:∃F:Nat→Cel,F=λ(x:Nat)=>if(X:Int)≤(x:Int)-N∧(x:Int)-N<g.w then g.at ((x:Int)-N).toNat Y else c:=⟨_,rfl⟩
 refine Loop1.st (λk:Nat=>.int .i64 k) (λk w'=>X≤k∧k≤g.w∧Chg [] w5 w'∧∃L,Ox w5.heap.size w' 60 4 Cel.cells v6 L∧Bg L g.w g.h (λx' y'=>if y'=Y∧X≤x'∧x'<k then F x' else g.at x' y')) (λk=>g.w-k) X rfl ⟨O,O,hc56,g.cs,ho6,(Bg.of hg).congr λx y _ _=>rF O⟩ ?_;rintro next k w7 hn ⟨hXk,hk,hc7,L,ho7,hL⟩
 have f3:=hc7.keep d3 Z;have f5:=hc7.keep d5 Z;have f6:=hc7.keep d6 Z;refine sq f3 ?_;refine sd (λh1=>?_) (λh1=>?_)
 ·have hkl:k<g.w:=O;have e1:(Y:Int)*(g.w:Int)=((Y*g.w:Nat):Int):=Z;have e2:((Y*g.w:Nat):Int)+(k:Int)=((Y*g.w+k:Nat):Int):=Z;have ex:(k:Int)+1=((k+1:Nat):Int):=O;have hlt:=hL.lt hkl hY;have hnl:=hL.1;have hwh:=hg.len;refine si (λw'=>Chg [] w5 w'∧∃L,Ox w5.heap.size w' 60 4 Cel.cells v6 L∧Bg L g.w g.h (λx' y'=>if y'=Y∧X≤x'∧x'<k+1 then F x' else g.at x' y')) ?_ ?_
  ·refine sr f3 f5 ?_;obtain⟨gB,capB,xB,rfl,hgB,hgBl,hputB,hoxB⟩:=ho7.put Cel.len (i:=Y*g.w+k) hlt c;have hputB':Ao w7.heap[gB]? ((Y*g.w+k)*4) [.int .i32 c.r,.int .u8 c.fg.toNat,.int .u8 c.bg.toNat,.int .u8 c.a.toNat]=some xB:=hputB;rw[e1,e2];refine sq hputB' ?_;have hcB:Chg [gB] w7 (Ab w7 gB xB):=(sg _ _).set _ _ Z;have g3:=hcB.keep f3 (by simp;omega);have hssB:=(hss.chg0 hc7).chg hcB λb o e hne hm=>by
    have:=hss.lt hne e;simp at hm;omega
   have i5B:Bg (L.set (Y*g.w+k) c) g.w g.h (λx' y'=>if x'=k∧y'=Y then c else if y'=Y∧X≤x'∧x'<k then F x' else g.at x' y'):=hL.set hkl hY (rG ⟨rfl,rfl⟩) λx' y' _ _ hne=>rF hne;generalize Ab w7 gB xB=wB at *;refine sh (λv w'=>v=.bool (decide ((X:Int)≤(k:Int)-N∧(k:Int)-N<g.w))∧w'=wB) ?_ ?_
   ·refine sn ?_;refine sd (λh=>?_) (λh=>⟨sv λh'=>h h'.1,rfl⟩);refine sq g3 ?_;exact sw ⟨λh'=>⟨h,h'⟩,λh'=>h'.2⟩
   rintro v wB' ⟨rfl,rfl⟩;refine sd (λhb=>?_) (λhb=>?_)
   ·obtain⟨K',hK'⟩:∃K':Nat,(k:Int)-N=(K':Int):=⟨((k:Int)-N).toNat,O⟩;have hKw:K'<g.w:=O;have e4:((Y*g.w:Nat):Int)+(k:Int)-N=((Y*g.w+K':Nat):Int):=by push_cast;omega
    have e5:((Y*g.w+k:Nat):Int)-N=((Y*g.w+K':Nat):Int):=by push_cast;omega
    have hltY:=(Bg.of hg).lt hKw hY;obtain⟨bB,oB,rfl,-,q1,-⟩:=SxC.cel hssB (hg.at_some hKw hY);obtain⟨gC,capC,xC,e6,hgC,hgCl,hputC,hoxC⟩:=hoxB.put Cel.len (i:=Y*g.w+k) (by rw[List.length_set];exact hlt) (g.at K' Y);rw[Value.slice.injEq] at e6;obtain⟨e6,-,-⟩:=e6;cases e6;have hputC':Ao wB'.heap[gB]? ((Y*g.w+k)*4) [.int .i32 (g.at K' Y).r,.int .u8 (g.at K' Y).fg.toNat,.int .u8 (g.at K' Y).bg.toNat,.int .u8 (g.at K' Y).a.toNat]=some xC:=hputC;simp -dsimp (disch:=first|omega|(simp only[go_sem,seval];try omega))only[go_sem,seval,g3,e1,e2,e4,e5,q1,hputC'];have hcC:Chg [gB] wB' (Ab wB' gB xC):=(sg _ _).set _ _ Z;refine⟨((hc7.trans hcB (by simp;omega)).trans hcC (by simp;omega)).drew,_,hoxC.chg0 (sg _ _).drew,i5B.set hkl hY ?_ λx' y' _ _ hne=>?_⟩
    ·rw[hF,rG O];dsimp only;rw[rG hb,hK'];rfl
    ·rw[rF hne];congr 1;exact propext ⟨λh=>O,λh=>O⟩
   ·refine⟨hc7.trans hcB (by simp;omega),_,hoxB,hL.set hkl hY ?_ λx' y' _ _ hne=>?_⟩
    ·rw[hF,rG O];exact rF hb
    ·congr 1;exact propext ⟨λh=>O,λh=>O⟩
  ·rintro w9 ⟨i1,i2⟩;refine sq ex ?_;exact hn (k+1) _ ⟨O,O,i1,i2⟩ O
 ·have hke:k=g.w:=O;subst hke;have hLn:L.length=g.cs.length:=by rw[hL.1,hg.len]
  obtain⟨nb,cp,sp,rfl,hcp,hnb,hblk⟩:=ho7.blk (by intro e;rw[e] at hLn;have:=hg.ne;cases hgc:g.cs<;>simp_all);have hG:(⟨g.w,g.h,L⟩:Gr).ok:=⟨h3,h4,h6,h5,hL.1⟩;have hcf:c.fits:=Gj (by have:=Eg hc;unfold Cel.single at this;rw[Bool.and_eq_true] at this;exact this.2);have hff:∀d∈L,d.fits:=hL.mem λx y hx hy=>by
   split
   ·rw[hF];dsimp only;split
    ·exact Fu hg hr O hY
    ·exact hcf
   ·exact Fu hg hr hx hy
  have hall:=HQ hG ho7 hcp (hob5.chg0 hc7) Z hff;have hGr:(Gr.of g.w g.h λy=>if((List.replicate g.h false).set Y true).getD y false then Au ((⟨g.w,g.h,L⟩:Gr).row y) else(⟨g.w,g.h,L⟩:Gr).row y)=g.shift X Y n c:=by
   unfold Gr.shift Gr.chg Gr.of;congr 1;refine BS λy' hy'=>?_;have hsp:=BX (x:=(Y:Int)) (n:=1) (size:=(g.h:Int)) (i:=(y':Int)) O O;rw[Qk hY,hL.row hy'];by_cases h:y'=Y
   ·rw[rG (by simpa using h),rG (hsp.2 O)];congr 1;unfold Gr.shiftF;refine AX λx' hx'=>?_;by_cases h2:X≤x'
    ·rw[rG ⟨h,h2,hx'⟩,rG O,hF];dsimp only;by_cases hb:(X:Int)≤(x':Int)-N∧(x':Int)-N<g.w
     ·rw[rG hb,rG O,h];congr 1;omega
     ·rw[rF hb,rF O]
    ·rw[rF (λh'=>h2 h'.2.1),rF O]
   ·rw[rF (by simpa using h),rF (λh'=>h (by have:=hsp.1 h';omega)),hg.row_line hy'];exact AX λx' _=>rF (λh'=>h h'.1)
  rw[hGr] at hall;generalize g.shift X Y n c=G2 at *;refine sq f3 ?_;refine td HS rfl (hall) ?_;rintro v w9 ⟨⟨nb9,cap9,sp9,rfl,k1,k2,k3⟩,hc9⟩;have k6:=hc9.keep f6 Z;have lg6:=Aa k6;simp -dsimp (disch:=first|omega|(simp only[go_sem,seval];try omega))only[go_sem,seval,Gr.val,k6];have hz7:=hc7.size;have hcs:∀o,Chg [w.heap.size+2] w9 (Ab w9 (w.heap.size+2) o):=λo=>(sg _ _).set _ _ Z;refine hK _ _ ⟨⟨nb9,cap9,sp9,rfl,k1,O,(hcs _).keep k3 (by simp;omega)⟩,(((hc02.trans0 hc5).trans0 hc7).trans0 hc9).trans (hcs _) Z⟩
theorem Xb{w:World}{g:Gr}(hg:g.ok)(hr:g.right=true){e:Option TypeId}{a:Option Addr}(hs:SxC w e a g.cs)(cap:Nat)(hcap:g.cs.length≤cap){X Y W H:Int}{c:Cel}(hc:c.usual=true)(x0:-9223372036854775808≤X)(x1:X≤9223372036854775807)(y0:-9223372036854775808≤Y)(y1:Y≤9223372036854775807)(w1:W≤9223372036854775807)(h1:H≤9223372036854775807):
  Calls prog 183 #[g.val a cap,.agg #[.int .i64 X,.int .i64 Y,.int .i64 W,.int .i64 H],c.val] w (Ac λv w'=>GAt w.heap.size w' v (g.fill X Y W H c)∧Chg [] w w'):=by
 have h2:=hg.le;have h3:=hg.w0;have h4:=hg.w1;have h5:=hg.h1;have h6:=hg.h0;apply gR;intro K hK;unfold RN;unfold Gr.val Cel.val;refine sn ?_;refine OpX.gen λw0 hw0=>?_;have hc0:Chg [] w w0:=by rw[hw0];exact sy
 have hz0:w0.heap.size=w.heap.size+4:=by rw[hw0];exact so
 have a3:w0.heap[w.heap.size]?=some (.cells #[.int .i64 g.w,.int .i64 g.h,.slice a g.cs.length cap] 50):=by rw[hw0];exact so
 have a4:w0.heap[w.heap.size+1]?=some (.cells #[.int .i64 X,.int .i64 Y,.int .i64 W,.int .i64 H] 42):=by rw[hw0];exact so
 have a5:w0.heap[w.heap.size+2]?=some (.cells #[.int .i32 c.r,.int .u8 c.fg.toNat,.int .u8 c.bg.toNat,.int .u8 c.a.toNat] 60):=by rw[hw0];exact so
 have a6:w0.heap[w.heap.size+3]?=some (.cells #[.int .i64 0,.int .i64 0,.slice none 0 0] 50):=by rw[hw0];exact so
 clear hw0;have hck:=Hz hg hr (hs.chg0 hc0) cap hcap;unfold Gr.val at hck;refine td H5 rfl (hck) ?_;rintro v w1' ⟨rfl,hc1⟩;have b3:=hc1.keep a3 Z;have b4:=hc1.keep a4 Z;have b5:=hc1.keep a5 Z;have b6:=hc1.keep a6 Z;refine sq b5 ?_;have hpl:=JI w1' c hc;unfold Cel.val at hpl;refine td I4 rfl (hpl) ?_;rintro v w2 ⟨rfl,hc2⟩;have hc02:=(hc0.trans0 hc1).trans0 hc2;have c3:=hc2.keep b3 Z;have c4:=hc2.keep b4 Z;have c5:=hc2.keep b5 Z;have c6:=hc2.keep b6 Z;refine sh (λv w'=>v=.bool false∧w'=w2) (by exact so) ?_;rintro v w3 ⟨rfl,rfl⟩;refine sq c3 ?_;refine DJ (f:=boF) false HX DY rfl O O O (rH _) ?_;intro w4 hw4 hob4;have hc4:Chg [] w3 w4:=by rw[hw4];exact Ar _ _
 have hz4:w4.heap.size=w3.heap.size+1:=by rw[hw4];exact so
 clear hw4;have l6:=Aa c6;have d3:=hc4.keep c3 Z;have ld3:=Aa d3;refine sq d3 ?_;have hoe:Ox w4.heap.size (w4.alloc (.cells #[] 60)) 60 4 Cel.cells (.slice (some ⟨w4.heap.size,0,none⟩) 0 0) []:=Ox.built (c:=[]) (by exact so) Cel.len (rH _) rfl rfl O rfl;refine Bd (l:=[]) (l2:=g.cs) CZ Cel.len Cel.ok hoe ((hs.chg0 hc02).chg0 (hc4.alloc _)) rfl (by simp;omega) O (by refine sn ?_;omega) ?_;intro v5 w5 ho5 hc5 _;rw[List.nil_append] at ho5;have hc45:Chg [] w4 w5:=C2 hoe (Ar _ _) hc5;have hc35:=hc4.trans0 hc45;obtain⟨In,hIn⟩:∃In:Nat→Nat→Bool,In=λ(x y:Nat)=>decide (X≤(x:Int)∧(x:Int)<X+W∧Y≤(y:Int)∧(y:Int)<Y+H):=⟨_,rfl⟩;obtain⟨St,hSt⟩:∃St:Nat→Nat→World→Prop,St=λx y w'=>Chg [] w3 w'∧∃L RL,Ox w4.heap.size w' 60 4 Cel.cells v5 L∧Ox w3.heap.size w' 4 1 boF (.slice (some ⟨w3.heap.size,0,none⟩) g.h g.h) RL∧RL.length=g.h ∧
  Bg L g.w g.h (λx' y'=>if(y'<y∨y'=y∧x'<x)∧In x' y'=true then c else g.at x' y')∧(∀y',RL.getD y' false=true→Y≤(y':Int)∧(y':Int)<Y+H)∧(∀x' y',x'<g.w→(y'<y∨y'=y∧x'<x)→In x' y'=true→RL.getD y' false=true):=⟨_,rfl⟩
 have hSt0:St 0 0 w5:=by
  rw[hSt];refine⟨hc35,g.cs,List.replicate g.h false,ho5,hob4.chg0 hc45,List.length_replicate ..,(Bg.of hg).congr λx y _ _=>rF O,λy' h=>?_,λx' y' _ h=>O⟩;rw[rN,List.getElem?_replicate] at h;split at h<;>simp at h
 refine Loop1.st (λy:Nat=>.int .i64 (y:Int)) (λy w'=>y≤g.h∧St 0 y w') (λy=>g.h-y) 0 rfl ⟨Nat.zero_le _,hSt0⟩ ?_;rintro next y wy hn ⟨hy,hS⟩
 have hcy:Chg [] w3 wy:=by rw[hSt] at hS;exact hS.1
 have e3:=hcy.keep c3 Z;refine sq e3 ?_;refine sd (λgy=>?_) (λgy=>?_)
 ·have hy':y<g.h:=O;refine Loop1.st (λx:Nat=>.int .i64 (x:Int)) (λx w'=>x≤g.w∧St x y w') (λx=>g.w-x) 0 rfl ⟨Nat.zero_le _,hS⟩ ?_;rintro next2 x wx hn2 ⟨hx,hSx⟩;have hcx:Chg [] w3 wx:=by rw[hSt] at hSx;exact hSx.1
  have f3:=hcx.keep c3 Z;have f4:=hcx.keep c4 Z;have f5:=hcx.keep c5 Z;refine sq f3 ?_;refine sd (λgx=>?_) (λgx=>?_)
  ·have hx':x<g.w:=O;have ex:(x:Int)+1=((x+1:Nat):Int):=O;refine si (λw'=>St (x+1) y w') ?_ ?_
   ·refine sq f4 ?_;refine td Se rfl (Ot wx x X W O O x0 x1 w1) ?_;rintro v w6 ⟨rfl,rfl⟩;refine sq f4 ?_;refine td Se rfl (Ot w6 y Y H O O y0 y1 h1) ?_;rintro v w7 ⟨rfl,rfl⟩;refine sh (λv w'=>v=.bool (In x y)∧w'=w7) ?_ ?_
    ·refine sn ?_;refine sd (λg1=>⟨congrArg Value.bool (by rw[hIn];exact decide_eq_decide.2 ⟨λh=>⟨g1.1,g1.2,h⟩,λh=>h.2.2⟩),rfl⟩) (λg1=>⟨congrArg Value.bool (by rw[hIn];exact(decide_eq_false λh=>g1 ⟨h.1,h.2.1⟩).symm),rfl⟩)
    rintro v w8 ⟨rfl,rfl⟩;refine BrW.by (λhb=>?_) (λhb=>?_)
    ·refine sq f3 ?_;rw[hSt] at hSx;obtain⟨i1,L,RL,i2,i3,i4,i5,i6,i7⟩:=hSx;obtain⟨g4,cap4,x4,he4,hg4b,hg4l,hput4,hob4'⟩:=i3.put DY (i:=y) O true;rw[Value.slice.injEq] at he4;obtain⟨he4,-,-⟩:=he4;cases he4;have hput4':Ao w8.heap[w3.heap.size]? y [.bool true]=some x4:=by have:=hput4;rwa [Nat.mul_one] at this
     have hcA:Chg [w3.heap.size] w8 (Ab w8 w3.heap.size x4):=(sg _ _).set _ _ Z;have i2':=i2.low hcA (by simp;omega);have hzA:(Ab w8 w3.heap.size x4).heap.size=w8.heap.size:=by exact so
     have m3:=hcA.keep f3 (by simp;omega);have m5:=hcA.keep f5 (by simp;omega);have e1:(y:Int)*(g.w:Int)=((y*g.w:Nat):Int):=Z;have e2:((y*g.w:Nat):Int)+(x:Int)=((y*g.w+x:Nat):Int):=Z;have hlt:=i5.lt hx' hy';have hnl:=i5.1;have hwh:=hg.len;rw[hput4'];refine sr f3 f5 ?_;generalize Ab w8 w3.heap.size x4=wA at *;obtain⟨gB,capB,xB,rfl,hgB,hgBl,hputB,hoxB⟩:=i2'.put Cel.len (i:=y*g.w+x) hlt c;have hputB':Ao wA.heap[gB]? ((y*g.w+x)*4) [.int .i32 c.r,.int .u8 c.fg.toNat,.int .u8 c.bg.toNat,.int .u8 c.a.toNat]=some xB:=hputB;rw[e1,e2];refine sq hputB' ?_;have hcB:Chg [gB] wA (Ab wA gB xB):=(sg _ _).set _ _ Z;rw[hSt];refine⟨(i1.trans hcA Z).trans hcB (by simp;omega),L.set (y*g.w+x) c,RL.set y true,?_,hob4'.chg hcB (λb hb hm=>by simp [Value.ownBlock] at hb hm;omega),by rw[List.length_set];exact i4,i5.set hx' hy' (rG ⟨O,hb⟩) (λx' y' hx2 hy2 hne=>?_),λy' h=>?_,λx' y' hx2 h hI=>?_⟩
     ·exact hoxB
     ·congr 1;apply propext;exact and_congr ⟨λh=>O,λh=>O⟩ Iff.rfl
     ·by_cases he:y'=y
      ·subst he;rw[hIn] at hb;have:=of_decide_eq_true hb;exact⟨this.2.2.1,this.2.2.2⟩
      ·refine i6 y' ?_;rw[rN,List.getElem?_set,rF (λe=>he e.symm)] at h;rw[rN];exact h
     ·rw[rN,List.getElem?_set];by_cases he:y'=y
      ·rw[rG he.symm,rG O];rfl
      ·rw[rF (λe=>he e.symm)];have:=i7 x' y' hx2 O hI;rw[rN] at this;exact this
    ·rw[hSt] at hSx ⊢;obtain⟨i1,L,RL,i2,i3,i4,i5,i6,i7⟩:=hSx;refine⟨i1,L,RL,i2,i3,i4,i5.congr λx' y' _ _=>?_,i6,λx' y' hx2 h hI=>i7 x' y' hx2 ?_ hI⟩
     ·by_cases he:x'=x∧y'=y
      ·obtain⟨rfl,rfl⟩:=he;rw[rF (by rw[hb];simp),rF O]
      ·congr 1;apply propext;exact and_congr ⟨λh=>O,λh=>O⟩ Iff.rfl
     ·by_cases he:x'=x∧y'=y
      ·obtain⟨rfl,rfl⟩:=he;rw[hb] at hI;cases hI
      ·omega
   ·intro w9 hS9;refine sq ex ?_;exact hn2 (x+1) _ ⟨O,hS9⟩ O
  ·have ey:(y:Int)+1=((y+1:Nat):Int):=O;refine sq ey ?_;refine hn (y+1) _ ⟨O,?_⟩ O;rw[hSt] at hSx ⊢;obtain⟨i1,L,RL,i2,i3,i4,i5,i6,i7⟩:=hSx;refine⟨i1,L,RL,i2,i3,i4,i5.congr λx' y' hx2 _=>?_,i6,λx' y' hx2 h hI=>i7 x' y' hx2 O hI⟩;congr 1;apply propext;exact and_congr ⟨λh=>O,λh=>O⟩ Iff.rfl
 ·obtain rfl:y=g.h:=O;rw[hSt] at hS;obtain⟨i1,L,RL,i2,i3,i4,i5,i6,i7⟩:=hS;have hLn:L.length=g.cs.length:=by rw[i5.1,hg.len]
  obtain⟨nb,cp,sp,rfl,hcp,hnb,hblk⟩:=i2.blk (by intro e;rw[e] at hLn;have:=hg.ne;cases hgc:g.cs<;>simp_all);have hG:(⟨g.w,g.h,L⟩:Gr).ok:=⟨h3,h4,h6,h5,i5.1⟩;have hcf:c.fits:=Gj (by have:=Eg hc;unfold Cel.single at this;rw[Bool.and_eq_true] at this;exact this.2);have hff:∀d∈L,d.fits:=i5.mem λx y hx hy=>by
   split
   ·exact hcf
   ·exact Fu hg hr hx hy
  have e6:=hcy.keep c6 Z;have hall:=HQ hG i2 hcp i3 i4 hff;have hrow:∀y',y'<g.h→(⟨g.w,g.h,L⟩:Gr).row y'=Av g.w λx'=>if In x' y'=true then c else g.at x' y':=λy' hy'=>by
   rw[i5.row hy'];refine AX λx' hx'=>?_;congr 1;exact propext ⟨λh=>h.2,λh=>⟨.inl hy',h⟩⟩
  have hGr:(Gr.of g.w g.h λy=>if RL.getD y false then Au ((⟨g.w,g.h,L⟩:Gr).row y) else(⟨g.w,g.h,L⟩:Gr).row y)=g.fill X Y W H c:=by
   unfold Gr.fill Gr.chg Gr.of;congr 1;refine BS λy' hy'=>?_;have hsp:=BX (x:=Y) (n:=H) (size:=(g.h:Int)) (i:=(y':Int)) O O;have hsx:=λ(x':Nat) (hx':x'<g.w)=>BX (x:=X) (n:=W) (size:=(g.w:Int)) (i:=(x':Int)) O O;have hInx:∀x',Y≤(y':Int)∧(y':Int)<Y+H→(In x' y'=true↔(X≤(x':Int)∧(x':Int)<X+W)):=λx' h=>by
    rw[hIn];exact⟨λe=>let z:=of_decide_eq_true e;⟨z.1,z.2.1⟩,λe=>decide_eq_true ⟨e.1,e.2,h.1,h.2⟩⟩
   rw[hrow y' hy'];have hmid:Y≤(y':Int)∧(y':Int)<Y+H→(Av g.w λx'=>if In x' y'=true then c else g.at x' y')=Av g.w λx=>if(AJ X W g.w).1≤(x:Int)∧(x:Int)<(AJ X W g.w).2 then c else g.at x y':=λh =>
    AX λx' hx'=>by
     congr 1;exact propext ((hInx x' h).trans (hsx x' hx').symm)
   cases hR:RL.getD y' false
   ·have hno:∀x',x'<g.w→¬In x' y'=true:=λx' hx' h=>by
     have:=i7 x' y' hx' (.inl hy') h;rw[hR] at this;cases this
    have hl:(Av g.w λx'=>if In x' y'=true then c else g.at x' y')=g.row y':=by
     rw[hg.row_line hy'];exact AX λx' hx'=>rF (hno x' hx')
    rw[rF Z];by_cases hs':(AJ Y H g.h).1≤(y':Int)∧(y':Int)<(AJ Y H g.h).2
    ·rw[rG hs'];dsimp only;rw[←hmid (hsp.1 hs'),hl,Hl (Gr.right.at hr hy')]
    ·rw[rF hs',hl]
   ·have h:=i6 y' hR;rw[rG rfl,rG (hsp.2 h),hmid h]
  rw[hGr] at hall;generalize g.fill X Y W H c=G2 at *;refine sq e3 ?_;refine td HS rfl (hall) ?_;rintro v w9 ⟨⟨nb9,cap9,sp9,rfl,k1,k2,k3⟩,hc9⟩;have g6:=hc9.keep e6 Z;have lg6:=Aa g6;simp -dsimp (disch:=first|omega|(simp only[go_sem,seval];try omega))only[go_sem,seval,Gr.val,g6];have hzy:=hcy.size;have hcs:∀o,Chg [w.heap.size+3] w9 (Ab w9 (w.heap.size+3) o):=λo=>(sg _ _).set _ _ Z;refine hK _ _ ⟨⟨nb9,cap9,sp9,rfl,k1,O,(hcs _).keep k3 (by simp;omega)⟩,((hc02.trans0 hcy).trans0 hc9).trans (hcs _) Z⟩
def NoC(w:World)(F:List Nat):Prop:=∀b∈F,∀c a,w.heap[b]?≠some (.cells c 60 a)
theorem NoC.sx{w w':World}{F:List Nat}(d:NoC w F){a:Option Addr}{l:List Cel}(h:SxC w (some 60) a l)(e:Chg F w w'):SxC w' (some 60) a l:=
 h.chg e λb o f g i=>by
  obtain⟨j,k,c,m,n,p,q,r,s,t,-⟩:=h.at_ g;rw[f] at r;cases r;rw[Ib t] at s;exact d b i _ _ s
def Scm.dblk(M:Scm):List Nat:=M.gv.ownBlock.toList
def ET(w:World)(r:Rw):Prop:=SxC w (some 60) r.a r.cs∧r.cs.length≤200∧∀c∈r.cs,c.fits
structure DAk (k:Nat) (w:World) (s:Nat) (M:Scm) (x y:Int):Prop where
 hb:w.heap[s]?=some (M.dobj x y)
 h0:SxC w (some 60) (some ⟨M.b0,0,none⟩) M.S.g0.cs
 k0:M.S.g0.cs.length≤M.c0
 h1:SxC w (some 60) (some ⟨M.b1,0,none⟩) M.S.g1.cs
 k1:M.S.g1.cs.length≤M.c1
 tl:M.S.tabs.length=200
 own:Oy w 48 Rw.f M.gv M.rows
 few:M.rows.length≤k
 rows:∀r∈M.rows,ET w r
theorem DAk.noc{k:Nat}{w:World}{s:Nat}{M:Scm}{x y:Int}(h:DAk k w s M x y):NoC w (s::M.dblk):=by
 intro b a c d e;rcases rM.1 a with rfl|a
 ·have:=h.hb;rw[e] at this;unfold Scm.dobj at this;simp at this
 ·exact h.own.off e rfl a
theorem DAk.s_own{k:Nat}{w:World}{s:Nat}{M:Scm}{x y:Int}(h:DAk k w s M x y):s∉M.dblk:=λhm=>by
 have hb:=h.hb;unfold Scm.dobj at hb;exact h.own.off hb rfl hm
theorem DAk.lt{k:Nat}{w:World}{s:Nat}{M:Scm}{x y:Int}(h:DAk k w s M x y):∀b∈s::M.dblk,b<w.heap.size:=by
 intro b a;rcases rM.1 a with rfl|a
 ·exact Aa h.hb
 ·exact h.own.lt b a
theorem DAk.chg{w w':World}{s:Nat}{M:Scm}{x y:Int}{F:List Nat}{k:Nat}(h:DAk k w s M x y)(a:Chg F w w')(c:∀b∈s::M.dblk,b∉F)(d:NoC w F):DAk k w' s M x y:=
 ⟨a.keep h.hb (c s Z),d.sx h.h0 a,h.k0,d.sx h.h1 a,h.k1,h.tl,h.own.chg a (λb e=>c b (List.mem_cons_of_mem _ e)),h.few,λr f=>⟨d.sx (h.rows r f).1 a,(h.rows r f).2⟩⟩
theorem DAk.chg0{k:Nat}{w w':World}{s:Nat}{M:Scm}{x y:Int}(h:DAk k w s M x y)(a:Chg [] w w'):DAk k w' s M x y:=h.chg a Z (λb b=>by simp at b)
theorem IN(w:World):NoC w []:=λb a=>by simp at a
theorem DAk.re{k:Nat}{w:World}{s:Nat}{M:Scm}{x y:Int}(h:DAk k w s M x y)(a:Scm)(x' c:Int)(d:SxC w (some 60) (some ⟨a.b0,0,none⟩) a.S.g0.cs∧a.S.g0.cs.length≤a.c0)(e:SxC w (some 60) (some ⟨a.b1,0,none⟩) a.S.g1.cs∧a.S.g1.cs.length≤a.c1)(f:a.S.tabs.length=200)(g:a.gv=M.gv)(i:a.rows=M.rows):DAk k (Ab w s (a.dobj x' c)) s a x' c:=by
 have j:=Aa h.hb;have l:Chg [s] w (Ab w s (a.dobj x' c)):=(sg _ _).set _ _ Z;have m:NoC w [s]:=λb n=>h.noc b (by simp at n;simp [n]);refine⟨Aw _ _ _ _ rfl j,m.sx d.1 l,d.2,m.sx e.1 l,e.2,f,?_,by rw[i];exact h.few,λr o=>?_⟩
 ·rw[g,i];exact h.own.chg l λb n p=>by
   simp at p;subst p;exact h.s_own n
 ·rw[i] at o;exact⟨m.sx (h.rows r o).1 l,(h.rows r o).2⟩
theorem DAk.num{k:Nat}{w:World}{s:Nat}{M:Scm}{x y:Int}(h:DAk k w s M x y)(T:Scr)(x' a:Int)(b:T.g0.cs=M.S.g0.cs)(c:T.g1.cs=M.S.g1.cs)(d:T.tabs.length=200):DAk k (Ab w s (({ M with S:=T }:Scm).dobj x' a)) s { M with S:=T } x' a:=
 h.re { M with S:=T } x' a ⟨b ▸ h.h0,b ▸ h.k0⟩ ⟨c ▸ h.h1,c ▸ h.k1⟩ d rfl rfl
theorem DAk.mv{k:Nat}{w:World}{s:Nat}{M:Scm}{x y:Int}(h:DAk k w s M x y)(x' a:Int):DAk k (Ab w s (M.dobj x' a)) s M x' a:=h.re M x' a ⟨h.h0,h.k0⟩ ⟨h.h1,h.k1⟩ h.tl rfl rfl
theorem DAk.seat{k:Nat}{w:World}{s:Nat}{M:Scm}{x y:Int}(h:DAk k w s M x y)(a b:Nat):DAk k w s { M with S:=M.S.at a b } x y:=⟨h.hb,h.h0,h.k0,h.h1,h.k1,h.tl,h.own,h.few,h.rows⟩
theorem DAk.cur{k:Nat}{w:World}{s:Nat}{M:Scm}{x y:Int}(h:DAk k w s M x y):SxC w (some 60) (some ⟨M.cb,0,none⟩) M.S.cur.cs∧M.S.cur.cs.length≤M.cc:=by
 unfold Scr.cur Scm.cb Scm.cc;cases M.S.alt
 ·exact⟨h.h0,h.k0⟩
 ·exact⟨h.h1,h.k1⟩
theorem DAk.grid{k:Nat}{w:World}{s:Nat}{M:Scm}{x y:Int}(h:DAk k w s M x y){G:Gr}{b c:Nat}{p:List Value}(a:w.heap[b]?=some (.cells (G.cs.flatMap Cel.cells++p).toArray 60))(d:G.cs.length≤c):DAk k (Ab w s ((M.setCur G b c p).dobj x y)) s (M.setCur G b c p) x y:=by
 have e:SxC w (some 60) (some ⟨b,0,none⟩) G.cs:=⟨λ_=>⟨b,0,_,_,_,[],p,rfl,a,by simp [Bz],Z,rfl⟩⟩;refine h.re _ x y ?_ ?_ ?_ ?_ ?_
 all_goals unfold Scm.setCur
 all_goals cases M.S.alt
 ·exact⟨e,d⟩
 ·exact⟨h.h0,h.k0⟩
 ·exact⟨h.h1,h.k1⟩
 ·exact⟨e,d⟩
 all_goals first|exact h.tl|rfl
theorem JA(M:Scm)(G:Gr)(b c:Nat)(p:List Value):(M.setCur G b c p).gv=M.gv:=by unfold Scm.setCur;cases M.S.alt<;>rfl
abbrev DAx(w:World)(s:Nat)(M:Scm)(x y:Int):Prop:=DAk 500 w s M x y
structure Gd (w:World) (M M':Scm):Prop where
 dk:∀b∈M'.dblk,b∈M.dblk∨w.heap.size≤b
 q:∀b,b=M'.b0∨b=M'.b1→b=M.b0∨b=M.b1∨w.heap.size≤b
instance {w:World} {M M':Scm}:CoeFun (Gd w M M') λ_=>∀b∈M'.dblk,b∈M.dblk∨w.heap.size≤b:=⟨Gd.dk⟩
theorem Gd.rf{w:World}{M M':Scm}(h1:M'.gv=M.gv)(h2:M'.b0=M.b0)(h3:M'.b1=M.b1):Gd w M M':=
 ⟨λb hb=>.inl (by unfold Scm.dblk at *;rwa [h1] at hb),λb hb=>by rw[h2,h3] at hb;exact hb.elim .inl λh=>.inr (.inl h)⟩
theorem Gd.trans{w w1:World}{M M1 a:Scm}(c:Gd w M M1)(d:Gd w1 M1 a)(e:w.heap.size≤w1.heap.size):Gd w M a:=
 ⟨λb f=>(d.dk b f).elim (λh=>c.dk b h) λh=>.inr O,λb f=>(d.q b f).elim (λh=>c.q b (.inl h)) λh=>h.elim (λh=>c.q b (.inr h)) λh=>.inr (.inr O)⟩
theorem Gd.cur{w:World}{M M1:Scm}(h:Gd w M M1){b:Nat}(a:w.heap.size≤b)(G:Gr)(c:Nat)(p:List Value):Gd w M (M1.setCur G b c p):=by
 refine⟨λx d=>h.dk x (by unfold Scm.dblk at *;rwa [JA] at d),λx d=>?_⟩;have:x=b∨x=M1.b0∨x=M1.b1:=by
  unfold Scm.setCur at d
  revert d
  cases M1.S.alt
  ·rintro(h|h)
   ·exact .inl h
   ·exact .inr (.inr h)
  ·rintro(h|h)
   ·exact .inr (.inl h)
   ·exact .inl h
 rcases this with rfl|e|e
 ·exact .inr (.inr a)
 ·exact h.q x (.inl e)
 ·exact h.q x (.inr e)
theorem Gd.gv{w:World}{M:Scm}{v:Value}{l:List Rw}(h:∀b∈v.ownBlock.toList,b∈M.dblk∨w.heap.size≤b):Gd w M { M with gv:=v,rows:=l }:=⟨h,λ_ a=>a.elim .inl λh=>.inr (.inl h)⟩
def DDx(w:World)(s:Nat)(M:Scm)(w':World)(T:Scr)(x y:Int):Prop:=∃a:Scm,DAx w' s a x y∧a.S=T∧Chg (s::M.dblk) w w'∧Gd w M a
abbrev DAt(w:World)(s:Nat)(M:Scm):Prop:=DAx w s M M.S.now.x M.S.now.y
abbrev DDo(w:World)(s:Nat)(M:Scm)(w':World)(T:Scr):Prop:=DDx w s M w' T T.now.x T.now.y
theorem DDx.of{w w':World}{s:Nat}{M:Scm}{x y:Int}(h:DAx w' s M x y)(a:Chg (s::M.dblk) w w'){T:Scr}(e:M.S=T):DDx w s M w' T x y:=⟨M,h,e,a,.rf rfl rfl rfl⟩
theorem DDx.trans{w w1 w2:World}{s:Nat}{M M1:Scm}{T:Scr}{x y:Int}(e:Chg (s::M.dblk) w w1)(f:Gd w M M1)(g:DDx w1 s M1 w2 T x y):DDx w s M w2 T x y:=by
 obtain⟨i,a,b,c,d⟩:=g;refine⟨i,a,b,e.trans c λx j=>?_,f.trans d e.size⟩
 ·rcases rM.1 j with rfl|j
  ·exact .inl Z
  ·exact(f x j).imp (λh=>by simp [h]) id
theorem DDx.trans0{w w1 w2:World}{s:Nat}{M:Scm}{T:Scr}{x y:Int}(h:DDx w s M w1 T x y)(e:Chg [] w1 w2):DDx w s M w2 T x y:=by
 obtain⟨f,a,b,c,d⟩:=h;exact⟨f,a.chg0 e,b,c.trans0 e,d⟩
theorem DDx.num{w w1:World}{s:Nat}{M M1:Scm}{x y:Int}(a:Chg (s::M.dblk) w w1)(b:Gd w M M1)(h:DAx w1 s M1 x y)(T:Scr)(x' c:Int)(d:T.g0.cs=M1.S.g0.cs)(e:T.g1.cs=M1.S.g1.cs)(f:T.tabs.length=200):DDx w s M (Ab w1 s (({ M1 with S:=T }:Scm).dobj x' c)) T x' c:=
 .trans a b ⟨_,h.num T x' c d e f,rfl,(sg _ _).set _ _ Z,.rf rfl rfl rfl⟩
theorem DDx.grid{w w1:World}{s:Nat}{M M1:Scm}{x y:Int}(a:Chg (s::M.dblk) w w1)(d:Gd w M M1)(h:DAx w1 s M1 x y){G:Gr}{b c:Nat}{p:List Value}(e:w1.heap[b]?=some (.cells (G.cs.flatMap Cel.cells++p).toArray 60))(f:G.cs.length≤c)(g:w.heap.size≤b):DDx w s M (Ab w1 s ((M1.setCur G b c p).dobj x y)) (M1.S.setCur G) x y:=
 ⟨_,h.grid e f,M1.setCur_S G b c p,a.set _ _ (.inl Z),d.cur g _ _ _⟩
theorem JN(w:World)(n:Int)(e:Nat)(a:0<e)(b:e≤1000):Calls prog 121 #[.int .i64 n,.int .i64 e] w (Ac λv c=>v=.int .i64 (Ay n e:Nat)∧c=w):=by
 apply Vo;intro K d;unfold SP;unfold Ay at d;refine sn ?_;refine sd (λg=>d _ _ ⟨by congr 1;omega,rfl⟩) (λg=>?_);refine sn ?_;refine sd (λg2=>?_) (λg2=>d _ _ ⟨by congr 1;omega,rfl⟩);refine sn ?_;exact d _ _ ⟨by congr 1;omega,rfl⟩
theorem Cl {w:World} {s:Nat} {M:Scm} {x y:Int} (h:DAx w s M x y):Calls prog 12 #[.pointer (some ⟨s,0,none⟩)] w (Ac λv w'=>v=M.S.cur.val (some ⟨M.cb,0,none⟩) M.cc∧Chg [] w w'):=by
 have hb:=h.hb
 have hl:=Aa hb
 have hw:=CN M.S.alt
 apply cV
 intro K hK
 unfold Ph
 refine sq hb ?_
 exact hK _ _ ⟨rfl,by(repeat (first|exact Chg.refl _ _|apply Chg.drew|apply Chg.alloc|(refine Chg.set ?_ _ _ (by first|(left;simp;done)|(right;omega)))))⟩
theorem Gc {w:World} {s:Nat} {M:Scm} {x y:Int} (h:DAx w s M x y):Calls prog 131 #[.pointer (some ⟨s,0,none⟩)] w (Ac λv w'=>v=M.S.free.val∧Chg [] w w'):=by
 have hb:=h.hb
 have hl:=Aa hb
 apply Ub
 intro K hK
 unfold QQ
 refine sq hb ?_
 exact hK _ _ ⟨by simp [Scr.free,Cel.val],by(repeat (first|exact Chg.refl _ _|apply Chg.drew|apply Chg.alloc|(refine Chg.set ?_ _ _ (by first|(left;simp;done)|(right;omega)))))⟩
theorem Dn{S:Scr}(h:S.ok):S.cur.w=S.w∧S.cur.h=S.h:=⟨h.cur.w,h.cur.h⟩
theorem KL{w:World}{s:Nat}{M:Scm}{x y:Int}(h:DAx w s M x y)(ok:M.S.ok):Calls prog 122 #[.pointer (some ⟨s,0,none⟩)] w (Ac λ_ a=>DDo w s M a (M.S.move x y)):=by
 have b:=h.hb;have c:=Aa b;have d:=h.tl;have f:=Dn ok;have w0:=ok.w0;have g:=ok.w1;have i:=ok.h0;have j:=ok.h1;apply Up;intro K k;unfold R9;refine sq b ?_;refine td Ce rfl (Cl (h.chg0 (sg _ _).drew)) ?_;rintro v l ⟨rfl,m⟩;have n:=(sg [] w).drew.trans0 m;have o:=h.chg0 n;have p:=o.hb;have q:=Aa p;rw[←f.1] at w0 g;rw[←f.2] at i j;simp -dsimp (disch:=first|omega|(simp only[go_sem,seval];try omega))only[go_sem,seval,Gr.val,p];refine td Km rfl (JN l x M.S.cur.w w0 O) ?_;rintro v r ⟨rfl,rfl⟩;refine sq p ?_;have t:=o.mv (Ay x M.S.cur.w:Nat) y;have u:Chg (s::M.dblk) w (Ab r s (M.dobj (Ay x M.S.cur.w:Nat) y)):=(n.mono Z).set _ _ Z;generalize Ab r s (M.dobj (Ay x M.S.cur.w:Nat) y)=w5 at *;refine td Ce rfl (Cl (t.chg0 (sg _ _).drew)) ?_;rintro v z ⟨rfl,A⟩;have B:=(sg [] w5).drew.trans0 A;have C:=t.chg0 B;have D:=C.hb;have E:=Aa D;simp -dsimp (disch:=first|omega|(simp only[go_sem,seval];try omega))only[go_sem,seval,Gr.val,D];refine td Km rfl (JN z y M.S.cur.h i O) ?_;rintro v F ⟨rfl,rfl⟩;refine sq D ?_;have e:(M.S.move x y)=(M.S.at (Ay x M.S.cur.w) (Ay y M.S.cur.h)):=by unfold Scr.move;rw[f.1,f.2]
 rw[e] at k;exact k _ _ (DDx.num (u.trans0 B) (by exact .rf rfl rfl rfl) C (M.S.at (Ay x M.S.cur.w) (Ay y M.S.cur.h)) _ _ rfl rfl d)
theorem JU{w:World}{s:Nat}{M:Scm}(h:DAt w s M):Calls prog 66 #[.pointer (some ⟨s,0,none⟩)] w (Ac λ_ a=>DDo w s M a M.S.save):=by
 have b:=h.hb;have c:=Aa b;have d:=h.tl;have f:=CN M.S.alt;apply Yd;intro K g;unfold SR;have i:=M.dwKept M.S.now.x M.S.now.y M.S.now d;refine sr b i ?_;have e:M.S.save=C0 M.S M.S.now:=by unfold Scr.save C0;rfl
 have j:(C0 M.S M.S.now).now=M.S.now:=by unfold C0;cases M.S.alt<;>rfl
 rw[e] at g;unfold DDo at g;rw[j] at g;exact g _ _ (DDx.trans0 (DDx.num (sg _ _) (by exact .rf rfl rfl rfl) h (C0 M.S M.S.now) _ _ (by unfold C0;cases M.S.alt<;>rfl) (by unfold C0;cases M.S.alt<;>rfl) (by unfold C0;cases M.S.alt<;>exact d)) (sg _ _).drew)
theorem Er{x n:Nat}(h:x<n):Ay x n=x:=by unfold Ay;omega
theorem Scr.ok.back{S:Scr}(ok:S.ok):Nx S { S with now:=AZ S }:=by
 have a:(AZ S).x<S.w∧(AZ S).y<S.h:=by
  unfold AZ;cases S.alt
  ·exact⟨ok.s0x,ok.s0y⟩
  ·exact⟨ok.s1x,ok.s1y⟩
 exact⟨⟨ok.w0,ok.w1,ok.h0,ok.h1,ok.g0,ok.g1,a.1,a.2,ok.s0x,ok.s0y,ok.s1x,ok.s1y,ok.tf,ok.fh,ok.tl,ok.gl,ok.gr⟩,rfl,rfl,λg=>g⟩
theorem Kn{w:World}{s:Nat}{M:Scm}{x y:Int}(h:DAx w s M x y)(ok:M.S.ok):Calls prog 124 #[.pointer (some ⟨s,0,none⟩)] w (Ac λ_ a=>DDo w s M a { M.S with now:=AZ M.S }):=by
 have b:=h.hb;have c:=Aa b;have d:=h.tl;have f:=CN M.S.alt;have g:=(Scr.ok.back ok).ok;apply aQ;intro K i;unfold To;refine sq b ?_;have j:=h.num { M.S with now:=AZ M.S } (AZ M.S).x (AZ M.S).y rfl rfl d;have k:Chg (s::M.dblk) w (Ab w s (({ M with S:={ M.S with now:=AZ M.S } }:Scm).dobj (AZ M.S).x (AZ M.S).y)).drew:=((sg _ _).set _ _ Z).drew;refine td Ku rfl (KL (j.chg0 (sg _ _).drew) g) ?_;intro v w2 l;have e:({ M.S with now:=AZ M.S }:Scr).move (AZ M.S).x (AZ M.S).y={ M.S with now:=AZ M.S }:=by
  unfold Scr.move Scr.at;rw[Er g.nx,Er g.ny]
 have m:DDo _ s _ w2 (({ M.S with now:=AZ M.S }:Scr).move (AZ M.S).x (AZ M.S).y):=l;rw[e] at m;exact i _ _ (.trans k (by exact .rf rfl rfl rfl) m)
theorem DDx.gone{w w':World}{s:Nat}{M:Scm}{T:Scr}{x y:Int}(h:DDx w s M w' T x y)(g:List (List Cel)):DDx w s M w' { T with gone:=g } x y:=by
 obtain⟨a,b,rfl,c,⟨d.dk,d.q⟩⟩:=h;exact⟨{ a with S:={ a.S with gone:=g } },⟨b.hb,b.h0,b.k0,b.h1,b.k1,b.tl,b.own,b.few,b.rows⟩,rfl,c,⟨d.dk,d.q⟩⟩
theorem IM(S:Scr)(n:Int):S.up n={ S.scroll S.top n with gone:=(S.keep n).gone }:=by
 unfold Scr.up Scr.scroll Scr.setCur Scr.cur Scr.free Scr.keep;split<;>cases S.alt<;>rfl
theorem DAk.own'{k k':Nat}{w w':World}{s:Nat}{M:Scm}{x y:Int}(h:DAk k w s M x y){v:Value}{l:List Rw}{F:List Nat}(a:Chg F w w')(b:s∉F)(d:NoC w F)(e:Oy w' 48 Rw.f v l)(f:l.length≤k')(g:∀r∈l,ET w' r):
  DAk k' (Ab w' s (({ M with gv:=v,rows:=l }:Scm).dobj x y)) s { M with gv:=v,rows:=l } x y:=by
 have i:=a.keep h.hb b;have j:=Aa i;have m:Chg [s] w' (Ab w' s (({ M with gv:=v,rows:=l }:Scm).dobj x y)):=(sg _ _).set _ _ Z;have n:NoC w' [s]:=λb o c p q=>by
  simp at o;subst o;rw[i] at q;unfold Scm.dobj at q;simp at q
 refine⟨Aw _ _ _ _ rfl j,n.sx (d.sx h.h0 a) m,h.k0,n.sx (d.sx h.h1 a) m,h.k1,h.tl,e.chg m λb o t=>?_,f,λr u=>⟨n.sx (g r u).1 m,(g r u).2⟩⟩;simp at t;subst t;unfold Scm.dobj at i;exact e.off i rfl o
theorem GS{w:World}{s:Nat}{M:Scm}{x y:Int}(h:DAx w s M x y)(ok:M.S.ok){n:Int}(hn0:-100000≤n)(hn1:n≤100000):Calls prog 134 #[.pointer (some ⟨s,0,none⟩),.int .i64 n] w (Ac λ_ w'=>DDx w s M w' (M.S.up n) x y):=by
 have tl:=h.tl;have hwh:=Dn ok;have hG:=ok.cur;have hf1:=ok.fh;have hh1:=ok.h1;have hwb:=CN M.S.alt;apply TC;intro K hK;unfold Rn;refine td Ce rfl (Cl h) ?_;rintro v w1 ⟨rfl,hc1⟩;simp -dsimp (disch:=first|omega|(simp only[go_sem,seval];try omega))only[go_sem,seval,Gr.val];have hc2:Chg [] w (w1.alloc (.cells #[.int .i64 M.S.cur.w,.int .i64 M.S.cur.h,.slice (some ⟨M.cb,0,none⟩) M.S.cur.cs.length M.cc] 50)):=hc1.alloc _;have a4:(w1.alloc (.cells #[.int .i64 M.S.cur.w,.int .i64 M.S.cur.h,.slice (some ⟨M.cb,0,none⟩) M.S.cur.cs.length M.cc] 50)).heap[w1.heap.size]?=some (.cells #[.int .i64 M.S.cur.w,.int .i64 M.S.cur.h,.slice (some ⟨M.cb,0,none⟩) M.S.cur.cs.length M.cc] 50):=by exact so
 have hz2:(w1.alloc (.cells #[.int .i64 M.S.cur.w,.int .i64 M.S.cur.h,.slice (some ⟨M.cb,0,none⟩) M.S.cur.cs.length M.cc] 50)).heap.size=w1.heap.size+1:=by exact so
 generalize w1.alloc (.cells #[.int .i64 M.S.cur.w,.int .i64 M.S.cur.h,.slice (some ⟨M.cb,0,none⟩) M.S.cur.cs.length M.cc] 50)=w2 at *;have hlt:∀b∈s::M.dblk,b<w.heap.size:=h.lt;have hz1:=hc1.size;have h4n:w1.heap.size∉s::M.dblk:=λhm=>by have:=hlt _ hm;omega
 have hwl:∀v rows,({ M with gv:=v,rows:=rows }:Scm).S=M.S:=λ_ _=>rfl;obtain⟨I,hI⟩:∃I:Nat→World→Prop,I=λk w'=>∃gv rows,DAk k w' s { M with gv:=gv,rows:=rows } x y∧Chg (s::M.dblk) w w'∧(∀b∈gv.ownBlock.toList,b∈M.dblk∨w.heap.size≤b)∧w'.heap[w1.heap.size]?=some (.cells #[.int .i64 M.S.cur.w,.int .i64 M.S.cur.h,.slice (some ⟨M.cb,0,none⟩) M.S.cur.cs.length M.cc] 50):=⟨_,rfl⟩;have hI0:I 500 w2:=by
  rw[hI];exact⟨M.gv,M.rows,h.chg0 hc2,hc2.mono Z,λb hb=>.inl hb,a4⟩
 have hend:∀w',I 500 w'→DDx w s M w' M.S x y:=λw' hi=>by
  rw[hI] at hi;obtain⟨gv,rows,i1,i2,i3,-⟩:=hi;exact⟨_,i1,rfl,i2,.gv i3⟩
 refine Loop1.st (λt:Nat=>.int .i64 (t:Int)) (λt w'=>t≤60∧I (500+t) w') (λt=>60-t) 0 rfl ⟨O,hI0⟩ ?_;rintro next t w3 hnx ⟨ht,hi⟩
 have hi':=hi;rw[hI] at hi';obtain⟨gv,rows,i1,i2,i3,a43⟩:=hi';have hb3:=i1.hb;have tl3:=i1.tl;have hz3:=i2.size;refine sh (λv w'=>v=.bool (decide ((t:Int)<n∧(t:Int)<M.S.fin∧M.S.top=0∧M.S.alt=false))∧w'=w3) ?_ ?_
 ·refine sn ?_;refine sd (λg1=>?_) (λg1=>⟨sv λh'=>g1 h'.1,rfl⟩);refine sq hb3 ?_;refine sd (λg2=>?_) (λg2=>⟨sv λh'=>g2 h'.2.1,rfl⟩);refine sq hb3 ?_;refine sd (λg3=>?_) (λg3=>⟨sv λh'=>g3 (by rw[h'.2.2.1];rfl),rfl⟩);refine sq hb3 ?_;refine sw ⟨λh'=>⟨g1,g2,O,?_⟩,λh'=>by rw[h'.2.2.2];rfl⟩
  revert h'
  cases M.S.alt
  ·exact λ_=>rfl
  ·exact λh'=>absurd h' rC
 rintro v w3' ⟨rfl,rfl⟩;refine sd (λhg=>?_) (λhg=>?_)
 ·obtain⟨g1,g2,g3,g4⟩:=hg;refine sr hb3 a43 ?_;have hcu:=i1.cur;have hrow:=KP hG.ok ((i1.chg0 (sg _ _).drew).cur.1) M.cc hcu.2 t (by rw[hwh.2];omega);unfold Gr.val at hrow;refine td Hu rfl (hrow) ?_;rintro v w4 ⟨ho,hc4⟩;obtain⟨ra,rc,rfl,hrl,hsx,-⟩:=ho.form;have hc34:=(sg [] w3').drew.trans0 hc4;have i4:=i1.chg0 hc34;have hb4:=i4.hb;refine sq hb4 ?_;have i5:=i4.chg0 (Ar w4 (.cells #[.slice ra (M.S.cur.row t).length rc] 48));have a5:(w4.alloc (.cells #[.slice ra (M.S.cur.row t).length rc] 48)).heap[w4.heap.size]?=some (.cells #[.slice ra (M.S.cur.row t).length rc] 48):=by exact so
  have hc5:=hc34.alloc (.cells #[.slice ra (M.S.cur.row t).length rc] 48);have hsx5:=hsx.chg0 (Ar w4 (.cells #[.slice ra (M.S.cur.row t).length rc] 48));generalize w4.alloc (.cells #[.slice ra (M.S.cur.row t).length rc] 48)=w5 at *;have hfew:=i5.few;have hb5:=i5.hb;refine sq hb5 ?_;refine Pa Gp (λ_=>rfl) i5.own (b:=w4.heap.size) (o:=0) (y:=⟨ra,rc,M.S.cur.row t⟩) rfl rfl (by exact LC1 a5) (by dsimp only at hfew ⊢;omega) O ?_;intro v6 w6 ho6 hc6 hv6;have hz6:=hc6.size;have hz5:=hc5.size;have a46:=hc6.keep (hc5.keep a43 Z) (i5.own.off (hc5.keep a43 Z) rfl);obtain⟨a6,c6,rfl,-,-⟩:=ho6.form;have hn5:NoC w5 gv.ownBlock.toList:=λb hb=>i5.noc b (List.mem_cons_of_mem _ hb);have i6:=i5.own' (k':=500+(t+1)) hc6 i5.s_own hn5 ho6 (by dsimp only at hfew;simp;omega) (λr hr=>?_)
  ·have hb6:=hc6.keep i5.hb i5.s_own;have hput:=({ M with gv:=gv,rows:=rows }:Scm).dwGv x y (.slice a6 (rows++[(⟨ra,rc,M.S.cur.row t⟩:Rw)]).length c6) (rows++[⟨ra,rc,M.S.cur.row t⟩]) tl;have hl6:=Aa hb6;have hc56:Chg (s::M.dblk) w w6:=(i2.trans0 hc5).trans hc6 λb hb=>(i3 b hb).imp (λh'=>List.mem_cons_of_mem _ h') id;refine sr hb6 hput ?_;have e1:(t:Int)+1=((t+1:Nat):Int):=O;rw[e1];refine hnx (t+1) _ ⟨O,?_⟩ O;rw[hI];refine⟨_,_,i6,hc56.set _ _ (.inl Z),λb hb=>?_,((sg [s] _).set _ _ (.inl Z)).keep a46 (λhm=>h4n (by simp at hm;simp [hm]))⟩;rcases hv6 with e|⟨g,e,hg⟩
   ·rw[e] at hb;exact i3 b hb
   ·rw[e] at hb;simp at hb;exact .inr O
  ·rcases List.mem_append.1 hr with hr|hr
   ·exact⟨hn5.sx (i5.rows r hr).1 hc6,(i5.rows r hr).2⟩
   ·simp at hr;subst hr;exact⟨hn5.sx hsx5 hc6,by rw[hG.ok.row_len (by rw[hwh.2];omega),hwh.1];exact ok.w1,λc hc=>hG.ok.fits_all hG.r _ (O7 hc)⟩
 ·refine Loop0.st (λk w'=>I k w') (λk=>k) (500+t) hi ?_;clear hnx hg i1 i2 i3 hb3 a43 hz3 hi tl3;clear w3' gv rows;rintro next k w3 hnx hi
  rw[hI] at hi;obtain⟨gv,rows,i1,i2,i3,a43⟩:=hi;have hb3:=i1.hb;have tl3:=i1.tl;have hz3:=i2.size;have hfew:=i1.few;dsimp only at hfew;have hown:Oy w3 48 Rw.f gv rows:=i1.own;have hl3:=Aa hb3;obtain⟨ga,gc,rfl,hgl,-⟩:=hown.form;refine sq hb3 ?_;refine sd (λg1=>?_) (λg1=>?_)
  ·cases rows with
   | nil=>simp at g1
   | cons r rows =>
    obtain⟨g,o,cap,e,hcap⟩:=hown.begun;cases e;have hd:=hown.drop (λ_=>rfl);have i6:=i1.own' (k':=k-1) (sg [] w3) Z (IN w3) hd (by simp at hfew;omega) (λr' hr'=>i1.rows r' (List.mem_cons_of_mem _ hr'));have hput:=({ M with gv:=.slice (some ⟨g,o,none⟩) (rows.length+1) gc,rows:=r::rows }:Scm).dwGv x y (.slice (some ⟨g,slo o gc 1 1,none⟩) rows.length (gc-1)) rows tl3;refine sr hb3 hput ?_;refine hnx (k-1) _ ?_ (by simp at hfew g1;omega);rw[hI];exact⟨_,_,i6,i2.set _ _ (.inl Z),i3,((sg [s] _).set _ _ (.inl Z)).keep a43 (λhm=>h4n (by simp at hm;simp [hm]))⟩
  ·have j1:DAx w3 s { M with gv:=.slice ga rows.length gc,rows:=rows } x y:=⟨i1.hb,i1.h0,i1.k0,i1.h1,i1.k1,i1.tl,i1.own,by dsimp only;omega,i1.rows⟩;refine sr hb3 a43 ?_;refine td F4 rfl (Gc (j1.chg0 (sg _ _).drew)) ?_;rintro v w7 ⟨rfl,hc7⟩;have hc37:=(sg [] w3).drew.trans0 hc7;have j7:=j1.chg0 hc37;have hb7:=j7.hb;have a47:=hc37.keep a43 Z;refine sr hb7 a47 ?_;have hcu:=j7.cur;have hsc:=Oj hG.ok hG.r hcu.1 M.cc hcu.2 (top:=M.S.top) (fin:=M.S.fin) (n:=n) (C6 M.S);unfold Gr.val at hsc;refine td KW rfl (hsc) ?_;rintro v w8 ⟨⟨nb,cap,sp,rfl,k1,k2,k3⟩,hc8⟩;have j8:=j7.chg0 hc8;have hb8:=j8.hb;have hl8:=Aa hb8;have hput:=({ M with gv:=.slice ga rows.length gc,rows:=rows }:Scm).dwCur x y (M.S.cur.scroll M.S.top M.S.fin n M.S.free) nb cap sp tl3;simp -dsimp (disch:=first|omega|(simp only[go_sem,seval];try omega))only[go_sem,seval,Gr.val,hb8,hput];rw[IM] at hK;exact hK _ _ ((DDx.grid (M1:={ M with gv:=.slice ga rows.length gc,rows:=rows }) ((i2.trans0 hc37).trans0 hc8) (.gv i3) j8 k3 k1 (by have:=(i2.trans0 hc37).size;omega)).gone _)
theorem Ga{w:World}{s:Nat}{M:Scm}{x:Int}(h:DAx w s M x M.S.now.y)(ok:M.S.ok)(hx:x=M.S.now.x):Calls prog 118 #[.pointer (some ⟨s,0,none⟩)] w (Ac λ_ w'=>DDo w s M w' M.S.below):=by
 subst hx;have hb:=h.hb;have hl:=Aa hb;have tl:=h.tl;have hwh:=Dn ok;have h1:=ok.h1;have h2:=ok.fh;have h3:=ok.tf;have h4:=ok.ny;apply fB;intro K hK;unfold Mx;unfold Scr.below at hK;refine sq hb ?_;refine sd (λg=>?_) (λg=>?_)
 ·rw[rG O] at hK;refine td Hn rfl (GS (n:=1) (h.chg0 (sg _ _).drew) ok O O) ?_;intro v w2 h2;have e:(M.S.up 1).now=M.S.now:=Jq 1;unfold DDo at hK;rw[e] at hK;exact hK _ _ (.trans (sg _ _).drew (by exact .rf rfl rfl rfl) h2)
 ·rw[rF O] at hK;refine sq hb ?_;refine td Ce rfl (Cl (h.chg0 (sg _ _).drew.drew)) ?_;rintro v w3 ⟨rfl,hc3⟩;have hc03:=(sg [] w).drew.drew.trans0 hc3;have j3:=h.chg0 hc03;have hb3:=j3.hb;have hl3:=Aa hb3;simp -dsimp (disch:=first|omega|(simp only[go_sem,seval];try omega))only[go_sem,seval,Gr.val,hb3];refine sd (λg2=>?_) (λg2=>?_)
  ·rw[hwh.2] at g2;rw[rG O] at hK;refine sq hb3 ?_;have e:(M.S.now.y:Int)+1=((M.S.now.y+1:Nat):Int):=O;rw[e];exact hK _ _ (DDx.num (hc03.mono Z) (by exact .rf rfl rfl rfl) j3 (M.S.at M.S.now.x (M.S.now.y+1)) _ _ rfl rfl tl)
  ·rw[hwh.2] at g2;rw[rF O] at hK;exact hK _ _ (DDx.of j3 (hc03.mono Z) rfl)
theorem Vw{w:World}{s:Nat}{M:Scm}(h:DAt w s M)(ok:M.S.ok):Calls prog 123 #[.pointer (some ⟨s,0,none⟩)] w (Ac λ_ a=>DDo w s M a M.S.above):=by
 have b:=h.hb;have c:=Aa b;have d:=h.tl;have f:=ok.h1;have g:=ok.fh;have i:=ok.tf;have j:=ok.ny;apply XW;intro K k;unfold N8;unfold Scr.above at k;refine sq b ?_;refine sd (λg=>?_) (λg=>?_)
 ·rw[rG O] at k;refine td Hn rfl (GS (n:=-1) (h.chg0 (sg _ _).drew) ok O O) ?_;intro v w2 g;have e:(M.S.scroll M.S.top (-1)).now=M.S.now:=Dy _;have l:M.S.scroll M.S.top (-1)={ M.S.up (-1) with gone:=(M.S.scroll M.S.top (-1)).gone }:=by rw[IM]
  unfold DDo at k;rw[e,l] at k;exact k _ _ (.trans (sg _ _).drew (by exact .rf rfl rfl rfl) (g.gone _))
 ·rw[rF O] at k;refine sq b ?_;refine sd (λg2=>?_) (λg2=>?_)
  ·rw[rG O] at k;refine sq b ?_;have e:(M.S.now.y:Int)-1=((M.S.now.y-1:Nat):Int):=O;rw[e];exact k _ _ (DDx.num (sg _ _).drew (by exact .rf rfl rfl rfl) (h.chg0 (sg _ _).drew) (M.S.at M.S.now.x (M.S.now.y-1)) _ _ rfl rfl d)
  ·rw[rF O] at k;exact k _ _ (DDx.of (h.chg0 (sg _ _).drew) (sg _ _).drew rfl)
theorem HG{w:World}{s:Nat}{M:Scm}{x y:Int}(h:DAx w s M x y)(ok:M.S.ok){Y X E:Int}(y0:0≤Y)(y1:Y≤100)(x0:-100000≤X)(x1:X≤100000)(e0:-100000≤E)(e1:E≤100000):Calls prog 133 #[.pointer (some ⟨s,0,none⟩),.int .i64 Y,.int .i64 X,.int .i64 E] w (Ac λ_ w'=>DDx w s M w' (M.S.setCur (M.S.cur.fill X Y (E-X) 1 M.S.free)) x y):=by
 have hb:=h.hb;have hl:=Aa hb;have tl:=h.tl;have hG:=ok.cur;have hwb:=CN M.S.alt;apply ji;intro K hK;unfold PA;refine si (λw'=>DDx w s M w' (M.S.setCur (M.S.cur.fill X Y (E-X) 1 M.S.free)) x y) ?_ (λw' hd=>hK _ _ hd);have hw:IntKind.i64.wrap (E-X)=E-X:=by exact so
 refine sr hb hw ?_;refine⟨?_,?_⟩
 all_goals
  refine td Ce rfl (Cl (h.chg0 (sg _ _).drew)) ?_;rintro v w3 ⟨rfl,hc3⟩;have hc03:=(sg [] w).drew.trans0 hc3;have j3:=h.chg0 hc03;have hb3:=j3.hb;refine sq hb3 ?_
 all_goals first|refine And.intro ?_ ?_|skip
 all_goals
  refine td F4 rfl (Gc j3) ?_;rintro v w7 ⟨rfl,hc7⟩;have hc07:=hc03.trans0 hc7;have j7:=h.chg0 hc07;have hb7:=j7.hb;refine sr hb7 hw ?_;have hcu:=j7.cur;have hsc:=Xb hG.ok hG.r hcu.1 M.cc hcu.2 (X:=X) (Y:=Y) (W:=E-X) (H:=1) (C6 M.S) O O O O O O;refine td jB rfl (hsc) ?_;rintro v w8 ⟨⟨nb,cap,sp,rfl,k1,k2,k3⟩,hc8⟩;have j8:=j7.chg0 hc8;have hb8:=j8.hb;have hl8:=Aa hb8;have hput:=M.dwCur x y (M.S.cur.fill X Y (E-X) 1 M.S.free) nb cap sp tl;simp -dsimp (disch:=first|omega|(simp only[go_sem,seval];try omega))only[go_sem,seval,Gr.val,hb8,hput];exact DDx.grid ((hc07.trans0 hc8).mono Z) (by exact .rf rfl rfl rfl) j8 k3 k1 (by have:=hc07.size;omega)
theorem FH{Y h:Nat}(a:Y<h):AJ (Y:Int) 1 (h:Int)=((Y:Int),(Y:Int)+1):=by
 unfold AJ;rw[rF O,rF O];congr 1;omega
theorem Kr{w:Nat}{l:List Cel}{F:Nat→List Cel}:((⟨w,1,l⟩:Gr).chg 0 1 F).cs=Au (F 0):=by
 simp [Gr.chg,Gr.of,A7]
theorem Ig{g:Gr}(a:g.ok){x y:Nat}(b:x<g.w)(c:y<g.h):(⟨g.w,1,g.row y⟩:Gr).at x 0=g.at x y:=by
 unfold Gr.at;rw[Nat.zero_mul,Nat.zero_add,rN,a.row_get b c];rfl
theorem IX{S:Scr}(ok:S.ok){f:Gr→Gr}{F:Nat→List Cel}(a:(f ⟨S.w,1,S.cur.row S.now.y⟩).cs=Au (F S.now.y)):S.line f=S.setCur (S.cur.chg S.now.y ((S.now.y:Int)+1) F):=by
 unfold Scr.line Gr.chg Gr.of;rw[ok.cur.w,ok.cur.h];congr 2;refine BS λy b=>?_;by_cases h:y=S.now.y
 ·rw[rG h,rG O,h,a]
 ·rw[rF h,rF O]
theorem ai{S:Scr}(ok:S.ok)(X:Int)(l:List Cel):(S.line λg=>g.put X 0 l)=S.setCur (S.cur.put X S.now.y l):=by
 have a:=ok.cur.w;have b:S.now.y<S.cur.h:=by rw[ok.cur.h];exact ok.ny
 unfold Gr.put;rw[FH b];refine IX ok ?_;rw[show AJ 0 1 ((1:Nat):Int)=(0,1) from rfl,Kr,←a];congr 1;exact AX λx c=>by rw[Ig ok.cur.ok c b]
theorem Ts{S:Scr}(ok:S.ok)(X N:Int)(c:Cel):(S.line λg=>g.fill X 0 N 1 c)=S.setCur (S.cur.fill X S.now.y N 1 c):=by
 have a:=ok.cur.w;have b:S.now.y<S.cur.h:=by rw[ok.cur.h];exact ok.ny
 unfold Gr.fill;rw[FH b];refine IX ok ?_;rw[show AJ 0 1 ((1:Nat):Int)=(0,1) from rfl,Kr,←a];congr 1;exact AX λx d=>by rw[Ig ok.cur.ok d b]
theorem NK{S:Scr}(ok:S.ok)(X:Nat)(N:Int)(c:Cel):(S.line λg=>g.shift X 0 N c)=S.setCur (S.cur.shift X S.now.y N c):=by
 have a:=ok.cur.w;have b:S.now.y<S.cur.h:=by rw[ok.cur.h];exact ok.ny
 unfold Gr.shift;rw[FH b];refine IX ok ?_;rw[show AJ 0 1 ((1:Nat):Int)=(0,1) from rfl,Kr,←a];congr 1;unfold Gr.shiftF;refine AX λx d=>?_;by_cases e:max (X:Int) 0≤(x:Int)
 ·rw[rG e,rG e];by_cases f:max (X:Int) 0≤(x:Int)-min (max N (-(S.cur.w:Int))) S.cur.w∧(x:Int)-min (max N (-(S.cur.w:Int))) S.cur.w<S.cur.w
  ·rw[rG f,rG f,Ig ok.cur.ok O b]
  ·rw[rF f,rF f]
 ·rw[rF e,rF e,Ig ok.cur.ok d b]
theorem Mh(S:Scr)(g h:Gr):(S.setCur g).setCur h=S.setCur h:=by unfold Scr.setCur;cases S.alt<;>rfl
theorem RC(S:Scr)(g:Gr):(S.setCur g).cur=g:=by unfold Scr.setCur Scr.cur;cases S.alt<;>rfl
theorem MR(S:Scr)(g:Gr):(S.setCur g).free=S.free:=by unfold Scr.setCur Scr.free;cases S.alt<;>rfl
theorem Gs(S:Scr)(g:Gr):(S.setCur g).now=S.now:=by unfold Scr.setCur;cases S.alt<;>rfl
theorem Ry(S:Scr)(g:Gr):(S.setCur g).w=S.w:=by unfold Scr.setCur;cases S.alt<;>rfl
theorem iL(S:Scr)(g:Gr):(S.setCur g).h=S.h:=by unfold Scr.setCur;cases S.alt<;>rfl
theorem fG(S:Scr):S.setCur S.cur=S:=by
 obtain⟨w,h,a,b,c,d,e,f,g,i,j,k,l,shown,m⟩:=S;cases e<;>rfl
theorem bI{w h:Nat}{R:Nat→List Cel}(a:∀y,y<h→(R y).length=w){X N:Int}{Y:Nat}(b:Y<h){c:Cel}:
  (Gr.of w h R).fill X Y N 1 c=Gr.of w h λy=>if y=Y then Au (Av w λx=>if(AJ X N w).1≤(x:Int)∧(x:Int)<(AJ X N w).2 then c else(Gr.of w h R).at x Y) else R y:=by
 unfold Gr.fill;rw[show(Gr.of w h R).h=h from rfl,FH b];unfold Gr.chg;rw[show(Gr.of w h R).h=h from rfl,show(Gr.of w h R).w=w from rfl];unfold Gr.of;congr 1;refine BS λy d=>?_;by_cases e:y=Y
 ·rw[rG O,rG e,e]
 ·rw[rF O,rF e];exact Gr.of_row a d
theorem N9{w h:Nat}{R:Nat→List Cel}(a:∀y,y<h→(R y).length=w)(w0:0<w)(w1:w≤200)(b:0<h)(c:h≤60){x y:Nat}(d:x<w)(e:y<h):(Gr.of w h R).at x y=(R y).getD x Cel.none:=by
 have f:=Gr.of_ok w0 w1 b c a;have:=f.row_get (x:=x) (y:=y) d e;rw[Gr.of_row a e] at this;rw[rN,this];rfl
def Bl(S:Scr)(k:Int)(rows:Bool)(y:Nat):List Cel:=
 if y=S.now.y then(if k=0 then Au (Av S.w λx=>if S.now.x≤x then S.free else S.cur.at x y) else if k=1 then Au (Av S.w λx=>if x≤S.now.x then S.free else S.cur.at x y) else Av S.w λ_=>S.free)
 else if rows=true∧(k=2∨k=0∧S.now.y<y∨k=1∧y<S.now.y) then Av S.w λ_=>S.free else S.cur.row y
theorem H9{S:Scr}{w:Nat}:Au (Av w λ_=>S.free)=Av w λ_=>S.free:=
 Hl (G4 λd a=>by
  unfold Av at a;obtain⟨_,_,rfl⟩:=List.mem_map.1 a;exact Eg (C6 S))
theorem Xc{S:Scr}(ok:S.ok)(k:Int)(rows:Bool){y:Nat}(a:y<S.h):(Bl S k rows y).length=S.w:=by
 have b:=ok.cur.ok.row_len (y:=y) (by rw[ok.cur.h];exact a);rw[ok.cur.w] at b;unfold Bl;split
 ·split
  ·rw[Cj,AP]
  ·split
   ·rw[Cj,AP]
   ·exact AP _ _
 ·split
  ·exact AP _ _
  ·exact b
theorem Kl{S:Scr}(ok:S.ok)(X N:Int):S.erase X N=S.setCur (Gr.of S.w S.h λy=>if y=S.now.y then Au (Av S.w λx=>if X≤(x:Int)∧(x:Int)<X+N then S.free else S.cur.at x y) else S.cur.row y):=by
 have a:=ok.cur.w;have b:=ok.cur.h;have c:=ok.w1;unfold Scr.erase;rw[Ts ok];unfold Gr.fill;rw[FH (show S.now.y<S.cur.h by rw[b];exact ok.ny)];unfold Gr.chg Gr.of;rw[a,b];congr 2;refine BS λy d=>?_;by_cases h:y=S.now.y
 ·rw[rG h,rG O];congr 1;refine AX λx e=>?_;congr 1;exact propext (BX O O)
 ·rw[rF h,rF O]
theorem N6{S:Scr}(ok:S.ok){k:Int}(a:0≤k)(b:k≤2):S.wipeLine k=S.setCur (Gr.of S.w S.h (Bl S k false)):=by
 have c:∀y,y≠S.now.y→Bl S k false y=S.cur.row y:=λy h=>by
  unfold Bl;rw[rF h,rF Z]
 unfold Scr.wipeLine;by_cases d:k=0
 ·rw[rG d,Kl ok];congr 2;funext y;by_cases h:y=S.now.y
  ·rw[rG h];unfold Bl;rw[rG h,rG d];congr 1;refine AX λx e=>?_;congr 1;exact propext ⟨λh=>O,λh=>O⟩
  ·rw[rF h,c y h]
 ·by_cases f:k=1
  ·rw[rF d,rG f,Kl ok];congr 2;funext y;by_cases h:y=S.now.y
   ·rw[rG h];unfold Bl;rw[rG h,rF d,rG f];congr 1;refine AX λx e=>?_;congr 1;exact propext ⟨λh=>O,λh=>O⟩
   ·rw[rF h,c y h]
  ·rw[rF d,rF f,rG O,Kl ok];congr 2;funext y;by_cases h:y=S.now.y
   ·rw[rG h];unfold Bl;rw[rG h,rF d,rF f,←H9];congr 1;exact AX λx e=>rG O
   ·rw[rF h,c y h]
theorem Kc{S:Scr}(ok:S.ok)(Y N:Int):S.clear Y N=S.setCur (Gr.of S.w S.h λy=>if Y≤(y:Int)∧(y:Int)<Y+N then Av S.w λ_=>S.free else S.cur.row y):=by
 have hw:=ok.cur.w;have hh:=ok.cur.h;have w1:=ok.w1;unfold Scr.clear Gr.fill Gr.chg Gr.of;rw[hw,hh];congr 2;refine BS λy hy=>?_;have hsp:=BX (x:=Y) (n:=N) (size:=(S.h:Int)) (i:=(y:Int)) O O;by_cases h:Y≤(y:Int)∧(y:Int)<Y+N
 ·rw[rG h,rG (hsp.2 h),←H9];congr 1;exact AX λx hx=>rG ((BX O O).2 O)
 ·rw[rF h,rF λh'=>h (hsp.1 h')]
theorem Ve{S:Scr}(ok:S.ok){k:Int}(k0:0≤k)(k2:k≤2):(S.wipeRows k).wipeLine k=S.setCur (Gr.of S.w S.h (Bl S k true)):=by
 have hny:=ok.ny;obtain⟨R,hR,hlen,e⟩:∃R:Nat→List Cel,(∀y,y<S.h→R y=if k=2∨k=0∧S.now.y<y∨k=1∧y<S.now.y then Av S.w λ_=>S.free else S.cur.row y)∧(∀y,y<S.h→(R y).length=S.w)∧S.wipeRows k=S.setCur (Gr.of S.w S.h R):=by
  have hl:∀(p:Nat→Prop) [DecidablePred p] (y:Nat),y<S.h→(if p y then Av S.w (λ_=>S.free) else S.cur.row y).length=S.w:=λp _ y hy=>by
   split
   ·exact AP _ _
   ·have:=ok.cur.ok.row_len (y:=y) (by rw[ok.cur.h];exact hy);rw[this,ok.cur.w]
  unfold Scr.wipeRows;by_cases h0:k=0
  ·rw[rG h0,Kc ok];refine⟨_,λy hy=>?_,λy hy=>hl (λy=>(S.now.y:Int)+1≤(y:Int)∧(y:Int)<(S.now.y:Int)+1+(S.h:Int)) y hy,rfl⟩;congr 1;exact propext ⟨λh=>O,λh=>O⟩
  ·by_cases h1:k=1
   ·rw[rF h0,rG h1,Kc ok];refine⟨_,λy hy=>?_,λy hy=>hl (λy=>(0:Int)≤(y:Int)∧(y:Int)<0+(S.now.y:Int)) y hy,rfl⟩;congr 1;exact propext ⟨λh=>O,λh=>O⟩
   ·rw[rF h0,rF h1,rG O,Kc ok];refine⟨_,λy hy=>?_,λy hy=>hl (λy=>(0:Int)≤(y:Int)∧(y:Int)<0+(S.h:Int)) y hy,rfl⟩;congr 1;exact propext ⟨λh=>O,λh=>O⟩
 have ok2:(S.wipeRows k).ok:=(Scr.ok.wipeRows ok).ok;rw[N6 ok2 k0 k2,e,Mh,Ry,iL];unfold Gr.of;congr 2;refine BS λy hy=>?_;unfold Bl;rw[Gs,Ry,MR,RC];by_cases h:y=S.now.y
 ·rw[rG h,rG h];have hat:k=2∨∀x,x<S.w→(Gr.of S.w S.h R).at x y=S.cur.at x y:=by
   by_cases h2:k=2
   ·exact .inl h2
   ·refine .inr λx hx=>?_;rw[N9 hlen ok.w0 ok.w1 ok.h0 ok.h1 hx hy,hR y hy,rF O,rN,ok.cur.ok.row_get (by rw[ok.cur.w];exact hx) (by rw[ok.cur.h];exact hy)];rfl
  have hat':k≠2→∀x,x<S.w→(⟨S.w,S.h,A7 R S.h⟩:Gr).at x y=S.cur.at x y:=λh2=>hat.resolve_left h2;by_cases h0:k=0
  ·rw[rG h0,rG h0];congr 1;exact AX λx hx=>by rw[hat' O x hx]
  ·by_cases h1:k=1
   ·rw[rF h0,rF h0,rG h1,rG h1];congr 1;exact AX λx hx=>by rw[hat' O x hx]
   ·rw[rF h0,rF h0,rF h1,rF h1]
 ·rw[rF h,rF h,rF Z];have hrow:(⟨S.w,S.h,A7 R S.h⟩:Gr).row y=R y:=Gr.of_row hlen hy;rw[hrow,hR y hy];congr 1;exact propext ⟨λh=>⟨rfl,h⟩,λh=>h.2⟩
theorem Pg{S:Scr}{w:Nat}:right (Av w λ_=>S.free)=true:=by
 rw[←H9];exact Ea _
theorem gZ{S:Scr}(ok:S.ok)(k:Int)(rows:Bool){y:Nat}(a:y<S.h):right (Bl S k rows y)=true:=by
 unfold Bl;split
 ·split
  ·exact Ea _
  ·split
   ·exact Ea _
   ·exact Pg
 ·split
  ·exact Pg
  ·exact Gr.right.at ok.cur.r (by rw[ok.cur.h];exact a)
def BZ(S:Scr)(k:Int)(rows:Bool)(t:Nat):Gr:=Gr.of S.w S.h λy=>if y<t then Bl S k rows y else S.cur.row y
theorem GA{S:Scr}(ok:S.ok)(k:Int)(rows:Bool)(t:Nat):∀y,y<S.h→(if y<t then Bl S k rows y else S.cur.row y).length=S.w:=λy a=>by
 split
 ·exact Xc ok k rows a
 ·rw[ok.cur.ok.row_len (by rw[ok.cur.h];exact a),ok.cur.w]
theorem ZF{S:Scr}(ok:S.ok)(k:Int)(rows:Bool)(t:Nat):(BZ S k rows t).fit S.w S.h:=by
 refine⟨Gr.of_ok ok.w0 ok.w1 ok.h0 ok.h1 (GA ok k rows t),Gr.right_of λy a=>?_,rfl,rfl⟩;have b:y<S.h:=a;unfold BZ;rw[Gr.of_row (GA ok k rows t) b];split
 ·exact gZ ok k rows b
 ·exact Gr.right.at ok.cur.r (by rw[ok.cur.h];exact b)
theorem YH{S:Scr}(ok:S.ok)(k:Int)(rows:Bool){t:Nat}(ht:t<S.h)(X N:Int)(h:Au (Av S.w λx=>if X≤(x:Int)∧(x:Int)<X+N then S.free else S.cur.at x t)=Bl S k rows t):
  (BZ S k rows t).fill X t N 1 S.free=BZ S k rows (t+1):=by
 unfold BZ;rw[bI (GA ok k rows t) ht];unfold Gr.of;congr 1;refine BS λy hy=>?_;by_cases h1:y=t
 ·subst h1;rw[rG rfl,rG O,←h];congr 1;refine AX λx hx=>?_;have hat:(⟨S.w,S.h,A7 (λy_1=>if y_1<y then Bl S k rows y_1 else S.cur.row y_1) S.h⟩:Gr).at x y=S.cur.at x y:=by
   have:=N9 (GA ok k rows y) ok.w0 ok.w1 ok.h0 ok.h1 hx hy;rw[rF O,rN,ok.cur.ok.row_get (by rw[ok.cur.w];exact hx) (by rw[ok.cur.h];exact hy)] at this;exact this
  rw[hat];congr 1;have w1:=ok.w1;exact propext (BX O O)
 ·rw[rF h1];congr 1;exact propext ⟨λh=>O,λh=>O⟩
theorem UI{S:Scr}(k:Int)(rows:Bool){t:Nat}(h:Bl S k rows t=S.cur.row t):BZ S k rows t=BZ S k rows (t+1):=by
 unfold BZ Gr.of;congr 1;refine BS λy a=>?_;by_cases b:y=t
 ·subst b;rw[rF O,rG O,h]
 ·congr 1;exact propext ⟨λh=>O,λh=>O⟩
theorem WQ{S:Scr}(ok:S.ok)(k:Int)(rows:Bool):BZ S k rows 0=S.cur:=by
 unfold BZ;rw[←ok.cur.w,←ok.cur.h];exact Gr.of_rows ok.cur.ok λy _=>rF O
theorem bF(S:Scr)(k:Int)(rows:Bool):BZ S k rows S.h=Gr.of S.w S.h (Bl S k rows):=by
 dsimp only[Gr.of,BZ];rw[BS λy a=>rG a]
def EK(S:Scr)(n:Int):Int:=min (max ((S.now.y:Int)+n) (if S.top≤S.now.y then S.top else 0)) (if S.now.y<S.fin then(S.fin:Int)-1 else(S.h:Int)-1)
theorem GW{w:World}{s:Nat}{M:Scm}{x:Int}(h:DAx w s M x M.S.now.y)(ok:M.S.ok){n:Int}(a:-10000≤n)(n1:n≤10000):Calls prog 128 #[.pointer (some ⟨s,0,none⟩),.int .i64 n] w (Ac λ_ b=>DDx w s M b M.S x (EK M.S n)):=by
 have c:=h.hb;have d:=Aa c;have e:=h.tl;have f:=Dn ok;have g:=ok.h1;have i:=ok.fh;have j:=ok.tf;have k:=ok.ny;apply Zj;intro K l;unfold K5;unfold EK at l;refine sq c ?_;refine sh (λv b=>v=.int .i64 (if M.S.top≤M.S.now.y then(M.S.top:Int) else 0)∧b=w) ?_ ?_
 ·refine sq c ?_;refine sd (λg=>?_) (λg=>⟨by rw[rF O],rfl⟩);refine sq c ?_;rw[rG O]
 rintro v m ⟨rfl,rfl⟩;refine td Ce rfl (Cl h) ?_;rintro v w2 ⟨rfl,o⟩;have p:=h.chg0 o;have q:=p.hb;have r:=Aa q;simp -dsimp (disch:=first|omega|(simp only[go_sem,seval];try omega))only[go_sem,seval,Gr.val];refine sh (λv b=>v=.int .i64 (if M.S.now.y<M.S.fin then(M.S.fin:Int)-1 else(M.S.h:Int)-1)∧b=w2) ?_ ?_
 ·refine sq q ?_;have t:IntKind.i64.wrap ((M.S.cur.h:Int)-1)=(M.S.h:Int)-1:=by rw[f.2];exact so
  refine sd (λg=>?_) (λg=>⟨by rw[rF O,t],rfl⟩);refine sq q ?_;rw[rG O]
 rintro v u ⟨rfl,rfl⟩;obtain⟨A,hA⟩:∃A:Int,(if M.S.top≤M.S.now.y then(M.S.top:Int) else 0)=A:=⟨_,rfl⟩;obtain⟨B,hB⟩:∃B:Int,(if M.S.now.y<M.S.fin then(M.S.fin:Int)-1 else(M.S.h:Int)-1)=B:=⟨_,rfl⟩;rw[hA,hB] at l;rw[hA,hB];refine sn ?_;refine sh (λv b=>v=.int .i64 (max ((M.S.now.y:Int)+n) A)∧b=u) ?_ ?_
 ·have t:IntKind.i64.wrap ((M.S.now.y:Int)+n)=(M.S.now.y:Int)+n:=by exact so
  refine sn ?_;exact sd (λg=>⟨by congr 1;omega,rfl⟩) (λg=>⟨by rw[t];congr 1;omega,rfl⟩)
 rintro v y ⟨rfl,rfl⟩;refine sh (λv b=>v=.int .i64 (min (max ((M.S.now.y:Int)+n) A) B)∧b=y) ?_ ?_
 ·refine sn ?_;exact sd (λg=>⟨by congr 1;omega,rfl⟩) (λg=>⟨by congr 1;omega,rfl⟩)
 rintro v z ⟨rfl,rfl⟩;refine sq q ?_;exact l _ _ (DDx.num (o.mono Z) (by exact .rf rfl rfl rfl) p M.S _ _ rfl rfl e)
theorem Ll{w:World}{s:Nat}{M:Scm}(h:DAt w s M)(ok:M.S.ok)(k:Int)(rows:Bool):Calls prog 129 #[.pointer (some ⟨s,0,none⟩),.int .i64 k,.bool rows] w (Ac λ_ w'=>DDo w s M w' (if rows then(M.S.wipeRows k).wipeLine k else M.S.wipeLine k)):=by
 have hwh:=Dn ok;have h0:=ok.h0;have h1:=ok.h1;have w0:=ok.w0;have w1:=ok.w1;have h3:=ok.nx;have h4:=ok.ny;apply W3;intro K hK;unfold RP;refine td Ce rfl (Cl h) ?_;rintro v w1 ⟨rfl,hc1⟩;simp -dsimp (disch:=first|omega|(simp only[go_sem,seval];try omega))only[go_sem,seval,Gr.val];have hc2:Chg [] w (w1.alloc (.cells #[.int .i64 M.S.cur.w,.int .i64 M.S.cur.h,.slice (some ⟨M.cb,0,none⟩) M.S.cur.cs.length M.cc] 50)):=hc1.alloc _;have a2:(w1.alloc (.cells #[.int .i64 M.S.cur.w,.int .i64 M.S.cur.h,.slice (some ⟨M.cb,0,none⟩) M.S.cur.cs.length M.cc] 50)).heap[w1.heap.size]?=some (.cells #[.int .i64 M.S.cur.w,.int .i64 M.S.cur.h,.slice (some ⟨M.cb,0,none⟩) M.S.cur.cs.length M.cc] 50):=by exact so
 generalize w1.alloc (.cells #[.int .i64 M.S.cur.w,.int .i64 M.S.cur.h,.slice (some ⟨M.cb,0,none⟩) M.S.cur.cs.length M.cc] 50)=w2 at *;refine sh (λv w'=>v=.bool (decide (k<0∨2<k))∧w'=w2) ?_ ?_
 ·refine sn ?_;refine sd (λg=>⟨su (.inl g),rfl⟩) (λg=>?_);refine sn ?_;exact sw ⟨λh=>.inr h,λh=>h.resolve_left g⟩
 rintro v w3 ⟨rfl,rfl⟩;have j2:=h.chg0 hc2;refine sd (λg=>?_) (λg=>?_)
 ·have e:(if rows then(M.S.wipeRows k).wipeLine k else M.S.wipeLine k)=M.S:=by
   have e1:∀S:Scr,S.wipeLine k=S:=λS=>by unfold Scr.wipeLine;rw[rF O,rF O,rF O]
   have e2:M.S.wipeRows k=M.S:=by unfold Scr.wipeRows;rw[rF O,rF O,rF O]
   rw[e2,e1,ite_self]
  rw[e] at hK;exact hK _ _ (DDx.of j2 (hc2.mono Z) rfl)
 have e:(if rows then(M.S.wipeRows k).wipeLine k else M.S.wipeLine k)=M.S.setCur (Gr.of M.S.w M.S.h (Bl M.S k rows)):=by
  cases rows
  ·exact N6 ok O O
  ·exact Ve ok O O
 rw[e] at hK;unfold DDo at hK;rw[Gs] at hK;clear e;have hz1:=hc1.size;have hlt:=h.lt;have a2n:w1.heap.size∉s::M.dblk:=λhm=>by have:=hlt _ hm;omega
 refine Loop1.st (λt:Nat=>.int .i64 (t:Int)) (λt w'=>t≤M.S.h∧DDx w s M w' (M.S.setCur (BZ M.S k rows t)) M.S.now.x M.S.now.y∧w'.heap[w1.heap.size]?=some (.cells #[.int .i64 M.S.cur.w,.int .i64 M.S.cur.h,.slice (some ⟨M.cb,0,none⟩) M.S.cur.cs.length M.cc] 50)) (λt=>M.S.h-t) 0 rfl ⟨O,by rw[WQ ok,fG];exact DDx.of j2 (hc2.mono Z) rfl,a2⟩ ?_;rintro next t w4 hn ⟨ht,⟨M4,j4,e4,hc4,hb4⟩,a4⟩
 have hm4:=j4.hb;have tl4:=j4.tl;refine sq a4 ?_;refine sd (λg2=>?_) (λg2=>?_)
 ·rw[hwh.2] at g2;have e1:(t:Int)+1=((t+1:Nat):Int):=O;have hfin:∀w',DDx w4 s M4 w' (M.S.setCur (BZ M.S k rows (t+1))) M.S.now.x M.S.now.y→w'.heap[w1.heap.size]?=some (.cells #[.int .i64 M.S.cur.w,.int .i64 M.S.cur.h,.slice (some ⟨M.cb,0,none⟩) M.S.cur.cs.length M.cc] 50)→next (.int .i64 ((t+1:Nat):Int)) w':=λw' hd ha=>hn (t+1) w' ⟨O,.trans hc4 hb4 hd,ha⟩ O
  refine si (λw'=>DDx w4 s M4 w' (M.S.setCur (BZ M.S k rows (t+1))) M.S.now.x M.S.now.y∧w'.heap[w1.heap.size]?=some (.cells #[.int .i64 M.S.cur.w,.int .i64 M.S.cur.h,.slice (some ⟨M.cb,0,none⟩) M.S.cur.cs.length M.cc] 50)) ?_ ?_
  ·have hfit:=ZF ok k rows t;have ok4:M4.S.ok:=by rw[e4];exact(Scr.ok.setCur ok hfit).ok
   have hcur:M4.S.cur=BZ M.S k rows t:=by rw[e4,RC]
   have hfree:M4.S.free=M.S.free:=by rw[e4,MR]
   have a4n:w1.heap.size∉s::M4.dblk:=λhm=>by
    rcases rM.1 hm with e|hm
    ·exact a2n (e ▸ List.mem_cons_self ..)
    ·unfold Scm.dblk at hm;exact j4.own.off a4 rfl hm
   have hdone:∀(X E:Int) w',Au (Av M.S.w λx=>if X≤(x:Int)∧(x:Int)<X+(E-X) then M.S.free else M.S.cur.at x t)=Bl M.S k rows t→DDx w4 s M4 w' (M4.S.setCur (M4.S.cur.fill X t (E-X) 1 M4.S.free)) M.S.now.x M.S.now.y→DDx w4 s M4 w' (M.S.setCur (BZ M.S k rows (t+1))) M.S.now.x M.S.now.y∧w'.heap[w1.heap.size]?=some (.cells #[.int .i64 M.S.cur.w,.int .i64 M.S.cur.h,.slice (some ⟨M.cb,0,none⟩) M.S.cur.cs.length M.cc] 50):=λX E w' he hd=>by
    rw[hcur,hfree,YH ok k rows O X (E-X) he,e4,Mh] at hd;have hd':=hd;obtain⟨_,-,-,hcd,-⟩:=hd';exact⟨hd,hcd.keep a4 a4n⟩
   refine sh (λv w'=>v=.bool (decide (t=M.S.now.y∧k=0))∧w'=w4) ?_ ?_
   ·refine sq hm4 ?_;refine sd (λg3=>?_) (λg3=>⟨sv λh'=>g3 (by rw[h'.1]),rfl⟩);refine sn ?_;exact sw ⟨λh=>⟨O,h⟩,λh=>h.2⟩
   rintro v w5 ⟨rfl,rfl⟩;refine sd (λg3=>?_) (λg3=>?_)
   ·refine sr hm4 a4 ?_;refine td G1 rfl (HG (Y:=t) (X:=M.S.now.x) (E:=M.S.cur.w) (j4.chg0 (sg _ _).drew) ok4 O O O O O O) ?_;intro v w6 hd;refine hdone _ _ w6 ?_ (.trans (sg _ _).drew (by exact .rf rfl rfl rfl) hd);unfold Bl;rw[rG g3.1,rG g3.2];congr 1;refine AX λx hx=>?_;congr 1;exact propext ⟨λh=>O,λh=>O⟩
   refine sh (λv w'=>v=.bool (decide (t=M.S.now.y∧k=1))∧w'=w5) ?_ ?_
   ·refine sq hm4 ?_;refine sd (λg4=>?_) (λg4=>⟨sv λh'=>g4 (by rw[h'.1]),rfl⟩);refine sn ?_;exact sw ⟨λh=>⟨O,h⟩,λh=>h.2⟩
   rintro v w6 ⟨rfl,rfl⟩;refine sd (λg4=>?_) (λg4=>?_)
   ·refine sq hm4 ?_;refine td G1 rfl (HG (Y:=t) (X:=0) (E:=(M.S.now.x:Int)+1) j4 ok4 O O O O O O) ?_;intro v w7 hd;refine hdone _ _ w7 ?_ hd;unfold Bl;rw[rG g4.1,rF O,rG g4.2];congr 1;refine AX λx hx=>?_;congr 1;exact propext ⟨λh=>O,λh=>O⟩
   refine sh (λv w'=>v=.bool (decide (t=M.S.now.y∨rows=true∧(k=2∨k=0∧M.S.now.y<t∨k=1∧t<M.S.now.y)))∧w'=w6) ?_ ?_
   ·refine sq hm4 ?_;refine sd (λg5=>⟨su (.inl O),rfl⟩) (λg5=>?_);cases rows with
    | false =>
     refine sn ?_;simp;omega
    | true =>
     refine sn ?_;refine sd (λg6=>⟨su (.inr ⟨rfl,.inl g6⟩),rfl⟩) (λg6=>?_);refine sn ?_;refine sd (λg7=>?_) (λg7=>?_)
     ·refine sq hm4 ?_;refine sd (λg8=>⟨su (.inr ⟨rfl,.inr (.inl ⟨g7,O⟩)⟩),rfl⟩) (λg8=>?_);refine sn ?_;refine sd (λg9=>O) (λg9=>⟨sv O,rfl⟩)
     ·refine sn ?_;refine sd (λg9=>?_) (λg9=>O);refine sq hm4 ?_;exact sw ⟨λh=>O,λh=>O⟩
   rintro v w7 ⟨rfl,rfl⟩;refine sd (λg5=>?_) (λg5=>?_)
   ·refine sq a4 ?_;refine td G1 rfl (HG (Y:=t) (X:=0) (E:=M.S.cur.w) j4 ok4 O O O O O O) ?_;intro v w8 hd;refine hdone _ _ w8 ?_ hd;have hall:(Au (Av M.S.w λx=>if(0:Int)≤(x:Int)∧(x:Int)<0+((M.S.cur.w:Int)-0) then M.S.free else M.S.cur.at x t))=Av M.S.w λ_=>M.S.free:=by
     rw[←H9];congr 1;exact AX λx hx=>rG O
    rw[hall];unfold Bl;by_cases h':t=M.S.now.y
    ·rw[rG h',rF O,rF O]
    ·rw[rF h',rG (g5.resolve_left h')]
   ·have hr:Bl M.S k rows t=M.S.cur.row t:=by
     unfold Bl;rw[rF (λh'=>g5 (.inl h')),rF (λh'=>g5 (.inr h'))]
    rw[←UI k rows hr];exact⟨⟨M4,j4,e4,sg _ _,.rf rfl rfl rfl⟩,a4⟩
  ·rintro w5 ⟨hd,ha⟩;refine sq e1 ?_;exact hfin _ hd ha
 ·obtain rfl:t=M.S.h:=O;rw[bF] at e4;exact hK _ _ ⟨M4,j4,e4,hc4,hb4⟩
theorem TS(S:Scr)(g:Gr):S.calm.setCur g=(S.setCur g).calm:=by unfold Scr.setCur Scr.calm;cases S.alt<;>rfl
theorem Vx(S:Scr)(n:Int):S.calm.keep n=(S.keep n).calm:=by
 unfold Scr.keep;by_cases h:S.top=0∧S.alt=false
 ·rw[rG h,rG (show S.calm.top=0∧S.calm.alt=false from h)];simp only[Scr.calm]
 ·rw[rF h,rF (show ¬(S.calm.top=0∧S.calm.alt=false) from h)]
theorem gU(S:Scr)(n:Int):S.calm.up n=(S.up n).calm:=by
 unfold Scr.up;rw[Vx];exact TS _ _
theorem Zx(S:Scr):S.calm.below=S.below.calm:=by
 unfold Scr.below;rw[gU];show(if S.now.y+1=S.fin then(S.up 1).calm else if S.now.y+1<S.h then(S.at S.now.x (S.now.y+1)).calm else S.calm)=_;split
 ·rfl
 ·split<;>rfl
theorem Qb(S:Scr)(n:Nat):S.calm.roomFor n=(S.roomFor n).calm:=by
 unfold Scr.roomFor;have e:(S.calm.at 0 S.calm.now.y).below=(S.at 0 S.now.y).below.calm:=Zx (S.at 0 S.now.y);rw[e];show(if S.w<S.now.x+n then(if S.wraps then(S.at 0 S.now.y).below.calm else _) else _)=_;split
 ·split<;>rfl
 ·rfl
theorem Wr(S:Scr)(r:Int)(n:Nat):S.calm.lay r n=S.lay r n:=by
 unfold Scr.lay Scr.line Scr.setCur Scr.cur Scr.calm Scr.at;obtain⟨w,h,a,b,c,d,e,f,g,i,j,k,l,shown,m⟩:=S;cases e<;>dsimp only<;>split<;>rfl
theorem ZJ{r:Int}{p:Cel}{n:Nat}(h:AN r=n)(a:0<n):(A8 r p).length=n:=by
 unfold A8;rcases HD r with b|b|b
 ·omega
 ·rw[rG b];show 1=n;omega
 ·rw[rF O,rG b];show 2=n;omega
theorem Wk{r:Int}{p:Cel}(a:-2147483648≤r)(b:r≤2147483647):∀c∈A8 r p,c.fits:=by
 intro c d;unfold A8 at d;split at d
 ·simp at d;subst d;exact⟨a,b⟩
 ·split at d
  ·simp at d;rcases d with rfl|rfl
   ·exact⟨a,b⟩
   ·exact⟨show(-2147483648:Int)≤0 by decide,show(0:Int)≤2147483647 by decide⟩
  ·simp at d
theorem cO{w:World}{s:Nat}{M:Scm}(h:DAt w s M)(ok:M.S.ok){r:Int}(r0:-2147483648≤r)(r1:r≤2147483647):Calls prog 61 #[.pointer (some ⟨s,0,none⟩),.int .i32 r] w (Ac λ_ w'=>DDo w s M w' (M.S.print r)):=by
 have hwh:=Dn ok;have h1:=ok.w1;apply WE;intro K hK;unfold MO;unfold Scr.print at hK;refine td Js rfl (IS w r r0 r1) ?_;rintro v w1 ⟨rfl,rfl⟩;refine td Ce rfl (Cl h) ?_;rintro v w2 ⟨rfl,hc2⟩;have j2:=h.chg0 hc2;have hw2:=HD r;simp -dsimp (disch:=first|omega|(simp only[go_sem,seval];try omega))only[go_sem,seval,Gr.val];refine sh (λv w'=>v=.bool (decide (AN r=0∨(M.S.w:Int)<AN r))∧w'=w2) ?_ ?_
 ·refine sn ?_;refine sd (λg=>⟨su (.inl g),rfl⟩) (λg=>?_);refine sn ?_;rw[hwh.1];exact sw ⟨λh=>.inr h,λh=>h.resolve_left g⟩
 rintro v w3 ⟨rfl,rfl⟩;refine sd (λg=>?_) (λg=>?_)
 ·rw[rG g] at hK;exact hK _ _ (DDx.of j2 (hc2.mono Z) rfl)
 rw[rF g] at hK;obtain⟨n,hn⟩:∃n:Nat,AN r=n:=⟨(AN r).toNat,O⟩;rw[hn] at hK g;rw[Int.toNat_natCast] at hK;rw[hn];refine si (λw'=>DDo w1 s M w' M.S.wrapped) ?_ ?_
 ·have hb:=j2.hb;have tl:=j2.tl;have hl:=Aa hb;refine sq hb ?_;unfold Scr.wrapped;refine BrW.by (λg2=>?_) (λg2=>?_)
  ·rw[rG g2];refine sq hb ?_;have j3:=j2.num (M.S.at 0 M.S.now.y) ((0:Nat):Int) M.S.now.y rfl rfl tl;refine td Gq rfl (Ga (M:={ M with S:=M.S.at 0 M.S.now.y }) j3 (Scr.ok.at ok ok.w0 ok.ny).ok rfl) ?_;intro v w4 hd;exact .trans ((hc2.mono Z).set _ _ (.inl Z)) (by exact .rf rfl rfl rfl) hd
  ·rw[rF (by rw[g2];simp)];exact DDx.of j2 (hc2.mono Z) rfl
 rintro w4 ⟨M4,j4,e4,hc4,hb4⟩;have hb:=j4.hb;have tl:=j4.tl;have hl:=Aa hb;have ok4:M4.S.ok:=by rw[e4];exact(Scr.ok.wrapped ok).ok
 have hw4:M4.S.w=M.S.w:=by rw[e4];exact(Scr.ok.wrapped ok).w
 rw[←e4] at hb j4 hK;rw[←Wr,←Qb] at hK;refine sq hb ?_;have j5:=j4.num M4.S.calm M4.S.now.x M4.S.now.y rfl rfl tl;have hc5:Chg (s::M.dblk) w1 (Ab w4 s (({ M4 with S:=M4.S.calm }:Scm).dobj M4.S.now.x M4.S.now.y)):=hc4.set _ _ (.inl Z);have e5:({ M4 with S:={ M4.S with waits:=false } }:Scm)={ M4 with S:=M4.S.calm }:=rfl;rw[e5];obtain⟨M5,hM5⟩:∃M5:Scm,M5={ M4 with S:=M4.S.calm }:=⟨_,rfl⟩;rw[←hM5] at hc5 j5 ⊢;have ok5:M5.S.ok:=by rw[hM5];exact(Scr.ok.calm ok4).ok
 have hw5:M5.S.w=M.S.w:=by rw[hM5];exact hw4
 have hb5':Gd w1 M M5:=by rw[hM5];exact⟨hb4.dk,hb4.q⟩
 have k5:DAt (Ab w4 s (M5.dobj M4.S.now.x M4.S.now.y)) s M5:=by
  have:M5.S.now=M4.S.now:=by rw[hM5];rfl
  show DAx _ s M5 M5.S.now.x M5.S.now.y;rw[this];exact j5
 rw[show M4.S.calm=M5.S by rw[hM5]] at hK;generalize Ab w4 s (M5.dobj M4.S.now.x M4.S.now.y)=w5 at *;have hcalm:(M5.S.roomFor n).waits=false:=by rw[hM5,Qb];rfl
 clear hM5 e5 j5;have hb5:=k5.hb;have hl5:=Aa hb5;have tl5:=k5.tl;have hnx:=ok5.nx;have hny:=ok5.ny;have h15:=ok5.w1;refine si (λw'=>DDo w5 s M5 w' (M5.S.roomFor n)) ?_ ?_
 ·refine sq hb5 ?_;unfold Scr.roomFor;refine sd (λg2=>?_) (λg2=>?_)
  ·rw[rG O];refine sq hb5 ?_;refine BrW.by (λg3=>?_) (λg3=>?_)
   ·rw[rG g3];refine sq hb5 ?_;have j3:=k5.num (M5.S.at 0 M5.S.now.y) ((0:Nat):Int) M5.S.now.y rfl rfl tl5;refine td Gq rfl (Ga (M:={ M5 with S:=M5.S.at 0 M5.S.now.y }) j3 (Scr.ok.at ok5 ok5.w0 ok5.ny).ok rfl) ?_;intro v w6 hd;exact .trans ((sg _ _).set _ _ (.inl Z)) (by exact .rf rfl rfl rfl) hd
   ·rw[rF (by rw[g3];simp)];have e1:(M.S.cur.w:Int)-(n:Int)=((M5.S.w-n:Nat):Int):=O;refine sr e1 hb5 ?_;exact DDx.num (sg _ _) (by exact .rf rfl rfl rfl) k5 (M5.S.at (M5.S.w-n) M5.S.now.y) _ _ rfl rfl tl5
  ·rw[rF O];exact DDx.of k5 (sg _ _) rfl
 rintro w6 ⟨M6,j6,e6,hc6,hb6⟩;obtain⟨nx6,hfit6⟩:=Scr.ok.roomFor ok5 (n:=n) O O;have hc06:Chg (s::M.dblk) w1 w6:=hc5.trans hc6 λb hb=>(rM.1 hb).elim (λe=>.inl (by simp [e])) λhb=>(hb5' b hb).imp (λh=>List.mem_cons_of_mem _ h) id;have hb06:Gd w1 M M6:=hb5'.trans hb6 hc5.size;have ok6:M6.S.ok:=by rw[e6];exact nx6.ok
 have hw6:M6.S.w=M.S.w:=by rw[e6,nx6.w,hw5]
 rw[←e6] at hK hfit6 j6 hcalm;clear hb5 e6 k5 hc6 hb6 nx6;have hb:=j6.hb;have hl6:=Aa hb;have tl6:=j6.tl;have hwb:=CN M6.S.alt;refine sq hb ?_;refine td Ce rfl (Cl (j6.chg0 (sg _ _).drew)) ?_;rintro v w7 ⟨rfl,hc7⟩;have hc67:=(sg [] w6).drew.trans0 hc7;have j7:=j6.chg0 hc67;have hb7:=j7.hb;refine sq hb7 ?_;have hmk:=Za w7 r M6.S.now.pen r0 r1;unfold Cel.val at hmk;refine td Uk rfl (hmk) ?_;rintro v w8 ⟨ho8,hc8⟩;obtain⟨a8,cap8,rfl,-,hs8,-⟩:=ho8.form;have hln:=ZJ (p:=M6.S.now.pen) hn O;have hc68:=hc67.trans0 hc8;have j8:=j6.chg0 hc68;have hb8:=j8.hb;refine sq hb8 ?_;have hcu:=j8.cur;have hG:=ok6.cur;have hny6:=ok6.ny;refine td gp rfl (ah hG.ok hG.r hcu.1 M6.cc hcu.2 (X:=M6.S.now.x) (Y:=M6.S.now.y) (by rw[hG.h];exact hny6) hs8 cap8 (by rw[hG.w];omega) O (Wk r0 r1)) ?_;rintro v w9 ⟨⟨nb,cap,sp,rfl,k1,k2,k3⟩,hc9⟩;have hc69:=hc68.trans0 hc9;have j9:=j8.chg0 hc9;have hb9:=j9.hb;have hl9:=Aa hb9;have hputc:=M6.dwCur M6.S.now.x M6.S.now.y (M6.S.cur.put M6.S.now.x M6.S.now.y (A8 r M6.S.now.pen)) nb cap sp tl6;simp -dsimp (disch:=first|omega|(simp only[go_sem,seval];try omega))only[go_sem,seval,Gr.val,hb9,hputc];have j10:=j9.grid k3 k1;have hc10:Chg (s::M.dblk) w1 (Ab w9 s ((M6.setCur (M6.S.cur.put M6.S.now.x M6.S.now.y (A8 r M6.S.now.pen)) nb cap sp).dobj M6.S.now.x M6.S.now.y)):=(hc06.trans0 hc69).set _ _ (.inl Z);have hS10:=M6.setCur_S (M6.S.cur.put M6.S.now.x M6.S.now.y (A8 r M6.S.now.pen)) nb cap sp;have hg10:=JA M6 (M6.S.cur.put M6.S.now.x M6.S.now.y (A8 r M6.S.now.pen)) nb cap sp;rw[←ai ok6] at hS10;have hb010:Gd w1 M (M6.setCur (M6.S.cur.put M6.S.now.x M6.S.now.y (A8 r M6.S.now.pen)) nb cap sp):=hb06.cur (by have:=(hc06.trans0 hc68).size;omega) _ _ _;generalize M6.setCur (M6.S.cur.put M6.S.now.x M6.S.now.y (A8 r M6.S.now.pen)) nb cap sp=M10 at *;generalize Ab w9 s (M10.dobj M6.S.now.x M6.S.now.y)=w10 at *;have hb10:=j10.hb;have hl10:=Aa hb10;have tl10:=j10.tl;have hx6:=ok6.nx;have h16:=ok6.w1;have e1:(M6.S.now.x:Int)+(n:Int)=((M6.S.now.x+n:Nat):Int):=O;have hwr:M10.S.wraps=M6.S.wraps∧M10.S.waits=false:=by
  rw[hS10];exact⟨by unfold Scr.line Scr.setCur;cases M6.S.alt<;>rfl,by rw[←hcalm];unfold Scr.line Scr.setCur;cases M6.S.alt<;>rfl⟩
 unfold Scr.lay at hK;dsimp only at hK;rw[←hS10] at hK;refine sr hb10 e1 ?_;have j11:=j10.mv ((M6.S.now.x+n:Nat):Int) M6.S.now.y;have hc11:Chg (s::M.dblk) w1 (Ab w10 s (M10.dobj ((M6.S.now.x+n:Nat):Int) M6.S.now.y)):=hc10.set _ _ (.inl Z);generalize Ab w10 s (M10.dobj ((M6.S.now.x+n:Nat):Int) M6.S.now.y)=w11 at *;have hb11:=j11.hb;have hl11:=Aa hb11;refine sd (λg2=>?_) (λg2=>?_)
 ·rw[rG O] at hK;have e2:(M.S.cur.w:Int)-1=((M6.S.w-1:Nat):Int):=O;refine sr hb11 e2 ?_;rw[←hwr.1] at hK;exact hK _ _ (DDx.num hc11 hb010 j11 { M10.S.at (M6.S.w-1) M6.S.now.y with waits:=M10.S.wraps } _ _ rfl rfl tl10)
 ·rw[rF O] at hK;have hT:({ M10.S.at (M6.S.now.x+n) M6.S.now.y with waits:=false }:Scr)=M10.S.at (M6.S.now.x+n) M6.S.now.y:=by
   rw[←hwr.2];rfl
  rw[hT] at hK;exact hK _ _ ⟨_,j11.seat (M6.S.now.x+n) M6.S.now.y,rfl,hc11,⟨hb010.dk,hb010.q⟩⟩
def Ca:List Value:=[.int .i64 0,.int .i64 0,.slice none 0 0]
def Cu (g0 g1:List Value) (H:Nat):List Value :=
 g0++(g1++([(.int .i64 0:Value),.int .i64 0,.int .i64 0,.int .i32 0,.int .u8 0,.int .u8 0,.int .u8 0,.int .i64 0,.int .i64 0,.int .i32 0,.int .u8 0,.int .u8 0,.int .u8 0,.int .i64 0,.int .i64 0,.int .i32 0,.int .u8 0,.int .u8 0,.int .u8 0,.int .i64 0,.int .i64 H]++List.replicate 200 (.bool false)++[.bool true,.bool false,.bool true,.slice none 0 0]))
theorem im (a b c:Value) (g1:List Value) (H:Nat):Ao (some (.cells (Cu Ca g1 H).toArray 107)) 0 [a,b,c]=some (.cells (Cu [a,b,c] g1 H).toArray 107):=Cw [] Ca [a,b,c] _ _ 0 rfl rfl
theorem UT (a b c:Value) (x y z:Value) (H:Nat):Ao (some (.cells (Cu [x,y,z] Ca H).toArray 107)) 3 [a,b,c]=some (.cells (Cu [x,y,z] [a,b,c] H).toArray 107):=by
 have:=Cw [x,y,z] Ca [a,b,c] (([(.int .i64 0:Value),.int .i64 0,.int .i64 0,.int .i32 0,.int .u8 0,.int .u8 0,.int .u8 0,.int .i64 0,.int .i64 0,.int .i32 0,.int .u8 0,.int .u8 0,.int .u8 0,.int .i64 0,.int .i64 0,.int .i32 0,.int .u8 0,.int .u8 0,.int .u8 0,.int .i64 0,.int .i64 H]++List.replicate 200 (.bool false)++[.bool true,.bool false,.bool true,.slice none 0 0])) 107 3 rfl rfl
 rw[List.append_assoc,List.append_assoc] at this
 exact this
def BU (i:Nat):List Bool:=(List.range 200).map fun x=>decide (x % 8=0∧8≤x∧x<i)
theorem SE (i:Nat):(BU i).length=200:=by unfold BU;rw[List.length_map,List.length_range]
theorem bZ:BU 8=List.replicate 200 false:=by
 apply List.ext_getElem?
 intro k
 unfold BU
 rw[List.getElem?_map,List.getElem?_replicate]
 by_cases h:k<200
 ·rw[List.getElem?_range h,if_pos h]
  exact congrArg some (decide_eq_false (by omega))
 ·rw[if_neg h,List.getElem?_eq_none (by simp;omega)]
  rfl
theorem iB:BU 200=DO:=by
 unfold BU DO
 refine List.map_congr_left fun x hx=>?_
 have:=List.mem_range.1 hx
 exact decide_eq_decide.2 ⟨fun h=>⟨h.1,h.2.1⟩,fun h=>⟨h.1,h.2,this⟩⟩
theorem X7 (t:Nat):(BU (8*t+8)).set (8*t+8) true=BU (8*(t+1)+8):=by
 apply List.ext_getElem?
 intro k
 unfold BU
 rw[List.getElem?_set,List.getElem?_map,List.getElem?_map]
 by_cases h:k<200
 ·rw[List.getElem?_range h]
  by_cases h1:8*t+8=k
  ·rw[if_pos h1,if_pos (by simp;omega)]
   exact congrArg some (decide_eq_true (by omega)).symm
  ·rw[if_neg h1]
   exact congrArg some (decide_eq_decide.2 ⟨fun h=>by omega,fun h=>by omega⟩)
 ·rw[List.getElem?_eq_none (l:=List.range 200) (by simp;omega)]
  by_cases h1:8*t+8=k
  ·rw[if_pos h1,if_neg (by simp;omega)]
   rfl
  ·rw[if_neg h1]
   rfl
def Scr.start (W H:Nat) (l:List Bool):Scr:={ Scr.new W H with tabs:=l }
section
attribute [-go_sem] E0 Et
theorem RS (w:World) (W H:Nat) (W0:0<W) (W1:W≤200) (H0:0<H) (H1:H≤60):Calls Tryz.prog 24 #[.int .i64 W,.int .i64 H] w
  (Ac fun v w'=>∃s M,v=.pointer (some ⟨s,0,none⟩)∧DAt w' s M∧M.S=Scr.new W H∧Chg [] w w'∧w.heap.size≤s∧M.gv=.slice none 0 0∧w.heap.size≤M.b0∧w.heap.size≤M.b1):=by
 apply aU
 intro K hK
 unfold K2
 refine OpX.build (c:=(Cu Ca Ca H).toArray) (by kernel_rfl) ?_
 show OpX Tryz.prog _ _ _ _;rw[RX]
 obtain⟨z,hz⟩:∃z,z=(Value.agg (Cu Ca Ca H).toArray).cells:=⟨_,rfl⟩
 rw[←hz]
 have hb:(w.alloc (.cells z 107)).heap[w.heap.size]?=some (.cells (Cu Ca Ca H).toArray 107):=by
  rw[hz]
  exact Lyc.heap_alloc_new _ _ _ rfl
 have hc5:Chg [] w (w.alloc (.cells z 107)):=Ar _ _
 have hs5:(w.alloc (.cells z 107)).heap.size=w.heap.size+1:=by simp -dsimp (disch:=first|omega|(simp only[go_sem,seval];try omega))only[go_sem,seval]
 clear hz
 generalize w.alloc (.cells z 107)=w1 at *
 have hl1:=Aa hb
 simp -dsimp (disch:=first|omega|(simp only[go_sem,seval];try omega))only[go_sem,seval]
 refine OpX.call Kg rfl (Calls.ret (KT w1.drew W H W0 W1 H0 H1) ?_)
 rintro v w2 ⟨⟨nb,cap,sp,rfl,k1,k2,k3⟩,hc2⟩
 have hc02:=(hc5.drew).trans0 hc2
 have hb2:=((Chg.refl [] w1).drew.trans0 hc2).keep hb (by simp)
 have hl2:=Aa hb2
 have hz2:=hc02.size
 have p1:=im (.int .i64 W) (.int .i64 H) (.slice (some ⟨nb,0,none⟩) (Gr.plain W H Cel.blank).cs.length cap) Ca H
 simp -dsimp (disch:=first|omega|(simp only[go_sem,seval];try omega))only[go_sem,seval,Gr.val,Fc,Ew,hb2,p1]
 have hc3:Chg [] w (Ab w2 w.heap.size (.cells (Cu [.int .i64 W,.int .i64 H,.slice (some ⟨nb,0,none⟩) (Gr.plain W H Cel.blank).cs.length cap] Ca H).toArray 107)).drew:=(hc02.set _ _ (.inr (Nat.le_refl _))).drew
 have hb3:(Ab w2 w.heap.size (.cells (Cu [.int .i64 W,.int .i64 H,.slice (some ⟨nb,0,none⟩) (Gr.plain W H Cel.blank).cs.length cap] Ca H).toArray 107)).drew.heap[w.heap.size]?=some (.cells (Cu [.int .i64 W,.int .i64 H,.slice (some ⟨nb,0,none⟩) (Gr.plain W H Cel.blank).cs.length cap] Ca H).toArray 107):=by simp -dsimp (disch:=first|omega|(simp only[go_sem,seval];try omega))only[go_sem,seval]
 have hg3:(Ab w2 w.heap.size (.cells (Cu [.int .i64 W,.int .i64 H,.slice (some ⟨nb,0,none⟩) (Gr.plain W H Cel.blank).cs.length cap] Ca H).toArray 107)).drew.heap[nb]?=some (.cells ((Gr.plain W H Cel.blank).cs.flatMap Cel.cells++sp).toArray 60):=by
  have:nb≠w.heap.size:=fun e=>by
   rw[e,hb2] at k3
   simp at k3
  simp -dsimp (disch:=first|omega|(simp only[go_sem,seval];try omega))only[go_sem,seval]
  exact k3
 generalize (Ab w2 w.heap.size (.cells (Cu [.int .i64 W,.int .i64 H,.slice (some ⟨nb,0,none⟩) (Gr.plain W H Cel.blank).cs.length cap] Ca H).toArray 107)).drew=w3 at *
 refine OpX.call Kg rfl (Calls.ret (KT w3 W H W0 W1 H0 H1) ?_)
 rintro v w4 ⟨⟨nb2,cap2,sp2,rfl,r1,r2,r3⟩,hc4⟩
 have hb4:=hc4.keep hb3 (by simp)
 have hg4:=hc4.keep hg3 (by simp)
 have hl4:=Aa hb4
 have p2:=UT (.int .i64 W) (.int .i64 H) (.slice (some ⟨nb2,0,none⟩) (Gr.plain W H Cel.blank).cs.length cap2) (.int .i64 W) (.int .i64 H) (.slice (some ⟨nb,0,none⟩) (Gr.plain W H Cel.blank).cs.length cap) H
 simp -dsimp (disch:=first|omega|(simp only[go_sem,seval];try omega))only[go_sem,seval,Gr.val,Fc,Ew,hb4,p2]
 obtain⟨M,hM⟩:∃M:Scm,M=⟨Scr.start W H (BU 8),nb,cap,sp,nb2,cap2,sp2,.slice none 0 0,[]⟩:=⟨_,rfl⟩
 have ho:(Obj.cells (Cu [.int .i64 W,.int .i64 H,.slice (some ⟨nb,0,none⟩) (Gr.plain W H Cel.blank).cs.length cap] [.int .i64 W,.int .i64 H,.slice (some ⟨nb2,0,none⟩) (Gr.plain W H Cel.blank).cs.length cap2] H).toArray 107)=M.dobj 0 0:=by
  rw[hM,bZ]
  unfold Scm.dobj Scm.dcells Scm.dend Scr.start
  rw[List.map_replicate]
  rfl
 rw[ho]
 have hz4:=hc4.size
 have hz3:=hc3.size
 have hc6:Chg [w.heap.size] w4 (Ab w4 w.heap.size (M.dobj 0 0)):=(Chg.refl _ _).set _ _ (.inl (by simp))
 have hc7:Chg [] w (Ab w4 w.heap.size (M.dobj 0 0)):=(hc3.trans0 hc4).set _ _ (.inr (Nat.le_refl _))
 have hn6:NoC w4 [w.heap.size]:=fun b hb c fr he=>by
  simp at hb;subst hb
  rw[hb4] at he
  simp at he
 have hx:∀{b:Nat} {sp:List Value},w4.heap[b]?=some (.cells ((Gr.plain W H Cel.blank).cs.flatMap Cel.cells++sp).toArray 60)→SxC w4 (some 60) (some ⟨b,0,none⟩) (Gr.plain W H Cel.blank).cs:=fun {b} {sp} h=>⟨fun _=>⟨b,0,_,_,_,[],sp,rfl,h,by simp [Bz],by simp,rfl⟩⟩
 have j5:DAx (Ab w4 w.heap.size (M.dobj 0 0)) w.heap.size M 0 0:=by
  refine⟨Aw _ _ _ _ rfl hl4,?_,?_,?_,?_,?_,?_,?_,?_⟩
  ·rw[hM];exact hn6.sx (hx hg4) (by rw[hM] at hc6;exact hc6)
  ·rw[hM];exact k1
  ·rw[hM];exact hn6.sx (hx r3) (by rw[hM] at hc6;exact hc6)
  ·rw[hM];exact r1
  ·rw[hM];exact SE 8
  ·rw[hM];exact Oy.nil _ _ _
  ·rw[hM];simp
  ·rw[hM];simp
 have hgv:M.gv=.slice none 0 0:=by rw[hM]
 have hbb:w.heap.size≤M.b0∧w.heap.size≤M.b1:=by
  rw[hM]
  have hdz:w1.drew.heap.size=w1.heap.size:=rfl
  exact⟨by show w.heap.size≤nb;omega,by show w.heap.size≤nb2;omega⟩
 have hS:M.S=Scr.start W H (BU (8*0+8)):=by rw[hM]
 generalize Ab w4 w.heap.size (M.dobj 0 0)=w5 at *
 refine Loop1.st (fun t:Nat=>.int .i64 ((8*t+8:Nat):Int)) (fun t w'=>t≤24∧DAx w' w.heap.size { M with S:=Scr.start W H (BU (8*t+8)) } 0 0∧Chg [] w w') (fun t=>24-t) 0 rfl ⟨by omega,by rw[←hS];exact j5,hc7⟩ ?_
 rintro next t w6 hn ⟨ht,j6,hc8⟩
 have hb6:=j6.hb
 have hl6:=Aa hb6
 have tl6:=j6.tl
 simp -dsimp (disch:=first|omega|(simp only[go_sem,seval];try omega))only[go_sem,seval]
 refine BrW.dec (fun g=>?_) (fun g=>?_)
 ·have e1:((8*t+8:Nat):Int)+8=((8*(t+1)+8:Nat):Int):=by omega
  simp -dsimp (disch:=first|omega|(simp only[go_sem,seval];try omega))only[go_sem,seval,hb6]
  have e2:({ Scr.start W H (BU (8*t+8)) with tabs:=(Scr.start W H (BU (8*t+8))).tabs.set (8*t+8) true }:Scr)=Scr.start W H (BU (8*(t+1)+8)):=by
   rw[←X7]
   rfl
  rw[e1]
  refine hn (t+1) _ ⟨by omega,?_,hc8.set _ _ (.inr (Nat.le_refl _))⟩ (by omega)
  rw[←e2]
  exact j6.num _ 0 0 rfl rfl (by rw[e2];exact SE _)
 ·obtain rfl:t=24:=by omega
  refine hK _ _ ⟨_,{ M with S:=Scr.start W H (BU (8*24+8)) },rfl,j6,?_,hc8,Nat.le_refl _,hgv,hbb⟩
  show Scr.start W H (BU 200)=_
  rw[iB]
  rfl
end
end Go.Proofs.YtnpkidnbhlepkaaGreat
