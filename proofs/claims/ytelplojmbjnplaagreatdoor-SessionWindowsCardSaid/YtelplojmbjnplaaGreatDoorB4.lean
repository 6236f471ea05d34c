/- Helpers of this claim, part 4: engine, translated functions, contracts, plain laws. -/
import Derived.Test.YtelplojmbjnplaaGreatDoorB1
import Derived.Test.YtelplojmbjnplaaGreatDoorB3
import Derived.Test.YtelplojmbjnplaaGreatDoorB0
import Derived.Test.YtelplojmbjnplaaGreatDoorRows
import Derived.Test.YtelplojmbjnplaaGreatDoorTie
import Derived.Test.YtelplojmbjnplaaGreatDoorCards
import Derived.Lib.SmallJoins
import Derived.LaidLaws
import Derived.LaidHandle
import Derived.SevenTiedAt
import Derived.Laws.Externs
import Derived.Stop.Asserts
set_option linter.unusedSimpArgs false
set_option linter.unusedVariables false
namespace Go.Proofs.YtelplojmbjnplaaGreatDoor
open Lyc Go
theorem Nt (w:World) (x y:Int):Calls Tryz.prog 83 #[.int .i64 x,.int .i64 y] w (Ac fun v w'=>v=.bool (decide (1≤x∧x≤200∧1≤y∧y≤60))∧w'=w):=by
 apply PM
 intro K hK
 unfold Nn
 refine Join1.cut (fun v w'=>v=.bool (decide (1≤x∧x≤200∧1≤y∧y≤60))∧w'=w) ?_ (fun v w' h=>hK _ _ h)
 simp -dsimp (disch:=first|omega|(simp only[go_sem,seval];try omega))only[go_sem,seval]
 refine BrW.dec (fun g1=>?_) (fun g1=>⟨congrArg Value.bool (decide_eq_false (by omega)).symm,rfl⟩)
 simp -dsimp (disch:=first|omega|(simp only[go_sem,seval];try omega))only[go_sem,seval]
 refine BrW.dec (fun g2=>?_) (fun g2=>⟨congrArg Value.bool (decide_eq_false (by omega)).symm,rfl⟩)
 simp -dsimp (disch:=first|omega|(simp only[go_sem,seval];try omega))only[go_sem,seval]
 refine BrW.dec (fun g3=>?_) (fun g3=>⟨congrArg Value.bool (decide_eq_false (by omega)).symm,rfl⟩)
 simp -dsimp (disch:=first|omega|(simp only[go_sem,seval];try omega))only[go_sem,seval]
 exact congrArg Value.bool (decide_eq_decide.2 ⟨fun h=>by omega,fun h=>by omega⟩)
theorem Sp (w:World) (x y:Int) (h1:1≤x) (h2:x≤200) (h3:1≤y) (h4:y≤60):Calls Tryz.prog 50 #[.int .i64 x,.int .i64 y] w
  (Ac fun v w'=>∃b t,v=.pointer (some ⟨b,0,none⟩)∧LAt w' b ⟨.pane t 1,⟨0,0,x,y⟩,1⟩∧w.heap.size≤b∧w.heap.size≤t∧Chg [] w w'):=by
 apply Xr
 intro K hK
 unfold N7
 refine OpX.call Jn rfl (Calls.ret (Nt w x y) ?_)
 rintro v w1 ⟨rfl,rfl⟩
 rw[decide_eq_true (by omega)]
 simp -dsimp (disch:=first|omega|(simp only[go_sem,seval];try omega))only[go_sem,seval]
 refine hK _ _ ⟨w1.heap.size+1,w1.heap.size,rfl,⟨?_,?_,by simp [Mt.blks]⟩,by omega,Nat.le_refl _,by(repeat (first|exact Chg.refl _ _|apply Chg.drew|apply Chg.alloc|(refine Chg.set ?_ _ _ (by first|(left;simp;done)|(right;omega)))))⟩
 ·simp only[Mt.blk]
  simp -dsimp (disch:=first|omega|(simp only[go_sem,seval];try omega))only[go_sem,seval]
 ·simp only[Ap]
  simp -dsimp (disch:=first|omega|(simp only[go_sem,seval];try omega))only[go_sem,seval]
theorem J6 {x y:Int} {t:Nat} (h1:1≤x) (h2:x≤200) (h3:1≤y) (h4:y≤60):(⟨.pane t 1,⟨0,0,x,y⟩,1⟩:Ly).ok :=
 ⟨Int.le_refl _,⟨Int.le_refl _,Int.le_refl _,h1,h3,by dsimp only;omega,by dsimp only;omega⟩,rfl,by simp [Mt.ids],by simp [Mt.ids],by simp [Mt.ids]⟩
section
variable {w w':World} {b:Nat} {L:Ly}
theorem Jf (h:LAt w b L) (ok:L.ok) (x y:Int) (h1:1≤x) (h2:x≤200) (h3:1≤y) (h4:y≤60):Calls Tryz.prog 59 #[.pointer (some ⟨b,0,none⟩),.int .i64 x,.int .i64 y] w
  (Ac fun v w'=>(L.root.fits ⟨0,0,x,y⟩=true∧v=.nilIface∧LAt w' b { L with R:=⟨0,0,x,y⟩ }∧Chg [b] w w')∨(L.root.fits ⟨0,0,x,y⟩=false∧v=Ax 19∧Chg [] w w')):=by
 have hb:=h.hb
 have lb:=Aa hb
 have hR:(⟨0,0,x,y⟩:Rc).ok:=⟨Int.le_refl _,Int.le_refl _,h1,h3,by dsimp only;omega,by dsimp only;omega⟩
 apply ZE
 intro K hK
 unfold KH
 refine OpX.call E4 rfl (Calls.ret (EF h) ?_)
 rintro v w1 ⟨rfl,rfl⟩
 simp -dsimp (disch:=first|omega|(simp only[go_sem,seval];try omega))only[go_sem,seval]
 refine OpX.call Jn rfl (Calls.ret (Nt w1 x y) ?_)
 rintro v w2 ⟨rfl,rfl⟩
 rw[decide_eq_true (by omega)]
 simp -dsimp (disch:=first|omega|(simp only[go_sem,seval];try omega))only[go_sem,seval,hb]
 refine OpX.gen fun w3 hw3=>?_
 have hc3:Chg [] w2 w3:=by rw[hw3];(repeat (first|exact Chg.refl _ _|apply Chg.drew|apply Chg.alloc|(refine Chg.set ?_ _ _ (by first|(left;simp;done)|(right;omega)))))
 have a7:w3.heap[w2.heap.size]?=some (.cells #[.int .i64 0,.int .i64 0,.int .i64 x,.int .i64 y] 49):=by rw[hw3];simp -dsimp (disch:=first|omega|(simp only[go_sem,seval];try omega))only[go_sem,seval]
 clear hw3
 refine OpX.call GK rfl (Calls.ret (N8 (R:=⟨0,0,x,y⟩) (h.tree.chg0 hc3) ok.ok hR) ?_)
 rintro v w4 ⟨rfl,hc4⟩
 have hc04:=hc3.trans0 hc4
 have a74:=hc4.keep a7 (by simp)
 have hb4:=hc04.keep hb (by simp)
 have lb4:=Aa hb4
 cases hf:L.root.fits ⟨0,0,x,y⟩
 ·simp -dsimp (disch:=first|omega|(simp only[go_sem,seval];try omega))only[go_sem,seval]
  refine OpX.call BX rfl (Calls.ret (BV w4 19) ?_)
  rintro v w5 ⟨rfl,rfl⟩
  exact hK _ _ (.inr ⟨hf,rfl,hc04⟩)
 ·simp -dsimp (disch:=first|omega|(simp only[go_sem,seval];try omega))only[go_sem,seval,a74,hb4]
  have hcs:Chg [b] w4 (Ab w4 b (.cells #[.pointer (some ⟨L.root.blk,0,none⟩),.int .i64 0,.int .i64 0,.int .i64 x,.int .i64 y,.int .i64 L.newest] 149)):=(Chg.refl _ _).set _ _ (by simp)
  refine hK _ _ (.inl ⟨hf,rfl,⟨Au _ _ _ _ rfl lb4,Ap.chg hcs (h.tree.chg0 hc04) fun z hz=>?_,h.nd⟩,(hc04.mono (by simp)).trans hcs (by simp)⟩)
  simp
  rintro rfl
  obtain⟨c,fr,e⟩:=h.tree.tag z hz
  rw[hb] at e
  simp at e
theorem Wa {id:Int} {t:Mt} {R:Rc} (hi:id∈t.ids):∃W nb S,t.way id R=W++[(Mt.pane nb id,S)]∧(Mt.pane nb id,S)∈t.all R:=by
 have hn:t.way id R≠[]:=fun h=>Mt.way_nil.1 h hi
 obtain⟨W,c,S,e,-⟩:=Mt.way_end hn
 exact⟨W,c,S,e,Mt.way_all _ (by rw[e];simp)⟩
theorem Yt (h:LAt w b L) (ok:L.ok) {id:Int} {W:List (Mt × Rc)} {nb:Nat} {S:Rc} (hw:L.root.way id L.R=W++[(Mt.pane nb id,S)]) {fv:Value} (R:World→Prop)
  (hy:∀w1,Chg [] w w1→Bd Tryz.prog fv [.pointer (some ⟨nb,0,none⟩),S.val] (fun _ w2=>R w2) w1) :
  Calls Tryz.prog 173 #[.pointer (some ⟨b,0,none⟩),.int .i64 id,fv] w (Ac fun v w'=>v=.bool true∧R w'):=by
 have hb:=h.hb
 have hwl:=Mt.way_len (id:=id) (t:=L.root) (R:=L.R)
 have hfew:=ok.few
 apply ZQ
 intro K hK
 unfold Oh
 simp -dsimp (disch:=first|omega|(simp only[go_sem,seval];try omega))only[go_sem,seval,hb]
 refine OpX.call Fe rfl (Calls.ret (HY id (h.tree.chg0 (Chg.refl _ _).drew) ok.ok ok.R ok.fits (by omega)) ?_)
 rintro v w1 ⟨ho,-,hc1⟩
 obtain⟨a,cap,rfl,-,hs,-,-⟩:=ho.form
 have hlen:(L.root.way id L.R).length=W.length+1:=by rw[hw];simp
 obtain⟨b',o,rfl,hbl,hcell⟩:=hs.get Dk (i:=W.length) (x:=(Mt.pane nb id,S)) (by rw[hw];simp)
 simp only[Cd,Rc.cells,Mt.blk] at hcell
 rw[hlen]
 have e0:¬((W.length+1:Nat):Int)=0:=by omega
 have e1:((W.length+1:Nat):Int)-1=(W.length:Int):=by omega
 simp -dsimp (disch:=first|omega|(simp only[go_sem,seval];try omega))only[go_sem,seval,e0,e1,hcell]
 have hca:=AE w1 (.cells #[.pointer (some ⟨nb,0,none⟩),.int .i64 S.x,.int .i64 S.y,.int .i64 S.w,.int .i64 S.h] 287)
 refine(hy _ (hc1.low_drew.trans0 hca)).use (vs:=[.pointer (some ⟨nb,0,none⟩),S.val]) ?_
 exact fun v w2 h=>hK _ _ ⟨rfl,h⟩
theorem Wo {K:Value→World→Prop} {v:Value} {w:World} (h:∀w0,w0=w→K v w0):K v w:=h w rfl
def BW (L:Ly) (ac:Bool) (nb n1 n2:Nat) (S:Rc) (id:Int):Ly:=⟨L.root.put nb (.split nb ac (S.len ac / 2) (S.len ac-1) (.pane n1 id) (.pane n2 (L.newest+1))),L.R,L.newest+1⟩
theorem Xz (h:LAt w b L) (ok:L.ok) {id:Int} (hid:id∈L.root.ids) (hnew:L.newest≤1000000000000000) (ac:Bool):Calls Tryz.prog 131 #[.pointer (some ⟨b,0,none⟩),.int .i64 id,.bool ac] w
  (Ac fun v w'=>∃nb S,(Mt.pane nb id,S)∈L.root.all L.R∧(
   ((16≤L.root.ids.length∨S.len ac<3)∧v=.tuple #[.int .i64 0,Ax (if 16≤L.root.ids.length then 15 else 19)]∧Chg [] w w') ∨
   (L.root.ids.length<16∧3≤S.len ac∧v=.tuple #[.int .i64 (L.newest+1),.nilIface]∧∃n1 n2,w.heap.size≤n1∧w.heap.size≤n2∧n1≠n2∧LAt w' b (BW L ac nb n1 n2 S id)∧Chg [b,nb] w w'))):=by
 obtain⟨Wy,nb,S,hw,hall⟩:=Wa (R:=L.R) hid
 have hfew:=ok.few
 have hpl:=Mt.panes_len L.root L.R
 have hb:=h.hb
 obtain⟨Sok,-,-⟩:=Mt.all_ok ok.fits ok.R _ hall
 dsimp only at Sok
 have hn1:=ok.new id hid
 have hn0:=Mt.ok_ids ok.ok id hid
 have hnl:S.len ac≤200:=by
  have:=Sok.x0;have:=Sok.y0;have:=Sok.xw;have:=Sok.yh
  cases ac<;>simp only[Rc.len,if_true,Bool.false_eq_true,if_false]<;>omega
 have hnbm:nb∈L.root.blks:=Mt.all_blk _ hall nb (by simp [Mt.blks])
 have hnblt:=h.tree.lt nb hnbm
 have hlb:=Aa hb
 have hbnb:b∉L.root.blks:=fun hm=>by
  obtain⟨c,fr,e⟩:=h.tree.tag b hm
  rw[hb] at e;simp at e
 apply XP
 intro K hK
 unfold Oe
 simp -dsimp (disch:=first|omega|(simp only[go_sem,seval];try omega))only[go_sem,seval]
 refine OpX.gen fun w0 hw0=>?_
 have hc0:Chg [] w w0:=by rw[hw0];(repeat (first|exact Chg.refl _ _|apply Chg.drew|apply Chg.alloc|(refine Chg.set ?_ _ _ (by first|(left;simp;done)|(right;omega)))))
 have hz0:w0.heap.size=w.heap.size+3:=by rw[hw0];simp -dsimp (disch:=first|omega|(simp only[go_sem,seval];try omega))only[go_sem,seval]
 have a3:w0.heap[w.heap.size]?=some (.cells #[.pointer (some ⟨b,0,none⟩)] 91):=by rw[hw0];simp -dsimp (disch:=first|omega|(simp only[go_sem,seval];try omega))only[go_sem,seval]
 have a4:w0.heap[w.heap.size+1]?=some (.cells #[.int .i64 id] 3):=by rw[hw0];simp -dsimp (disch:=first|omega|(simp only[go_sem,seval];try omega))only[go_sem,seval]
 have a5:w0.heap[w.heap.size+2]?=some (.cells #[.bool ac] 4):=by rw[hw0];simp -dsimp (disch:=first|omega|(simp only[go_sem,seval];try omega))only[go_sem,seval]
 clear hw0
 have h0:=h.chg0 hc0
 refine OpX.call E4 rfl (Calls.ret (EF h0) ?_)
 rintro v w1 ⟨rfl,rfl⟩
 simp -dsimp (disch:=first|omega|(simp only[go_sem,seval];try omega))only[go_sem,seval,a3]
 refine OpX.call Gb rfl (Calls.ret (Fp h0 ok) ?_)
 rintro v w2 ⟨ho,hc2⟩
 obtain⟨a,cap,rfl,-,hs,-,-⟩:=ho.form
 have a32:=hc2.keep a3 (by simp)
 have a42:=hc2.keep a4 (by simp)
 have a52:=hc2.keep a5 (by simp)
 have hz2:=hc2.size
 simp -dsimp (disch:=first|omega|(simp only[go_sem,seval];try omega))only[go_sem,seval,a32,a42]
 refine OpX.gen fun w3 hw3=>?_
 have hc3:Chg [] w2 w3:=by rw[hw3];(repeat (first|exact Chg.refl _ _|apply Chg.drew|apply Chg.alloc|(refine Chg.set ?_ _ _ (by first|(left;simp;done)|(right;omega)))))
 have hz3:w3.heap.size=w2.heap.size+2:=by rw[hw3];simp -dsimp (disch:=first|omega|(simp only[go_sem,seval];try omega))only[go_sem,seval]
 have a8:w3.heap[w2.heap.size]?=some (.cells #[.slice a (L.root.panes L.R).length cap] 37):=by rw[hw3];simp -dsimp (disch:=first|omega|(simp only[go_sem,seval];try omega))only[go_sem,seval]
 have a9:w3.heap[w2.heap.size+1]?=some (.cells #[.int .i64 0] 3):=by rw[hw3];simp -dsimp (disch:=first|omega|(simp only[go_sem,seval];try omega))only[go_sem,seval]
 clear hw3
 have hc03:=(hc0.trans0 hc2).trans0 hc3
 have h3:=h.chg0 hc03
 obtain⟨Rr,hRr⟩:∃Rr:World→Prop,Rr=fun w'=>((16≤L.root.ids.length∨S.len ac<3)∧Chg [] w3 w')∨((L.root.ids.length<16∧3≤S.len ac)∧∃n1 n2,w3.heap.size≤n1∧n1<n2∧Chg [w2.heap.size+1,nb] w3 w'∧w'.heap[w2.heap.size+1]?=some (.cells #[.int .i64 (L.newest+1)] 3) ∧
  Ap w' (.split nb ac (S.len ac / 2) (S.len ac-1) (.pane n1 id) (.pane n2 (L.newest+1)))):=⟨_,rfl⟩
 have hclo:∀w4,Chg [] w3 w4→Bd Tryz.prog (.func (.func 174) #[] #[.pointer (some ⟨w.heap.size+1+1,0,none⟩),.pointer (some ⟨w2.heap.size,0,none⟩),.pointer (some ⟨w.heap.size,0,none⟩),.pointer (some ⟨w2.heap.size+1,0,none⟩),.pointer (some ⟨w.heap.size+1,0,none⟩)]) [.pointer (some ⟨nb,0,none⟩),S.val] (fun _ w2=>Rr w2) w4:=by
  intro w4 hc4
  refine Bd.of (us:=[]) (cs:=[.pointer (some ⟨w.heap.size+1+1,0,none⟩),.pointer (some ⟨w2.heap.size,0,none⟩),.pointer (some ⟨w.heap.size,0,none⟩),.pointer (some ⟨w2.heap.size+1,0,none⟩),.pointer (some ⟨w.heap.size+1,0,none⟩)]) Xu ?_
  have hc24:=hc3.trans0 hc4
  have b3:=hc24.keep a32 (by simp)
  have b4:=hc24.keep a42 (by simp)
  have b5:=hc24.keep a52 (by simp)
  have b8:=hc4.keep a8 (by simp)
  have b9:=hc4.keep a9 (by simp)
  have hb4:=hc4.keep h3.hb (by simp)
  have hnb4:w4.heap[nb]?=some (.cells #[.int .i64 id,.bool false,.int .i64 0,.int .i64 0,.pointer none,.pointer none] 152):=Ap.sub (h3.tree.chg0 hc4) _ hall
  have l3:=Aa b3
  have l4:=Aa b4
  have l5:=Aa b5
  have l8:=Aa b8
  have l9:=Aa b9
  have lb4:=Aa hb4
  have lnb4:=Aa hnb4
  apply Qv
  intro K hK
  unfold Oz
  simp -dsimp (disch:=first|omega|(simp only[go_sem,seval];try omega))only[go_sem,seval,Rc.val,b5]
  refine OpX.gen fun w5 hw5=>?_
  have hc5:Chg [] w4 w5:=by rw[hw5];(repeat (first|exact Chg.refl _ _|apply Chg.drew|apply Chg.alloc|(refine Chg.set ?_ _ _ (by first|(left;simp;done)|(right;omega)))))
  clear hw5
  refine OpX.call GG rfl (Calls.ret (Fx w5 S ac) ?_)
  rintro v w6 ⟨rfl,hc6⟩
  have hc46:=hc5.trans0 hc6
  have c8:=hc46.keep b8 (by simp)
  refine Join1.cut (fun v w'=>v=.bool (decide (S.len ac<3∨16≤L.root.ids.length))∧w'=w6) ?_ ?_
  ·simp -dsimp (disch:=first|omega|(simp only[go_sem,seval];try omega))only[go_sem,seval]
   refine BrW.dec (fun g=>⟨congrArg Value.bool (decide_eq_true (.inl g)).symm,rfl⟩) (fun g=>?_)
   simp -dsimp (disch:=first|omega|(simp only[go_sem,seval];try omega))only[go_sem,seval,c8]
   rw[hpl]
   exact congrArg Value.bool (decide_eq_decide.2 ⟨fun h=>.inr (by omega),fun h=>by omega⟩)
  rintro v w7 ⟨rfl,rfl⟩
  refine BrW.dec (fun g=>?_) (fun g=>?_)
  ·exact hK _ _ (by rw[hRr];exact .inl ⟨by omega,hc4.trans0 hc46⟩)
  ·have c3:=hc46.keep b3 (by simp)
   have c4:=hc46.keep b4 (by simp)
   have c5:=hc46.keep b5 (by simp)
   have c9:=hc46.keep b9 (by simp)
   have cb:=hc46.keep hb4 (by simp)
   have cnb:=hc46.keep hnb4 (by simp)
   have m3:=Aa c3
   have m4:=Aa c4
   have m5:=Aa c5
   have m9:=Aa c9
   have mb:=Aa cb
   have mnb:=Aa cnb
   have hz36:=(hc4.trans0 hc46).size
   have e2:(S.len ac).tdiv 2=S.len ac / 2:=Int.tdiv_eq_ediv_of_nonneg (by omega)
   simp -dsimp (disch:=first|omega|(simp only[go_sem,seval];try omega))only[go_sem,seval,c3,c4,c5,c9,cb,cnb,e2]
   refine Wo fun w8 hw8=>?_
   have hc8:Chg [w2.heap.size+1,nb] w7 w8:=by rw[hw8];(repeat (first|exact Chg.refl _ _|apply Chg.drew|apply Chg.alloc|(refine Chg.set ?_ _ _ (by first|(left;simp;done)|(right;omega)))))
   have d9:w8.heap[w2.heap.size+1]?=some (.cells #[.int .i64 (L.newest+1)] 3):=by rw[hw8];simp -dsimp (disch:=first|omega|(simp only[go_sem,seval];try omega))only[go_sem,seval]
   have dn:w8.heap[nb]?=some (.cells #[.int .i64 0,.bool ac,.int .i64 (S.len ac / 2),.int .i64 (S.len ac-1),.pointer (some ⟨w7.heap.size,0,none⟩),.pointer (some ⟨w7.heap.size+1,0,none⟩)] 152):=by rw[hw8];simp -dsimp (disch:=first|omega|(simp only[go_sem,seval];try omega))only[go_sem,seval]
   have d1:w8.heap[w7.heap.size]?=some (.cells #[.int .i64 id,.bool false,.int .i64 0,.int .i64 0,.pointer none,.pointer none] 152):=by rw[hw8];simp -dsimp (disch:=first|omega|(simp only[go_sem,seval];try omega))only[go_sem,seval]
   have d2:w8.heap[w7.heap.size+1]?=some (.cells #[.int .i64 (L.newest+1),.bool false,.int .i64 0,.int .i64 0,.pointer none,.pointer none] 152):=by rw[hw8];simp -dsimp (disch:=first|omega|(simp only[go_sem,seval];try omega))only[go_sem,seval]
   refine hK _ _ ?_
   rw[hRr]
   exact .inr ⟨by omega,w7.heap.size,w7.heap.size+1,hz36,by omega,((hc4.trans0 hc46).mono (by simp)).trans hc8 (fun x hx=>.inl hx),d9,dn,d1,d2⟩
 refine OpX.call XY rfl (Calls.ret (Yt h3 ok hw Rr hclo) ?_)
 rintro v w4 ⟨rfl,hR⟩
 rw[hRr] at hR
 have l8:=Aa a8
 rcases hR with ⟨href,hc4⟩|⟨⟨g1,g2⟩,n1,n2,m1,m2,hc4,d9,hT⟩
 ·have b3:=(hc3.trans0 hc4).keep a32 (by simp)
  have b8:=hc4.keep a8 (by simp)
  have b9:=hc4.keep a9 (by simp)
  simp -dsimp (disch:=first|omega|(simp only[go_sem,seval];try omega))only[go_sem,seval,b8]
  rw[hpl]
  refine BrW.dec (fun g=>?_) (fun g=>?_)
  ·refine OpX.call BX rfl (Calls.ret (BV w4 15) ?_)
   rintro v w5 ⟨rfl,rfl⟩
   exact hK _ _ ⟨nb,S,hall,.inl ⟨href,by rw[if_pos (show 16≤L.root.ids.length by omega)];rfl,hc03.trans0 hc4⟩⟩
  ·simp -dsimp (disch:=first|omega|(simp only[go_sem,seval];try omega))only[go_sem,seval,b9]
   refine OpX.call BX rfl (Calls.ret (BV w4 19) ?_)
   rintro v w5 ⟨rfl,rfl⟩
   exact hK _ _ ⟨nb,S,hall,.inl ⟨href,by rw[if_neg (show ¬16≤L.root.ids.length by omega)];rfl,hc03.trans0 hc4⟩⟩
 ·have hz03:=hc03.size
  have hne3:w.heap.size≠nb:=by omega
  have b3:w4.heap[w.heap.size]?=_:=hc4.keep ((hc3).keep a32 (by simp)) (by simp;omega)
  have b8:=hc4.keep a8 (by simp;omega)
  have hb4:=hc4.keep h3.hb (by simp;refine⟨by omega,fun e=>hbnb (e ▸ hnbm)⟩)
  have lb4:=Aa hb4
  have hn9:¬(L.newest+1=0):=by omega
  simp -dsimp (disch:=first|omega|(simp only[go_sem,seval];try omega))only[go_sem,seval,b8]
  rw[hpl]
  refine BrW.dec (fun g=>absurd g (by omega)) (fun _=>?_)
  simp -dsimp (disch:=first|omega|(simp only[go_sem,seval];try omega))only[go_sem,seval,b3,d9,hb4,hn9]
  refine hK _ _ ⟨nb,S,hall,.inr ⟨g1,g2,rfl,n1,n2,by omega,by omega,by omega,?_,?_⟩⟩
  ·have hcs:Chg [b] w4 (Ab w4 b (.cells #[.pointer (some ⟨L.root.blk,0,none⟩),.int .i64 L.R.x,.int .i64 L.R.y,.int .i64 L.R.w,.int .i64 L.R.h,.int .i64 (L.newest+1)] 149)):=(Chg.refl _ _).set _ _ (by simp)
   have hnn:(Mt.split nb ac (S.len ac / 2) (S.len ac-1) (.pane n1 id) (.pane n2 (L.newest+1))).blk=nb:=rfl
   have hT2:Ap w4 (L.root.put nb (.split nb ac (S.len ac / 2) (S.len ac-1) (.pane n1 id) (.pane n2 (L.newest+1)))):=Ap.put hc4 hnn hT h3.tree fun x hx hm=>by
    simp at hm
    rcases hm with rfl|rfl
    ·have:=h.tree.lt _ hx;omega
    ·rfl
   have hmem:∀x∈(L.root.put nb (.split nb ac (S.len ac / 2) (S.len ac-1) (.pane n1 id) (.pane n2 (L.newest+1)))).blks,x∈L.root.blks∨w.heap.size≤x:=by
    intro x hx
    rcases Mt.put_mem hx with hx|hx
    ·simp only[Mt.blks,List.mem_cons,List.mem_append,List.not_mem_nil,or_false] at hx
     rcases hx with rfl|rfl|rfl
     ·exact .inl hnbm
     ·exact .inr (by omega)
     ·exact .inr (by omega)
    ·exact .inl hx
   refine⟨?_,Ap.chg hcs hT2 fun x hx hm=>?_,?_⟩
   ·unfold BW
    dsimp only
    rw[Mt.put_blk hnn]
    exact Au _ _ _ _ rfl lb4
   ·simp at hm;subst hm
    rcases hmem _ hx with h9|h9
    ·exact hbnb h9
    ·omega
   ·have:=(Mt.put_all (new:=.split nb ac (S.len ac / 2) (S.len ac-1) (.pane n1 id) (.pane n2 (L.newest+1))) h.nd hall).2.2.2.2.2
    refine this ?_ ?_
    ·simp [Mt.blks];omega
    ·intro x hx
     simp only[Mt.blks,List.mem_cons,List.mem_append,List.not_mem_nil,or_false] at hx ⊢
     rcases hx with rfl|rfl|rfl
     ·exact .inl rfl
     ·exact .inr fun hm=>by have:=h.tree.lt _ hm;omega
     ·exact .inr fun hm=>by have:=h.tree.lt _ hm;omega
  ·refine((hc03.mono (by simp)).trans hc4 (fun x hx=>?_)).set _ _ (.inl (by simp))
   simp at hx
   rcases hx with rfl|rfl
   ·exact .inr (by omega)
   ·exact .inl (by simp)
end
end Go.Proofs.YtelplojmbjnplaaGreatDoor
namespace Lyc
open Go
namespace Mt
def reblk (b:Nat):Mt→Mt
 | pane _ id=>pane b id
 | split _ ac p q l r=>split b ac p q l r
theorem reblk_blk (b:Nat) (t:Mt):(t.reblk b).blk=b:=by cases t<;>rfl
theorem reblk_ids (b:Nat) (t:Mt):(t.reblk b).ids=t.ids:=by cases t<;>rfl
theorem reblk_ok {b:Nat} {t:Mt} (h:t.ok):(t.reblk b).ok:=by cases t<;>exact h
theorem reblk_fits (b:Nat) (t:Mt) (R:Rc):(t.reblk b).fits R=t.fits R:=by cases t<;>rfl
theorem reblk_blks (b:Nat) (t:Mt):∃l,t.blks=t.blk::l∧(t.reblk b).blks=b::l:=by cases t<;>exact⟨_,rfl,rfl⟩
theorem sub_nodup:∀{t:Mt} {R:Rc},t.blks.Nodup→∀x∈t.all R,x.1.blks.Nodup
 | pane _ _,_,h,x,hx=>by simp [all] at hx;subst hx;exact h
 | split b ac p q l r,R,h,x,hx=>by
  have h0:=h
  simp only[blks,List.nodup_cons,List.nodup_append] at h
  simp only[all,List.mem_append,List.mem_cons] at hx
  rcases hx with hx|rfl|hx
  ·exact sub_nodup h.2.1 x hx
  ·exact h0
  ·exact sub_nodup h.2.2.1 x hx
end Mt
theorem Y8 {R:Rc} {ac:Bool} {a:Int} (a0:1≤a) (a1:a≤R.len ac-2):(AS R ac a).w≤R.w∧(AS R ac a).h≤R.h∧(AO R ac a).w≤R.w∧(AO R ac a).h≤R.h:=by
 cases ac<;>simp only[Rc.len,AS,AO,if_true,Bool.false_eq_true,if_false] at*<;> omega
end Lyc
namespace Go.Proofs.YtelplojmbjnplaaGreatDoor
open Lyc Go
section
variable {w w':World} {b:Nat} {L:Ly}
theorem Ap.reblk {w w':World} {sb:Nat} {t:Mt} (h:Ap w t) {F:List Nat} (hc:Chg F w w') (hs:∀x,x∈t.blks→x≠t.blk→x∉F) (hb:∀c fr,w.heap[t.blk]?=some (.cells c 152 fr)→w'.heap[sb]?=some (.cells c 152 fr)) (hn:t.blks.Nodup):Ap w' (t.reblk sb):=by
 cases t with
 | pane c id=>exact hb _ _ h
 | split c ac p q l r =>
  obtain⟨h0,h1,h2⟩:=h
  simp only[Mt.blks,List.nodup_cons,List.mem_append,not_or] at hn
  refine⟨hb _ _ h0,Ap.chg hc h1 fun x hx=>hs x (by simp [Mt.blks,hx]) ?_,Ap.chg hc h2 fun x hx=>hs x (by simp [Mt.blks,hx]) ?_⟩
  ·rintro rfl;exact hn.1.1 hx
  ·rintro rfl;exact hn.1.2 hx
structure Di (L:Ly) (id:Int) (L':Ly):Prop where
 ok:L'.ok
 R:L'.R=L.R
 new:L'.newest=L.newest
 ids:∃A B,L.root.ids=A++id::B∧L'.root.ids=A++B
 blks:∀x∈L'.root.blks,x∈L.root.blks
theorem Wv {id:Int} {t:Mt} {R:Rc} (hi:id∈t.ids) (h2:2≤t.ids.length):∃V sb ac p q l r U c S,t.way id R=V++[(Mt.split sb ac p q l r,U),(Mt.pane c id,S)]∧(Mt.split sb ac p q l r,U)∈t.all R∧(l=.pane c id∨r=.pane c id):=by
 have hn:t.way id R≠[]:=fun h=>Mt.way_nil.1 h hi
 obtain⟨W,c,S,e,-,h0,h3⟩:=Mt.way_end hn
 rcases List.eq_nil_or_concat W with rfl|⟨V,x,rfl⟩
 ·obtain⟨rfl,-⟩:=h0 rfl
  simp [Mt.ids] at h2
 ·obtain⟨sb,ac,p,q,l,r,ex,hlr⟩:=h3 V x (by simp)
  obtain⟨m,U⟩:=x
  dsimp only at ex
  subst ex
  exact⟨V,sb,ac,p,q,l,r,U,c,S,by rw[e];simp,Mt.way_all _ (by rw[e];simp),hlr⟩
theorem Vs (h:LAt w b L) (ok:L.ok) {id:Int} (hid:id∈L.root.ids) (h2:2≤L.root.ids.length):Calls Tryz.prog 175 #[.pointer (some ⟨b,0,none⟩),.int .i64 id] w
  (Ac fun v w'=>v=.nilIface∧∃L' sb,LAt w' b L'∧Di L id L'∧sb∈L.root.blks∧Chg [sb] w w'):=by
 obtain⟨V,sb,ac,p,q,l,r,U,c,S,hw,hall,hlr⟩:=Wv (R:=L.R) hid h2
 have hwl:=Mt.way_len (id:=id) (t:=L.root) (R:=L.R)
 have hfew:=ok.few
 have hb:=h.hb
 have hbnb:b∉L.root.blks:=fun hm=>by
  obtain⟨c,fr,e⟩:=h.tree.tag b hm
  rw[hb] at e;simp at e
 have hsn:=Mt.sub_nodup h.nd _ hall
 have hsT:=Ap.sub h.tree _ hall
 have hsub:=Mt.all_blk _ hall
 obtain⟨Uok,-,Uf⟩:=Mt.all_ok ok.fits ok.R _ hall
 obtain⟨U3,Ul,Ur⟩:=Mt.fits_split Uf
 obtain⟨s0,s1⟩:=DE (p:=p) (q:=q) U3
 obtain⟨c1,c2,c3,c4⟩:=Y8 s0 s1
 dsimp only at hsn hsT hsub Uok
 obtain⟨t0,t1,t2⟩:=hsT
 have hsok:=(Mt.put_all (new:=.pane 0 0) h.nd hall).2.2.2.1 ok.ok
 obtain⟨k1,k2,k3,k4,k5,k6⟩:=hsok
 have hsn0:=hsn
 simp only[Mt.blks,List.nodup_cons,List.mem_append,not_or,List.nodup_append] at hsn
 obtain⟨⟨b1,b2⟩,n1,n2,n3⟩:=hsn
 obtain⟨o,ho⟩:∃o:Mt,o=if l.blk=c then r else l:=⟨_,rfl⟩
 have hoo:(o=r∧l=.pane c id)∨(o=l∧r=.pane c id):=by
  rcases hlr with e|e
  ·left;rw[ho,e];simp [Mt.blk]
  ·right
   refine⟨?_,e⟩
   rw[ho,if_neg]
   intro hc
   exact n3 l.blk (Mt.blk_mem l) c (by rw[e];simp [Mt.blks]) hc
 have hoT:Ap w o:=by rcases hoo with ⟨e,-⟩|⟨e,-⟩<;>rw[e]<;>assumption
 have hon:o.blks.Nodup:=by rcases hoo with ⟨e,-⟩|⟨e,-⟩<;>rw[e]<;>assumption
 have hosb:sb∉o.blks:=by rcases hoo with ⟨e,-⟩|⟨e,-⟩<;>rw[e]<;>assumption
 have hosub:∀x∈o.blks,x∈(Mt.split sb ac p q l r).blks:=by
  intro x hx
  rcases hoo with ⟨e,-⟩|⟨e,-⟩<;>rw[e] at hx<;>simp [Mt.blks,hx]
 have hook:o.ok:=by rcases hoo with ⟨e,-⟩|⟨e,-⟩<;>rw[e]<;>assumption
 have hofit:o.fits U=true:=by
  rcases hoo with ⟨e,-⟩|⟨e,-⟩<;>rw[e]
  ·exact Mt.fits_mono k6 Ur c3 c4
  ·exact Mt.fits_mono k5 Ul c1 c2
 have hoids:∃A B,(Mt.split sb ac p q l r).ids=A++id::B∧o.ids=A++B:=by
  rcases hoo with ⟨e,e2⟩|⟨e,e2⟩
  ·exact⟨[],r.ids,by rw[e2];rfl,by rw[e];rfl⟩
  ·exact⟨l.ids,[],by rw[e2];rfl,by rw[e];simp⟩
 obtain⟨-,⟨A,B,i1,i2⟩,i3,-,i5,i6⟩:=Mt.put_all (new:=o.reblk sb) h.nd hall
 have hclosed:Di L id ⟨L.root.put sb (o.reblk sb),L.R,L.newest⟩:=by
  obtain⟨A',B',j1,j2⟩:=hoids
  have e1:L.root.ids=(A++A')++id::(B'++B):=by rw[i1,j1];simp
  have e2:(L.root.put sb (o.reblk sb)).ids=(A++A')++(B'++B):=by
   have:(L.root.put sb (o.reblk sb)).ids=A++(o.reblk sb).ids++B:=i2
   rw[this,Mt.reblk_ids,j2];simp
  have hsl:List.Sublist ((A++A')++(B'++B)) L.root.ids:=by rw[e1];exact List.Sublist.append (List.Sublist.refl _) (List.sublist_cons_self _ _)
  refine⟨⟨i5 ok.ok (Mt.reblk_ok hook),ok.R,i3 ok.fits (by rw[Mt.reblk_fits];exact hofit),?_,?_,?_⟩,rfl,rfl,⟨_,_,e1,e2⟩,fun x hx=>?_⟩
  ·show(L.root.put sb (o.reblk sb)).ids.Nodup
   rw[e2];exact ok.nd.sublist hsl
  ·intro i hi
   have hi:i∈(L.root.put sb (o.reblk sb)).ids:=hi
   rw[e2] at hi
   exact ok.new i (hsl.subset hi)
  ·show(L.root.put sb (o.reblk sb)).ids.length≤16
   rw[e2];exact Nat.le_trans hsl.length_le ok.few
  ·rcases Mt.put_mem hx with hx|hx
   ·obtain⟨m,e3,e4⟩:=Mt.reblk_blks sb o
    rw[e4] at hx
    rcases List.mem_cons.1 hx with rfl|hx
    ·exact hsub _ (by simp [Mt.blks])
    ·exact hsub _ (hosub x (by rw[e3];simp [hx]))
   ·exact hx
 apply RX
 intro K hK
 unfold MV
 refine OpX.call E4 rfl (Calls.ret (EF h) ?_)
 rintro v w1 ⟨rfl,rfl⟩
 simp -dsimp (disch:=first|omega|(simp only[go_sem,seval];try omega))only[go_sem,seval,hb]
 refine OpX.call Fe rfl (Calls.ret (HY id (h.tree.chg0 (Chg.refl _ _).drew) ok.ok ok.R ok.fits (by omega)) ?_)
 rintro v w2 ⟨hox,-,hc2⟩
 have hc2:Chg [] w1 w2:=hc2.low_drew
 obtain⟨a,cap,rfl,-,hs,-,-⟩:=hox.form
 have hlen:(L.root.way id L.R).length=V.length+2:=by rw[hw];simp
 obtain⟨b',oo,rfl,hbl,hcell⟩:=hs.get Dk (i:=V.length) (x:=(Mt.split sb ac p q l r,U)) (by rw[hw];simp)
 obtain⟨b'',o2,e9,-,hcell2⟩:=hs.get Dk (i:=V.length+1) (x:=(Mt.pane c id,S)) (by rw[hw];simp)
 simp only[Option.some.injEq,Addr.mk.injEq,and_true] at e9
 obtain⟨rfl,rfl⟩:=e9
 have hc1:=Cc hcell 0 (by omega)
 have hc3:=Cc hcell2 0 (by omega)
 rw[Nat.add_zero] at hc1 hc3
 have q1:(Cd (Mt.split sb ac p q l r,U)).toArray[0]?=some (.pointer (some ⟨sb,0,none⟩)):=rfl
 have q3:(Cd (Mt.pane c id,S)).toArray[0]?=some (.pointer (some ⟨c,0,none⟩)):=rfl
 rw[q1] at hc1
 rw[q3] at hc3
 rw[hlen]
 have e0:¬((V.length+2:Nat):Int)=0:=by omega
 have e1:¬((V.length+2:Nat):Int)=1:=by omega
 have e2:((V.length+2:Nat):Int)-2=(V.length:Int):=by omega
 have e3:((V.length+2:Nat):Int)-1=((V.length+1:Nat):Int):=by omega
 have t02:=hc2.keep t0 (by simp)
 simp -dsimp (disch:=first|omega|(simp only[go_sem,seval];try omega))only[go_sem,seval,e0,e1,e2,e3,hc1,t02]
 have hcell:∃cs,w2.heap[l.blk]?=some (.cells cs 152):=by
  cases l with
  | pane lb li=>exact⟨_,hc2.keep t1 (by simp)⟩
  | split lb lac lp lq ll lr=>exact⟨_,hc2.keep t1.1 (by simp)⟩
 have hcc:∃cs,w2.heap[c]?=some (.cells cs 152):=by
  rcases hlr with e|e
  ·rw[e] at t1;exact⟨_,hc2.keep t1 (by simp)⟩
  ·rw[e] at t2;exact⟨_,hc2.keep t2 (by simp)⟩
 obtain⟨csl,hcl⟩:=hcell
 obtain⟨csc,hcc⟩:=hcc
 refine Join1.cut (fun v w'=>v=.pointer (some ⟨o.blk,0,none⟩)∧w'=w2) ?_ ?_
 ·simp -dsimp (disch:=first|omega|(simp only[go_sem,seval];try omega))only[go_sem,seval,e3,hc3]
  rw[P1 (te:=152) (n:=6) (by simp only[go_sem]) (by simp only[go_sem]) (by simp only[go_sem]) (by decide) hcl hcc]
  refine BrW.dec (fun g=>?_) (fun g=>?_)
  ·rw[ho,if_pos g]
   simp -dsimp (disch:=first|omega|(simp only[go_sem,seval];try omega))only[go_sem,seval,t02]
  ·rw[ho,if_neg g]
   exact⟨rfl,rfl⟩
 rintro v w3 ⟨rfl,rfl⟩
 have hoc:∃x0 x1 x2 x3 x4 x5,w3.heap[o.blk]?=some (.cells #[x0,x1,x2,x3,x4,x5] 152)∧AP [x0,x1,x2,x3,x4,x5]=true:=by
  have:=hoT.chg0 hc2
  cases o with
  | pane lb li=>exact⟨_,_,_,_,_,_,this,rfl⟩
  | split lb lac lp lq ll lr=>exact⟨_,_,_,_,_,_,this.1,rfl⟩
 obtain⟨x0,x1,x2,x3,x4,x5,hoc,hok⟩:=hoc
 have lsb:=Aa t02
 simp -dsimp (disch:=first|omega|(simp only[go_sem,seval];try omega))only[go_sem,seval,hoc,t02]
 rw[DZ 152 0 sb 0 (.agg #[x0,x1,x2,x3,x4,x5]) (fun _=>K .nilIface) w3 (by simp only[go_sem]) hok]
 simp -dsimp (disch:=first|omega|(simp only[go_sem,seval];try omega))only[go_sem,seval,t02]
 have hcs:Chg [sb] w3 (Ab w3 sb (.cells #[x0,x1,x2,x3,x4,x5] 152)):=(Chg.refl _ _).set _ _ (by simp)
 have hc0s:Chg [sb] w1 (Ab w3 sb (.cells #[x0,x1,x2,x3,x4,x5] 152)):=(hc2.mono (by simp)).trans hcs (by simp)
 have hsbm:sb∈L.root.blks:=hsub sb (by simp [Mt.blks])
 have hoT':Ap (Ab w3 sb (.cells #[x0,x1,x2,x3,x4,x5] 152)) (o.reblk sb):=by
  refine Ap.reblk (hoT.chg0 hc2) hcs (fun x hx _ hm=>?_) (fun cs fr e=>?_) hon
  ·simp at hm;subst hm;exact hosb hx
  ·rw[hoc] at e
   simp only[Option.some.injEq,Obj.cells.injEq] at e
   rw[←e.1,←e.2.2]
   exact Au _ _ _ _ rfl lsb
 refine hK _ _ ⟨rfl,_,sb,⟨?_,Ap.put hc0s (Mt.reblk_blk sb o) hoT' h.tree (fun x hx hm=>by simpa using hm),?_⟩,hclosed,hsbm,hc0s⟩
 ·dsimp only
  rw[Mt.put_blk (Mt.reblk_blk sb o)]
  exact hc0s.keep hb (by simp;rintro rfl;exact hbnb hsbm)
 ·obtain⟨m,e3,e4⟩:=Mt.reblk_blks sb o
  refine i6 ?_ ?_
  ·rw[e4,List.nodup_cons]
   rw[e3,List.nodup_cons] at hon
   exact⟨fun hm=>hosb (by rw[e3];simp [hm]),hon.2⟩
  ·intro x hx
   rw[e4] at hx
   rcases List.mem_cons.1 hx with rfl|hx
   ·exact .inl (by simp [Mt.blks])
   ·exact .inl (hosub x (by rw[e3];simp [hx]))
end
end Go.Proofs.YtelplojmbjnplaaGreatDoor
namespace Lyc
open Go
theorem Mt.put_same:∀{t:Mt} {R:Rc},t.blks.Nodup→∀{s:Mt} {S:Rc},(s,S)∈t.all R→t.put s.blk s=t
 | .pane b id,R,hn,s,S,h=>by
  simp only[Mt.all,List.mem_singleton,Prod.mk.injEq] at h
  obtain⟨rfl,-⟩:=h
  exact Mt.put_self rfl
 | .split b ac p q l r,R,hn,s,S,h=>by
  simp only[Mt.blks,List.nodup_cons,List.mem_append,not_or,List.nodup_append] at hn
  obtain⟨⟨b1,b2⟩,n1,n2,n3⟩:=hn
  simp only[Mt.all,List.mem_append,List.mem_cons,Prod.mk.injEq] at h
  rcases h with h|⟨rfl,-⟩|h
  ·have hm:=Mt.all_blk _ h _ (Mt.blk_mem s)
   unfold Mt.put
   have hne:b≠s.blk:=fun e=>b1 (e ▸ hm)
   rw[if_neg hne,Mt.put_same n1 h,Mt.put_none (fun hm'=>n3 _ hm _ hm' rfl)]
  ·exact Mt.put_self rfl
  ·have hm:=Mt.all_blk _ h _ (Mt.blk_mem s)
   unfold Mt.put
   have hne:b≠s.blk:=fun e=>b2 (e ▸ hm)
   rw[if_neg hne,Mt.put_same n2 h,Mt.put_none (fun hm'=>n3 _ hm' _ hm rfl)]
end Lyc
namespace Go.Proofs.YtelplojmbjnplaaGreatDoor
open Lyc Go
section
variable {w w':World} {b:Nat} {L:Ly}
structure Moved (L L':Ly):Prop where
 ok:L'.ok
 R:L'.R=L.R
 new:L'.newest=L.newest
 ids:L'.root.ids=L.root.ids
 blks:∀x∈L'.root.blks,x∈L.root.blks
theorem Moved.refl (ok:L.ok):Moved L L:=⟨ok,rfl,rfl,rfl,fun _ h=>h⟩
theorem V3 (h:LAt w b L) (ok:L.ok) {id:Int} (hid:id∈L.root.ids) (ac:Bool) (d:Int) (d0:-200≤d) (d1:d≤200):Calls Tryz.prog 134 #[.pointer (some ⟨b,0,none⟩),.int .i64 id,.bool ac,.int .i64 d] w
  (Ac fun v w'=>∃L',LAt w' b L'∧Moved L L'∧(∃F,Chg F w w'∧∀x∈F,x∈L.root.blks)∧(v=.nilIface∨(L'=L∧∃c,c≠0∧v=Ax c))):=by
 have hn:L.root.way id L.R≠[]:=fun h=>Mt.way_nil.1 h hid
 obtain⟨Wy,c,S,hw,hspl,-,-⟩:=Mt.way_end hn
 have hwl:=Mt.way_len (id:=id) (t:=L.root) (R:=L.R)
 have hfew:=ok.few
 have hb:=h.hb
 have hbnb:b∉L.root.blks:=fun hm=>by
  obtain⟨c,fr,e⟩:=h.tree.tag b hm
  rw[hb] at e;simp at e
 have hlen:(L.root.way id L.R).length=Wy.length+1:=by rw[hw];simp
 apply ZN
 intro K hK
 unfold Kh
 refine OpX.call E4 rfl (Calls.ret (EF h) ?_)
 rintro v w1 ⟨rfl,rfl⟩
 simp -dsimp (disch:=first|omega|(simp only[go_sem,seval];try omega))only[go_sem,seval,hb]
 refine OpX.call Fe rfl (Calls.ret (HY id (h.tree.chg0 (Chg.refl _ _).drew) ok.ok ok.R ok.fits (by omega)) ?_)
 rintro v w2 ⟨hox,-,hc2⟩
 have hc2:Chg [] w1 w2:=hc2.low_drew
 obtain⟨a,cap,rfl,-,hs,-,-⟩:=hox.form
 rw[hlen]
 have h2:=h.chg0 hc2
 have e0:¬((Wy.length+1:Nat):Int)=0:=by omega
 simp -dsimp (disch:=first|omega|(simp only[go_sem,seval];try omega))only[go_sem,seval,e0]
 refine Loop1.st (fun i:Int=>.int .i64 i) (fun i w'=>w'=w2∧-1≤i∧i+1≤Wy.length) (fun i=>(i+1).toNat) (((Wy.length+1:Nat):Int)-2) rfl ⟨rfl,by omega,by omega⟩ ?_
 rintro next i w3 hnx ⟨rfl,hi0,hi1⟩
 simp -dsimp (disch:=first|omega|(simp only[go_sem,seval];try omega))only[go_sem,seval]
 refine BrW.dec (fun g=>?_) (fun g=>?_)
 ·obtain⟨k,rfl⟩:=Int.eq_ofNat_of_zero_le g
  have hk:k<Wy.length:=by omega
  have hwk:(L.root.way id L.R)[k]?=some Wy[k]:=by rw[hw,List.getElem?_append_left hk,List.getElem?_eq_getElem hk]
  obtain⟨sb,mac,p,q,l,r,ex⟩:=hspl _ (List.getElem_mem hk)
  have hall:=Mt.way_all _ (List.mem_of_getElem? hwk)
  generalize Wy[k]=x at *
  obtain⟨m,U⟩:=x
  dsimp only at ex
  subst ex
  obtain⟨Uok,-,Uf⟩:=Mt.all_ok ok.fits ok.R _ hall
  obtain⟨U3,Ul,Ur⟩:=Mt.fits_split Uf
  have hsn:=Mt.sub_nodup h.nd _ hall
  have hsub:=Mt.all_blk _ hall
  dsimp only at Uok U3 Ul Ur hsn hsub
  obtain⟨t0,t1,t2⟩:=Ap.sub h2.tree _ hall
  obtain⟨k1,k2,k3,k4,k5,k6⟩:=(Mt.put_all (new:=.pane 0 0) h.nd hall).2.2.2.1 ok.ok
  have hUl:U.len mac≤200:=by
   have:=Uok.x0;have:=Uok.y0;have:=Uok.xw;have:=Uok.yh
   cases mac<;>simp only[Rc.len,if_true,Bool.false_eq_true,if_false]<;>omega
  obtain⟨b',oo,rfl,hbl,hcell⟩:=hs.get Dk hwk
  have hc1:=Cc hcell 0 (by omega)
  rw[Nat.add_zero] at hc1
  have q1:(Cd (Mt.split sb mac p q l r,U)).toArray[0]?=some (.pointer (some ⟨sb,0,none⟩)):=rfl
  rw[q1] at hc1
  have hcr:AU w3.heap[b']? (oo+k*5+1) 4=some #[.int .i64 U.x,.int .i64 U.y,.int .i64 U.w,.int .i64 U.h]:=by
   refine Dx (l:=[.int .i64 U.x,.int .i64 U.y,.int .i64 U.w,.int .i64 U.h]) rfl (by omega) fun j hj=>?_
   have:=Cc hcell (1+j) (by omega)
   rw[←Nat.add_assoc] at this
   rw[this]
   match j,hj with
   | 0,_=>rfl
   | 1,_=>rfl
   | 2,_=>rfl
   | 3,_=>rfl
  have lsb:=Aa t0
  simp -dsimp (disch:=first|omega|(simp only[go_sem,seval];try omega))only[go_sem,seval,hc1,t0]
  by_cases hac:mac=ac
  ·subst hac
   obtain⟨s0,s1⟩:=DE (p:=p) (q:=q) U3
   simp -dsimp (disch:=first|omega|(simp only[go_sem,seval];try omega))only[go_sem,seval,hcr]
   refine OpX.call GG rfl (Calls.ret (Fx w3 U mac) ?_)
   rintro v w4 ⟨rfl,hc4⟩
   have t04:=hc4.keep t0 (by simp)
   simp -dsimp (disch:=first|omega|(simp only[go_sem,seval];try omega))only[go_sem,seval]
   refine OpX.call JP rfl (Calls.ret (NQ t04 k1 k2 k3 k4 (by omega) (by omega)) ?_)
   rintro v w5 ⟨rfl,hc5⟩
   have hc35:=hc4.trans0 hc5
   have hc05:=hc2.trans0 hc35
   have t05:=hc35.keep t0 (by simp)
   have hb5:=hc05.keep hb (by simp)
   have lb5:=Aa hb5
   have lsb5:=Aa t05
   have hbsb:b≠sb:=fun e=>hbnb (hsub b (by simp [Mt.blks,e]))
   have e5:min (max d (-200)) 200=d:=by omega
   generalize Ay (U.len mac) p q=aa at *
   simp -dsimp (disch:=first|omega|(simp only[go_sem,seval];try omega))only[go_sem,seval,e5,t05,hb5]
   refine OpX.gen fun w6 hw6=>?_
   have hc6:Chg [sb] w5 w6:=by rw[hw6];(repeat (first|exact Chg.refl _ _|apply Chg.drew|apply Chg.alloc|(refine Chg.set ?_ _ _ (by first|(left;simp;done)|(right;omega)))))
   have t06:w6.heap[sb]?=some (.cells #[.int .i64 0,.bool mac,.int .i64 (min (max (aa+d) 1) (U.len mac-2)),.int .i64 (U.len mac-1),.pointer (some ⟨l.blk,0,none⟩),.pointer (some ⟨r.blk,0,none⟩)] 152):=by rw[hw6];simp -dsimp (disch:=first|omega|(simp only[go_sem,seval];try omega))only[go_sem,seval]
   clear hw6
   obtain⟨p',hp'⟩:∃p',p'=min (max (aa+d) 1) (U.len mac-2):=⟨_,rfl⟩
   rw[←hp'] at t06
   have hsbm:sb∈L.root.blks:=hsub sb (by simp [Mt.blks])
   simp only[Mt.blks,List.nodup_cons,List.mem_append,not_or] at hsn
   have hnewT:Ap w6 (.split sb mac p' (U.len mac-1) l r):=⟨t06,Ap.chg hc6 (t1.chg0 hc35) (fun x hx hm=>by simp at hm;subst hm;exact hsn.1.1 hx),Ap.chg hc6 (t2.chg0 hc35) (fun x hx hm=>by simp at hm;subst hm;exact hsn.1.2 hx)⟩
   have hc06:Chg [sb] w1 w6:=(hc05.mono (by simp)).trans hc6 (by simp)
   have hTr:Ap w6 (L.root.put sb (.split sb mac p' (U.len mac-1) l r)):=Ap.put hc06 (show(Mt.split sb mac p' (U.len mac-1) l r).blk=sb from rfl) hnewT h.tree (fun x hx hm=>by simpa using hm)
   obtain⟨-,⟨A,B,i1,i2⟩,-,-,i5,i6⟩:=Mt.put_all (new:=.split sb mac p' (U.len mac-1) l r) h.nd hall
   have hok':(L.root.put sb (.split sb mac p' (U.len mac-1) l r)).ok:=i5 ok.ok ⟨by omega,by omega,by omega,by omega,k5,k6⟩
   have hf:=N8 (R:=L.R) hTr hok' ok.R
   rw[Mt.put_blk (show(Mt.split sb mac p' (U.len mac-1) l r).blk=sb from rfl)] at hf
   refine OpX.call GK rfl (Calls.ret (hf) ?_)
   rintro v w7 ⟨rfl,hc7⟩
   have t07:=hc7.keep t06 (by simp)
   have lsb7:=Aa t07
   have hc07:=hc06.trans0 hc7
   have hids:(L.root.put sb (.split sb mac p' (U.len mac-1) l r)).ids=L.root.ids:=by
    have h1:L.root.ids=A++(l.ids++r.ids)++B:=i1
    have h2:(L.root.put sb (.split sb mac p' (U.len mac-1) l r)).ids=A++(l.ids++r.ids)++B:=i2
    rw[h1,h2]
   have hblks:∀x∈(L.root.put sb (.split sb mac p' (U.len mac-1) l r)).blks,x∈L.root.blks:=fun x hx=>(Mt.put_mem hx).elim (fun hx=>hsub x hx) (fun h=>h)
   have hnd':(L.root.put sb (.split sb mac p' (U.len mac-1) l r)).blks.Nodup:=i6 (by simp only[Mt.blks,List.nodup_cons,List.mem_append,not_or];exact hsn) (fun x hx=>.inl hx)
   cases hfit:(L.root.put sb (.split sb mac p' (U.len mac-1) l r)).fits L.R
   ·simp -dsimp (disch:=first|omega|(simp only[go_sem,seval];try omega))only[go_sem,seval,t07]
    have hcs:Chg [sb] w7 (Ab w7 sb (.cells #[.int .i64 0,.bool mac,.int .i64 p,.int .i64 q,.pointer (some ⟨l.blk,0,none⟩),.pointer (some ⟨r.blk,0,none⟩)] 152)):=(Chg.refl _ _).set _ _ (by simp)
    have ts:(Ab w7 sb (.cells #[.int .i64 0,.bool mac,.int .i64 p,.int .i64 q,.pointer (some ⟨l.blk,0,none⟩),.pointer (some ⟨r.blk,0,none⟩)] 152)).heap[sb]?=some (.cells #[.int .i64 0,.bool mac,.int .i64 p,.int .i64 q,.pointer (some ⟨l.blk,0,none⟩),.pointer (some ⟨r.blk,0,none⟩)] 152):=Au _ _ _ _ rfl lsb7
    generalize Ab w7 _ _=w8 at hcs ts ⊢
    refine OpX.call BX rfl (Calls.ret (BV w8 19) ?_)
    rintro v w9 ⟨rfl,rfl⟩
    have hc08:=hc07.trans hcs (by simp)
    have hst:Ap w9 (.split sb mac p q l r):=by
     have hs7:∀x,x∉[sb]→True:=fun _ _=>trivial
     have hcx:=((hc35.mono (F':=[sb]) (by simp)).trans hc6 (by simp)).trans0 hc7
     have hcy:=hcx.trans hcs (by simp)
     exact⟨ts,Ap.chg hcy t1 (fun x hx hm=>by simp at hm;subst hm;exact hsn.1.1 hx),Ap.chg hcy t2 (fun x hx hm=>by simp at hm;subst hm;exact hsn.1.2 hx)⟩
    have hroot:Ap w9 L.root:=by
     have:=Ap.put hc08 (show(Mt.split sb mac p q l r).blk=sb from rfl) hst h.tree (fun x hx hm=>by simpa using hm)
     have hps:=Mt.put_same h.nd hall
     dsimp only[Mt.blk] at hps
     rwa [hps] at this
    exact hK _ _ ⟨L,⟨hc08.keep hb (by simpa using hbsb),hroot,h.nd⟩,Moved.refl ok,⟨_,hc08,by simpa using hsbm⟩,.inr ⟨rfl,19,by decide,rfl⟩⟩
   ·simp -dsimp (disch:=first|omega|(simp only[go_sem,seval];try omega))only[go_sem,seval]
    refine hK _ _ ⟨⟨L.root.put sb (.split sb mac p' (U.len mac-1) l r),L.R,L.newest⟩,⟨?_,hTr.chg0 hc7,hnd'⟩,⟨⟨hok',ok.R,hfit,by show(L.root.put sb (.split sb mac p' (U.len mac-1) l r)).ids.Nodup;rw[hids];exact ok.nd,by show ∀i∈(L.root.put sb (.split sb mac p' (U.len mac-1) l r)).ids,i≤L.newest;rw[hids];exact ok.new,by show(L.root.put sb (.split sb mac p' (U.len mac-1) l r)).ids.length≤16;rw[hids];exact ok.few⟩,rfl,rfl,hids,hblks⟩,⟨_,hc07,by simpa using hsbm⟩,.inl rfl⟩
    dsimp only
    rw[Mt.put_blk (show(Mt.split sb mac p' (U.len mac-1) l r).blk=sb from rfl)]
    exact hc07.keep hb (by simpa using hbsb)
  ·have hne:(mac == ac)=false:=by cases mac<;>cases ac<;>simp_all
   simp -dsimp (disch:=first|omega|(simp only[go_sem,seval];try omega))only[go_sem,seval,hne]
   have e7:(k:Int)-1=((k:Int)-1):=rfl
   exact hnx ((k:Int)-1) _ ⟨rfl,by omega,by omega⟩ (by omega)
 ·refine OpX.call BX rfl (Calls.ret (BV w3 13) ?_)
  rintro v w4 ⟨rfl,rfl⟩
  exact hK _ _ ⟨L,h2,Moved.refl ok,⟨[],hc2,by simp⟩,.inr ⟨rfl,13,by decide,rfl⟩⟩
end
theorem VZ {L:Ly} (ok:L.ok) {ac:Bool} {nb n1 n2:Nat} {S:Rc} {id:Int} (hnd:L.root.blks.Nodup) (hall:(Mt.pane nb id,S)∈L.root.all L.R) (hlt:L.root.ids.length<16) (h3:3≤S.len ac):(BW L ac nb n1 n2 S id).ok∧∃A B,L.root.ids=A++id::B∧(BW L ac nb n1 n2 S id).root.ids=A++id::(L.newest+1)::B:=by
 obtain⟨Sok,-,-⟩:=Mt.all_ok ok.fits ok.R _ hall
 dsimp only at Sok
 obtain⟨-,⟨A,B,i1,i2⟩,i3,-,i5,-⟩:=Mt.put_all (new:=.split nb ac (S.len ac / 2) (S.len ac-1) (.pane n1 id) (.pane n2 (L.newest+1))) hnd hall
 have hnl:S.len ac≤200:=by
  have:=Sok.x0;have:=Sok.y0;have:=Sok.xw;have:=Sok.yh
  cases ac<;>simp only[Rc.len,if_true,Bool.false_eq_true,if_false]<;>omega
 have e1:L.root.ids=A++id::B:=by rw[i1];simp [Mt.ids]
 have e2:(BW L ac nb n1 n2 S id).root.ids=A++id::(L.newest+1)::B:=by
  have:(BW L ac nb n1 n2 S id).root.ids=A++[id,L.newest+1]++B:=i2
  rw[this];simp
 have hid:1≤id∧id≤L.newest:=⟨Mt.ok_ids ok.ok id (by rw[e1];simp),ok.new id (by rw[e1];simp)⟩
 have hnew:L.newest+1∉L.root.ids:=fun hm=>by have:=ok.new _ hm;omega
 refine⟨⟨i5 ok.ok ⟨by omega,by omega,by omega,by omega,hid.1,by show 1≤L.newest+1;omega⟩,ok.R,i3 ok.fits ?_,?_,?_,?_⟩,A,B,e1,e2⟩
 ·simp only[Mt.fits,Bool.and_eq_true,decide_eq_true_eq]
  exact⟨h3,trivial,trivial⟩
 ·rw[e2]
  have hn:=ok.nd
  rw[e1] at hn hnew
  rw[List.nodup_append] at hn ⊢
  obtain⟨a1,a2,a3⟩:=hn
  rw[List.nodup_cons] at a2
  simp only[List.mem_append,List.mem_cons,not_or] at hnew
  refine⟨a1,?_,?_⟩
  ·rw[List.nodup_cons,List.nodup_cons]
   refine⟨?_,hnew.2.2,a2.2⟩
   simp only[List.mem_cons,not_or]
   exact⟨by omega,a2.1⟩
  ·intro x hx y hy
   simp only[List.mem_cons] at hy
   rcases hy with rfl|rfl|hy
   ·exact a3 x hx _ (by simp)
   ·rintro rfl;exact hnew.1 hx
   ·exact a3 x hx y (by simp [hy])
 ·intro i hi
  rw[e2] at hi
  show i≤L.newest+1
  simp only[List.mem_append,List.mem_cons] at hi
  rcases hi with hi|rfl|rfl|hi
  ·have:=ok.new i (by rw[e1];simp [hi]);omega
  ·omega
  ·omega
  ·have:=ok.new i (by rw[e1];simp [hi]);omega
 ·rw[e2];rw[e1] at hlt;simp at hlt ⊢;omega
section
variable {base:Nat} {w w':World} {W:Wn}
theorem WnAt.laid (h:WnAt base w W) {F:List Nat} (hc:Chg F w w') (hF:∀x∈F,x=W.b∨x=W.lb∨x∈W.L.root.blks) {L:Ly} {act:Int} (hL:LAt w' W.lb L)
  (hb:w'.heap[W.b]?=some (.cells #[.pointer (some ⟨W.lb,0,none⟩),.int .i64 act,.int .i64 W.room,.map (some W.tm)] 94)) (hg:∀x∈L.root.blks,x∈W.L.root.blks∨w.heap.size≤x) (hbase:base≤w.heap.size) :
  WnAt base w' { W with L:=L,active:=act }∧Trn W.own ({ W with L:=L,active:=act }:Wn).own w w':=by
 have hne:=h.ne
 have hgrow:∀x,({ W with L:=L,active:=act }:Wn).own x→W.own x∨w.heap.size≤x:=by
  rintro x (rfl|rfl|rfl|hx|⟨r,hr,hx⟩)
  ·exact .inl (.inl rfl)
  ·exact .inl (.inr (.inl rfl))
  ·exact .inl (.inr (.inr (.inl rfl)))
  ·exact(hg x hx).imp (fun h=>.inr (.inr (.inr (.inl h)))) id
  ·exact .inl (.inr (.inr (.inr (.inr ⟨r,hr,hx⟩))))
 refine⟨⟨hb,hL,hc.keep h.hm fun hm=>?_,fun p hp=>(h.each p hp).chg hc fun x hx hp'=>?_,h.apart,h.ids,fun x hx=>(hgrow x hx).elim (h.lo x) fun h=>by omega⟩,Trn.of hc (fun x hx=>?_) hgrow⟩
 ·rcases hF _ hm with e|e|e
  ·exact hne.2.1 e.symm
  ·exact hne.2.2.1 e.symm
  ·exact hne.2.2.2.2.2 e
 ·have ho:=h.off hp
  rcases hF x hx with rfl|rfl|e
  ·exact ho.1 hp'
  ·exact ho.2.1 hp'
  ·exact ho.2.2.2 x e hp'
 ·rcases hF x hx with rfl|rfl|e
  ·exact .inl rfl
  ·exact .inr (.inl rfl)
  ·exact .inr (.inr (.inr (.inl e)))
theorem I5 (h:WnAt base w W) (id:Int):Calls Tryz.prog 39 #[.pointer (some ⟨W.b,0,none⟩),.int .i64 id] w (Ac fun v w'=>v=((W.pts.find? fun p=>p.ent.1 == id).map fun p=>Value.pointer (some ⟨p.t,0,none⟩)).getD (.pointer none)∧w'=w):=by
 have hb:=h.hb
 have hm:=h.hm
 apply K7
 intro K hK
 unfold Hn
 simp -dsimp (disch:=first|omega|(simp only[go_sem,seval];try omega))only[go_sem,seval,hb,hm,Fj]
 exact hK _ _ ⟨rfl,rfl⟩
theorem RE (w:World) (id:Int):Calls Tryz.prog 39 #[.pointer none,.int .i64 id] w (Ac fun v w'=>v=.pointer none∧w'=w):=by
 apply K7
 intro K hK
 unfold Hn
 simp -dsimp (disch:=first|omega|(simp only[go_sem,seval];try omega))only[go_sem,seval]
 exact hK _ _ ⟨rfl,rfl⟩
structure WStep (base:Nat) (w w':World) (W W':Wn):Prop where
 at_:WnAt base w' W'
 ok:W'.ok
 n:W'.n=W.n
 b:W'.b=W.b
 born:W'.born=W.born
 room:W'.room=W.room
 R:W'.L.R=W.L.R
 new:W'.L.newest≤W.L.newest+1
 trn:Trn W.own W'.own w w'
theorem WStep.refl (h:WnAt base w W) (ok:W.ok) (hc:Chg [] w w'):WStep base w w' W W:=⟨h.chg0 hc,ok,rfl,rfl,rfl,rfl,rfl,by omega,Trn.of0 hc fun _ h=>.inl h⟩
theorem LX (w:World) (x y room:Int) (h1:1≤x) (h2:x≤200) (h3:1≤y) (h4:y≤60):Calls Tryz.prog 29 #[.int .i64 x,.int .i64 y,.int .i64 room] w
  (Ac fun v w'=>∃W,v=.pointer (some ⟨W.b,0,none⟩)∧WnAt w.heap.size w' W∧W.ok∧W.active=1∧W.room=room∧W.L.R=⟨0,0,x,y⟩∧W.L.newest=1∧(∃t,W.L.root=.pane t 1)∧Chg [] w w'):=by
 apply R1
 intro K hK
 unfold NH
 refine OpX.call Sm rfl (Calls.ret (Sp w x y h1 h2 h3 h4) ?_)
 rintro v w1 ⟨lb,t,rfl,hL,hlb,ht,hc1⟩
 simp -dsimp (disch:=first|omega|(simp only[go_sem,seval];try omega))only[go_sem,seval]
 refine OpX.gen fun w2 hw2=>?_
 have hc2:Chg [] w1 w2:=by rw[hw2];(repeat (first|exact Chg.refl _ _|apply Chg.drew|apply Chg.alloc|(refine Chg.set ?_ _ _ (by first|(left;simp;done)|(right;omega)))))
 have hz2:w2.heap.size=w1.heap.size+2:=by rw[hw2];simp -dsimp (disch:=first|omega|(simp only[go_sem,seval];try omega))only[go_sem,seval]
 have am:w2.heap[w1.heap.size]?=some (.map #[] 0):=by rw[hw2];simp -dsimp (disch:=first|omega|(simp only[go_sem,seval];try omega))only[go_sem,seval]
 have ab:w2.heap[w1.heap.size+1]?=some (.cells #[.pointer (some ⟨lb,0,none⟩),.int .i64 1,.int .i64 room,.map (some w1.heap.size)] 94):=by rw[hw2];simp -dsimp (disch:=first|omega|(simp only[go_sem,seval];try omega))only[go_sem,seval]
 clear hw2
 have hc02:=hc1.trans0 hc2
 have hz1:=hc1.size
 obtain⟨W0,hW0⟩:∃W0:Wn,W0=⟨1,0,w1.heap.size+1,lb,w1.heap.size,0,⟨.pane t 1,⟨0,0,x,y⟩,1⟩,1,room,[]⟩:=⟨_,rfl⟩
 have hA:WnAt w.heap.size w2 W0:=by
  subst hW0
  refine⟨ab,hL.chg0 hc2,am,by simp,by simp,by simp,?_⟩
  rintro z (rfl|rfl|rfl|hz|⟨p,hp,-⟩)
  ·dsimp only;omega
  ·exact hlb
  ·exact hz1
  ·simp [Mt.blks] at hz;omega
  ·simp at hp
 have hf:=EW hA (by rw[hW0];exact J6 h1 h2 h3 h4) (by rw[hW0];simp) hc02.size
 rw[show W0.b=w1.heap.size+1 by rw[hW0]] at hf
 refine OpX.call EX rfl (Calls.ret (hf) ?_)
 rintro v w3 ⟨pts,tc,hA3,hhas,hsz,htr⟩
 subst hW0
 refine hK _ _ ⟨_,?_,hA3,⟨J6 h1 h2 h3 h4,by simp [Mt.ids],hhas,hsz⟩,rfl,rfl,rfl,rfl,⟨t,rfl⟩,htr.base hc02 fun z hz=>hA.lo z hz⟩
 show Value.pointer (some ⟨_,0,none⟩)=Value.pointer (some ⟨w1.heap.size+1,0,none⟩)
 simp -dsimp (disch:=first|omega|(simp only[go_sem,seval];try omega))only[go_sem,seval]
theorem X7 (h:WnAt base w W) (ok:W.ok) (hbase:base≤w.heap.size) (hnew:W.L.newest≤1000000000000000) (ac:Bool):Calls Tryz.prog 92 #[.pointer (some ⟨W.b,0,none⟩),.bool ac] w
  (Ac fun v w'=>∃W',WStep base w w' W W'∧(
   (v=.nilIface∧∃nb n1 n2 S,(Mt.pane nb W.active,S)∈W.L.root.all W.L.R∧3≤S.len ac∧W.L.root.ids.length<16∧W'.L=BW W.L ac nb n1 n2 S W.active∧W'.active=W.L.newest+1) ∨
   (W'=W∧(∃c,c≠0∧v=Ax c)∧(16≤W.L.root.ids.length∨∃nb S,(Mt.pane nb W.active,S)∈W.L.root.all W.L.R∧S.len ac<3)))):=by
 have hb:=h.hb
 apply Yr
 intro K hK
 unfold IP
 simp -dsimp (disch:=first|omega|(simp only[go_sem,seval];try omega))only[go_sem,seval,hb]
 have h0:=h.chg0 (show Chg [] w w.drew from(Chg.refl _ _).drew)
 refine OpX.call Zb rfl (Calls.ret (Xz h0.lay ok.lay ok.act hnew ac) ?_)
 rintro v w1 ⟨nb,S,hall,hh⟩
 rcases hh with ⟨hr,rfl,hc⟩|⟨g1,g2,rfl,n1,n2,m1,m2,m3,hL,hc⟩
 ·unfold Ax
  simp -dsimp (disch:=first|omega|(simp only[go_sem,seval];try omega))only[go_sem,seval]
  refine hK _ _ ⟨W,WStep.refl h ok hc.low_drew,.inr ⟨rfl,⟨_,?_,rfl⟩,hr.imp id fun h=>⟨nb,S,hall,h⟩⟩⟩
  split<;>decide
 ·have hc:Chg [W.lb,nb] w w1:=hc.low_drew
  have hnbm:nb∈W.L.root.blks:=Mt.all_blk _ hall nb (by simp [Mt.blks])
  have hne:=h.ne
  have hb1:=hc.keep hb (by simp;exact⟨hne.1,fun e=>hne.2.2.2.1 (e ▸ hnbm)⟩)
  have lb1:=Aa hb1
  simp -dsimp (disch:=first|omega|(simp only[go_sem,seval];try omega))only[go_sem,seval,hb1]
  refine OpX.gen fun w2 hw2=>?_
  have hc2:Chg [W.b] w1 w2:=by rw[hw2];(repeat (first|exact Chg.refl _ _|apply Chg.drew|apply Chg.alloc|(refine Chg.set ?_ _ _ (by first|(left;simp;done)|(right;omega)))))
  have hb2:w2.heap[W.b]?=some (.cells #[.pointer (some ⟨W.lb,0,none⟩),.int .i64 (W.L.newest+1),.int .i64 W.room,.map (some W.tm)] 94):=by rw[hw2];simp -dsimp (disch:=first|omega|(simp only[go_sem,seval];try omega))only[go_sem,seval]
  clear hw2
  obtain⟨lok,A,B,e1,e2⟩:=VZ (n1:=n1) (n2:=n2) ok.lay h.lay.nd hall g1 g2
  have hmem:∀x∈(BW W.L ac nb n1 n2 S W.active).root.blks,x∈W.L.root.blks∨w.heap.size≤x:=by
   intro x hx
   rcases Mt.put_mem hx with hx|hx
   ·simp only[Mt.blks,List.mem_cons,List.mem_append,List.not_mem_nil,or_false] at hx
    rcases hx with rfl|rfl|rfl
    ·exact .inl hnbm
    ·exact .inr m1
    ·exact .inr m2
   ·exact .inl hx
  have hL2:LAt w2 W.lb (BW W.L ac nb n1 n2 S W.active):=hL.chg hc2 (by simp;exact fun e=>hne.1 e.symm) fun x hx hm=>by
   simp at hm;subst hm
   rcases hmem _ hx with h9|h9
   ·exact hne.2.2.2.1 h9
   ·have:=Aa hb;omega
  have hc02:Chg [W.lb,nb,W.b] w w2:=(hc.mono (by simp)).trans hc2 (by simp)
  obtain⟨hA,hT⟩:=h.laid hc02 (by simp [hnbm]) hL2 hb2 hmem hbase
  have hz:=hT.size
  have hsub:∀i∈({ W with L:=BW W.L ac nb n1 n2 S W.active,active:=W.L.newest+1 }:Wn).pts.map (·.id),i∈(BW W.L ac nb n1 n2 S W.active).root.ids:=by
   intro i hi
   have:=(ok.has i).1 hi
   rw[e1] at this
   rw[e2]
   simp only[List.mem_append,List.mem_cons] at this ⊢
   rcases this with h|h|h
   ·exact .inl h
   ·exact .inr (.inl h)
   ·exact .inr (.inr (.inr h))
  have hf:=EW hA lok hsub (by omega)
  dsimp only at hf
  refine OpX.call EX rfl (Calls.ret (hf) ?_)
  rintro v w3 ⟨pts,tc,hA3,hhas,hsz,htr⟩
  refine hK _ _ ⟨_,⟨hA3,⟨lok,?_,hhas,hsz⟩,rfl,rfl,rfl,rfl,rfl,Int.le_refl _,hT.trans htr⟩,.inl ⟨rfl,nb,n1,n2,S,hall,g2,g1,rfl,rfl⟩⟩
  show W.L.newest+1∈(BW W.L ac nb n1 n2 S W.active).root.ids
  rw[e2];simp
theorem I4 {l:List Int} {id:Int} (hn:l.Nodup) (hi:id∈l):Dd l id∈l∧(Dd l id=id↔l.length=1):=by
 unfold Dd
 cases hf:l.findIdx? (· == id) with
 | none =>
  rw[List.findIdx?_eq_none_iff] at hf
  have:=hf id hi
  simp at this
 | some i =>
  rw[List.findIdx?_eq_some_iff_getElem] at hf
  obtain⟨hlt,he,-⟩:=hf
  have he:l[i]=id:=by simpa using he
  have hk:(i+1) % l.length<l.length:=Nat.mod_lt _ (by omega)
  dsimp only
  rw[List.getD_eq_getElem?_getD,List.getElem?_eq_getElem hk]
  refine⟨List.getElem_mem hk,fun h=>?_,fun h=>?_⟩
  ·have h:l[(i+1) % l.length]=id:=h
   rw[←he] at h
   have:=(List.getElem_inj hn).1 h
   rcases Nat.lt_or_ge (i+1) l.length with h1|h1
   ·rw[Nat.mod_eq_of_lt h1] at this;omega
   ·have h2:i+1=l.length:=by omega
    rw[h2,Nat.mod_self] at this
    omega
  ·have h0:i=0:=by omega
   subst h0
   show l[(0+1) % l.length]=id
   rw[←he]
   congr 1
   rw[h]
theorem WnAt.less (h:WnAt base w W) {pts:List Pt} (hs:List.Sublist pts W.pts) (hc:Chg [W.tm] w w') (hm:w'.heap[W.tm]?=some (.map (Ar .i64 (pts.map Pt.ent)) W.tc)):WnAt base w' { W with pts:=pts }∧Trn W.own ({ W with pts:=pts }:Wn).own w w':=by
 have hne:=h.ne
 have hsub:∀x,({ W with pts:=pts }:Wn).own x→W.own x:=by
  rintro x (rfl|rfl|rfl|hx|⟨r,hr,hx⟩)
  ·exact .inl rfl
  ·exact .inr (.inl rfl)
  ·exact .inr (.inr (.inl rfl))
  ·exact .inr (.inr (.inr (.inl hx)))
  ·exact .inr (.inr (.inr (.inr ⟨r,hs.subset hr,hx⟩)))
 refine⟨⟨hc.keep h.hb (by simp;exact hne.2.1),h.lay.chg hc (by simp;exact hne.2.2.1) (fun x hx hm=>by simp at hm;subst hm;exact hne.2.2.2.2.2 hx),hm,fun p hp=>(h.each p (hs.subset hp)).chg hc fun x hx ho=>?_,h.apart.sublist hs,h.ids.sublist (hs.map _),fun x hx=>h.lo x (hsub x hx)⟩,Trn.of hc (by simp;exact .inr (.inr (.inl rfl))) fun x hx=>.inl (hsub x hx)⟩
 simp at hx
 subst hx
 exact(h.off (hs.subset hp)).2.2.1 ho
theorem Mn {a:Int}:∀{l:List Pt},(l.map (·.id)).Nodup→∀p∈l.eraseP (fun x=>x.ent.1 == a),p.id≠a
 | [],_,p,hp=>by simp at hp
 | z::l,hids,p,hp=>by
  rw[List.map_cons,List.nodup_cons] at hids
  rw[List.eraseP_cons] at hp
  intro e
  by_cases hz:z.id=a
  ·rw[show(z.ent.1 == a)=true by simpa [Pt.ent] using hz] at hp
   exact hids.1 (by rw[hz,←e];exact List.mem_map.2 ⟨p,hp,rfl⟩)
  ·rw[show(z.ent.1 == a)=false by simpa [Pt.ent] using hz] at hp
   rcases List.mem_cons.1 hp with rfl|hp
   ·exact hz e
   ·exact Mn hids.2 p hp e
theorem PD (h:WnAt base w W) (ok:W.ok) (hbase:base≤w.heap.size):Calls Tryz.prog 133 #[.pointer (some ⟨W.b,0,none⟩)] w
  (Ac fun v w'=>∃W',WStep base w w' W W'∧((v=.bool false∧W'=W∧W.L.root.ids.length=1)∨(v=.bool true∧2≤W.L.root.ids.length))):=by
 have hb:=h.hb
 have hlb:=Aa hb
 obtain⟨nx1,nx2⟩:=I4 ok.lay.nd ok.act
 have hpos:=Mt.ids_pos W.L.root
 have hne:=h.ne
 apply SE
 intro K hK
 unfold Lm
 simp -dsimp (disch:=first|omega|(simp only[go_sem,seval];try omega))only[go_sem,seval,hb]
 have h0:=h.chg0 (show Chg [] w w.drew from(Chg.refl _ _).drew)
 refine OpX.call M8 rfl (Calls.ret (Np h0.lay ok.lay W.active) ?_)
 rintro v w1 ⟨rfl,hc1⟩
 have hc1:Chg [] w w1:=hc1.low_drew
 have hb1:=hc1.keep hb (by simp)
 have h1:=h.chg0 hc1
 simp -dsimp (disch:=first|omega|(simp only[go_sem,seval];try omega))only[go_sem,seval,hb1]
 refine BrW.dec (fun g=>?_) (fun g=>?_)
 ·exact hK _ _ ⟨W,WStep.refl h ok hc1,.inl ⟨rfl,rfl,nx2.1 g⟩⟩
 ·have h2:2≤W.L.root.ids.length:=by
   rcases Nat.lt_or_ge W.L.root.ids.length 2 with h9|h9
   ·exact absurd (nx2.2 (by omega)) g
   ·exact h9
  generalize Dd W.L.root.ids W.active=nx at *
  simp -dsimp (disch:=first|omega|(simp only[go_sem,seval];try omega))only[go_sem,seval,hb1]
  refine OpX.call Vi rfl (Calls.ret (Vs h1.lay ok.lay ok.act h2) ?_)
  rintro v w2 ⟨rfl,L',sb,hL',hcl,hsb,hc2⟩
  have hb2:=hc2.keep hb1 (by simp;exact fun e=>hne.2.2.2.1 (e ▸ hsb))
  have hm2:=hc2.keep h1.hm (by simp;exact fun e=>hne.2.2.2.2.2 (e ▸ hsb))
  have lb2:=Aa hb2
  have lm2:=Aa hm2
  simp -dsimp (disch:=first|omega|(simp only[go_sem,seval];try omega))only[go_sem,seval,hb2,hm2,Jv]
  refine OpX.gen fun w3 hw3=>?_
  obtain⟨pts,hpts⟩:∃pts,pts=W.pts.eraseP fun x=>x.ent.1 == W.active:=⟨_,rfl⟩
  rw[←hpts] at hw3
  have hsl:List.Sublist pts W.pts:=by rw[hpts];exact List.eraseP_sublist
  obtain⟨w2m,hw2m⟩:∃w2m,w2m=Ab w2 W.tm (.map (Ar .i64 (pts.map Pt.ent)) W.tc):=⟨_,rfl⟩
  have hcm:Chg [W.tm] w2 w2m:=by rw[hw2m];exact(Chg.refl _ _).set _ _ (by simp)
  have hmm:w2m.heap[W.tm]?=some (.map (Ar .i64 (pts.map Pt.ent)) W.tc):=by rw[hw2m];exact Au _ _ _ _ rfl lm2
  have hbm:=hcm.keep hb2 (by simp;exact hne.2.1)
  have hcb:Chg [W.b] w2m w3:=by rw[hw3,hw2m];exact(Chg.refl _ _).set _ _ (by simp)
  have hb3:w3.heap[W.b]?=some (.cells #[.pointer (some ⟨W.lb,0,none⟩),.int .i64 nx,.int .i64 W.room,.map (some W.tm)] 94):=by rw[hw3];exact Au _ _ _ _ rfl (by rw[Dv];exact lb2)
  clear hw3
  obtain⟨A2,T2⟩:=h1.laid (L:=L') (act:=W.active) hc2 (by simp [hsb]) hL' hb2 (fun x hx=>.inl (hcl.blks x hx)) (by have:=hc1.size;omega)
  obtain⟨A3,T3⟩:=A2.less hsl hcm hmm
  obtain⟨A4,T4⟩:=A3.laid (L:=L') (act:=nx) hcb (by simp) (A3.lay.chg hcb (by simp;exact fun e=>hne.1 e.symm) fun x hx hm=>by simp at hm;subst hm;exact hne.2.2.2.1 (hcl.blks _ hx)) hb3 (fun x hx=>.inl hx) (by have:=hc1.size;have:=T2.size;have:=T3.size;omega)
  dsimp only at A4 T4
  obtain⟨A,B,e1,e2⟩:=hcl.ids
  have hnd:=ok.lay.nd
  rw[e1,List.nodup_append] at hnd
  obtain⟨nd1,nd2,nd3⟩:=hnd
  rw[List.nodup_cons] at nd2
  have hmove:∀i,i∈W.L.root.ids→i≠W.active→i∈L'.root.ids:=by
   intro i hi hia
   rw[e1] at hi
   rw[e2]
   simp only[List.mem_append,List.mem_cons] at hi ⊢
   rcases hi with h|h|h
   ·exact .inl h
   ·exact absurd h hia
   ·exact .inr h
  have hnotin:∀i∈pts.map (·.id),i≠W.active:=by
   rintro i hi rfl
   obtain⟨p,hp,e⟩:=List.mem_map.1 hi
   rw[hpts] at hp
   exact Mn h.ids p hp e
  have hf:=EW A4 hcl.ok (fun i hi=>hmove i ((ok.has i).1 (by obtain⟨p,hp,e⟩:=List.mem_map.1 hi;exact List.mem_map.2 ⟨p,hsl.subset hp,e⟩)) (hnotin i hi)) (by have:=hc1.size;have:=T2.size;have:=T3.size;have:=T4.size;omega)
  dsimp only at hf
  refine OpX.call EX rfl (Calls.ret (hf) ?_)
  rintro v w4 ⟨pts4,tc4,A5,hhas,hsz,T5⟩
  have T1:Trn W.own W.own w w1:=Trn.of0 hc1 fun _ h=>.inl h
  exact hK _ _ ⟨_,⟨A5,⟨hcl.ok,hmove nx nx1 (fun e=>g e),hhas,hsz⟩,rfl,rfl,rfl,rfl,hcl.R,by show L'.newest≤_;rw[hcl.new];omega,(((T1.trans T2).trans T3).trans T4).trans T5⟩,.inr ⟨rfl,h2⟩⟩
theorem PY (h:WnAt base w W) (ok:W.ok) (hbase:base≤w.heap.size) (k:Int):Calls Tryz.prog 99 #[.pointer (some ⟨W.b,0,none⟩),.int .i64 k] w
  (Ac fun v w'=>∃W',WStep base w w' W W'∧(v=.nilIface∨∃c,c≠0∧v=Ax c)):=by
 have hb:=h.hb
 have hne:=h.ne
 apply QM
 intro K hK
 unfold OS
 refine Join1.cut (fun v w'=>(v=.int .i64 1∨v=.int .i64 (-1))∧w'=w) ?_ ?_
 ·refine Join1.cut (fun v w'=>(∃c:Bool,v=.bool c)∧w'=w) ?_ ?_
  ·simp -dsimp (disch:=first|omega|(simp only[go_sem,seval];try omega))only[go_sem,seval]
   refine BrW.dec (fun g=>⟨⟨true,rfl⟩,rfl⟩) (fun g=>?_)
   simp -dsimp (disch:=first|omega|(simp only[go_sem,seval];try omega))only[go_sem,seval]
   exact⟨_,rfl⟩
  ·rintro v w1 ⟨⟨c,rfl⟩,rfl⟩
   cases c
   ·simp -dsimp (disch:=first|omega|(simp only[go_sem,seval];try omega))only[go_sem,seval]
    exact .inl trivial
   ·simp -dsimp (disch:=first|omega|(simp only[go_sem,seval];try omega))only[go_sem,seval]
    exact .inr trivial
 rintro v w1 ⟨hv,rfl⟩
 obtain⟨d,rfl,d0,d1⟩:∃d:Int,v=.int .i64 d∧-200≤d∧d≤200:=by
  rcases hv with rfl|rfl
  ·exact⟨1,rfl,by decide,by decide⟩
  ·exact⟨-1,rfl,by decide,by decide⟩
 simp -dsimp (disch:=first|omega|(simp only[go_sem,seval];try omega))only[go_sem,seval,hb]
 have h0:=h.chg0 (show Chg [] w1 w1.drew from(Chg.refl _ _).drew)
 refine OpX.call Xx rfl (Calls.ret (V3 h0.lay ok.lay ok.act (decide (k≤2)) d d0 d1) ?_)
 rintro v w2 ⟨L',hL',hmv,⟨F,hc2,hF⟩,hv⟩
 have hc2:Chg F w1 w2:=hc2.low_drew
 have hb2:=hc2.keep hb (fun hm=>hne.2.2.2.1 (hF _ hm))
 obtain⟨A2,T2⟩:=h.laid (L:=L') (act:=W.active) hc2 (fun x hx=>.inr (.inr (hF x hx))) hL' hb2 (fun x hx=>.inl (hmv.blks x hx)) hbase
 have hz:=T2.size
 have hact:W.active∈L'.root.ids:=by rw[hmv.ids];exact ok.act
 rcases hv with rfl|⟨rfl,c,hc0,rfl⟩
 ·have hf:=EW A2 hmv.ok (fun i hi=>by show i∈L'.root.ids;rw[hmv.ids];exact(ok.has i).1 hi) (by omega)
  dsimp only at hf
  simp -dsimp (disch:=first|omega|(simp only[go_sem,seval];try omega))only[go_sem,seval]
  refine OpX.call EX rfl (Calls.ret (hf) ?_)
  rintro v w4 ⟨pts4,tc4,A5,hhas,hsz,T5⟩
  exact hK _ _ ⟨_,⟨A5,⟨hmv.ok,hact,hhas,hsz⟩,rfl,rfl,rfl,rfl,hmv.R,by show L'.newest≤_;rw[hmv.new];omega,T2.trans T5⟩,.inl rfl⟩
 ·unfold Ax
  simp -dsimp (disch:=first|omega|(simp only[go_sem,seval];try omega))only[go_sem,seval]
  exact hK _ _ ⟨_,⟨A2,ok,rfl,rfl,rfl,rfl,rfl,by show W.L.newest≤_;omega,T2⟩,.inr ⟨c,hc0,rfl⟩⟩
end
end Go.Proofs.YtelplojmbjnplaaGreatDoor
namespace Lyc
open Go
structure Ky where
 kind:Int
 n:Int
 s:List UInt8
deriving DecidableEq
@[go_sem] def Ky.cells (k:Ky):List Value:=[.int .i64 k.kind,.int .i64 k.n,.string (Aq k.s)]
@[go_sem] def Ky.val (k:Ky):Value:=.agg #[.int .i64 k.kind,.int .i64 k.n,.string (Aq k.s)]
theorem Ky.len (k:Ky):k.cells.length=3:=rfl
theorem Ky.ok (k:Ky):AP k.cells=true:=rfl
def F8:List UInt8:=[37,34,111,120,99,110,112,100,91,49,50,51,52,53,54,55,56,57,104,108,107,106]
def FC:List (Int × Int):=[(2,0),(3,0),(4,0),(5,0),(6,0),(7,0),(8,0),(13,0),(14,0),(9,1),(9,2),(9,3),(9,4),(9,5),(9,6),(9,7),(9,8),(9,9),(10,1),(10,2),(10,3),(10,4)]
def Gn:List UInt8:=[107,106,117,100,103,71,113]
def FG:List (Int × Int):=[(11,1),(11,-1),(11,10),(11,-10),(11,1000),(11,-1000),(12,0)]
structure Kst where
 cop:Bool
 pre:Bool
 ks:List Ky
 tx:List UInt8
def Kst.flush (S:Kst):Kst:=if S.tx=[] then S else { S with ks:=S.ks++[⟨1,0,S.tx⟩],tx:=[] }
def Ej (c:Bool) (k:Int):Bool:=if k=14 then true else if k=12 then false else c
def Kst.tell (S:Kst) (m:Int × Int):Kst:={ S.flush with ks:=S.flush.ks++[⟨m.1,m.2,[]⟩],cop:=Ej S.cop m.1 }
def CU (l:List UInt8) (b:UInt8):Option Nat:=l.findIdx? (· == b)
def Kst.look (S:Kst) (l:List UInt8) (ms:List (Int × Int)) (b:UInt8):Kst :=
 match CU l b with
 | none=>S
 | some i=>S.tell (ms.getD i (0,0))
def Kst.step (S:Kst) (b:UInt8):Kst :=
 if S.pre then(if b=2 then { S with pre:=false,tx:=S.tx++[b] } else Kst.look { S with pre:=false } F8 FC b)
 else if b=2 then { S.flush with pre:=true }
 else if S.cop=false then { S with tx:=S.tx++[b] }
 else S.look Gn FG b
def Kst.feed (S:Kst) (l:List UInt8):Kst:=l.foldl Kst.step S
def Bv (cop pre:Bool) (l:List UInt8):Kst:=(Kst.feed ⟨cop,pre,[],[]⟩ l).flush
theorem Kst.flush_tx (S:Kst):S.flush.tx=[]:=by unfold flush;split<;>simp_all
theorem Kst.flush_ks (S:Kst):S.flush.ks.length≤S.ks.length+1:=by unfold flush;split<;>simp
theorem Kst.tell_ks (S:Kst) (m:Int × Int):(S.tell m).ks.length≤S.ks.length+2:=by
 have:=S.flush_ks
 simp only[tell,List.length_append,List.length_cons,List.length_nil];omega
theorem Kst.look_ks (S:Kst) (l:List UInt8) (ms:List (Int × Int)) (b:UInt8):(S.look l ms b).ks.length≤S.ks.length+2:=by
 unfold look;split
 ·omega
 ·exact S.tell_ks _
theorem Kst.step_ks (S:Kst) (b:UInt8):(S.step b).ks.length≤S.ks.length+2:=by
 unfold step
 split
 ·split
  ·simp
  ·exact look_ks _ _ _ _
 split
 ·have:=S.flush_ks;simp only;omega
 split
 ·simp
 ·exact look_ks _ _ _ _
theorem Kst.feed_ks:∀(l:List UInt8) (S:Kst),(S.feed l).ks.length≤S.ks.length+2*l.length
 | [],S=>by simp [feed]
 | b::l,S=>by
  have h1:=S.step_ks b
  have h2:=Kst.feed_ks l (S.step b)
  have e:S.feed (b::l)=(S.step b).feed l:=rfl
  rw[e,List.length_cons];omega
theorem Kst.flush_len (S:Kst):S.flush.tx.length≤S.tx.length:=by rw[flush_tx];exact Nat.zero_le _
theorem Kst.look_tx (S:Kst) (l:List UInt8) (ms:List (Int × Int)) (b:UInt8):(S.look l ms b).tx.length≤S.tx.length:=by
 unfold look;split
 ·exact Nat.le_refl _
 ·exact S.flush_len
theorem Kst.step_tx (S:Kst) (b:UInt8):(S.step b).tx.length≤S.tx.length+1:=by
 unfold step
 split
 ·split
  ·simp
  ·exact Nat.le_succ_of_le (look_tx _ _ _ _)
 split
 ·exact Nat.le_succ_of_le S.flush_len
 split
 ·simp
 ·exact Nat.le_succ_of_le (look_tx _ _ _ _)
theorem Kst.feed_tx:∀(l:List UInt8) (S:Kst),(S.feed l).tx.length≤S.tx.length+l.length
 | [],S=>by simp [feed]
 | b::l,S=>by
  have h1:=S.step_tx b
  have h2:=Kst.feed_tx l (S.step b)
  have e:S.feed (b::l)=(S.step b).feed l:=rfl
  rw[e,List.length_cons];omega
theorem ZU (l:List UInt8) (b:UInt8):Lib.indexByte l b=match CU l b with|none=>-1|some i=>(i:Int):=by
 induction l with
 | nil=>rfl
 | cons x l ih =>
  unfold Lib.indexByte CU
  rw[List.findIdx?_cons]
  by_cases h:(x == b)=true
  ·rw[if_pos h,if_pos h];rfl
  ·rw[if_neg h,if_neg h,ih]
   unfold CU
   cases hf:List.findIdx? (fun y=>y == b) l with
   | none=>rfl
   | some i =>
    dsimp only[Option.map_some]
    rw[if_neg (by simp)]
    simp
theorem Je {l:List UInt8} {b:UInt8} {i:Nat} (h:CU l b=some i):i<l.length:=by
 unfold CU at h
 rw[List.findIdx?_eq_some_iff_getElem] at h
 exact h.1
end Lyc
namespace Go.Proofs.YtelplojmbjnplaaGreatDoor
open Lyc Go
set_option maxRecDepth 100000
def kbV:Array Value:=#[.int .i64 2,.int .i64 0,.int .i64 3,.int .i64 0,.int .i64 4,.int .i64 0,.int .i64 5,.int .i64 0,.int .i64 6,.int .i64 0,.int .i64 7,.int .i64 0,.int .i64 8,.int .i64 0,.int .i64 13,.int .i64 0,.int .i64 14,.int .i64 0,.int .i64 9,.int .i64 1,.int .i64 9,.int .i64 2,.int .i64 9,.int .i64 3,.int .i64 9,.int .i64 4,.int .i64 9,.int .i64 5,.int .i64 9,.int .i64 6,.int .i64 9,.int .i64 7,.int .i64 9,.int .i64 8,.int .i64 9,.int .i64 9,.int .i64 10,.int .i64 1,.int .i64 10,.int .i64 2,.int .i64 10,.int .i64 3,.int .i64 10,.int .i64 4]
def kcV:Array Value:=#[.int .i64 11,.int .i64 1,.int .i64 11,.int .i64 (-1),.int .i64 11,.int .i64 10,.int .i64 11,.int .i64 (-10),.int .i64 11,.int .i64 1000,.int .i64 11,.int .i64 (-1000),.int .i64 12,.int .i64 0]
theorem PX:∀(i:Nat),i<22→Dn Tryz.prog 189 kbV (i:Int)=some (.agg #[.int .i64 (FC.getD i (0,0)).1,.int .i64 (FC.getD i (0,0)).2])
 | 0,_=>by kernel_rfl
 | 1,_=>by kernel_rfl
 | 2,_=>by kernel_rfl
 | 3,_=>by kernel_rfl
 | 4,_=>by kernel_rfl
 | 5,_=>by kernel_rfl
 | 6,_=>by kernel_rfl
 | 7,_=>by kernel_rfl
 | 8,_=>by kernel_rfl
 | 9,_=>by kernel_rfl
 | 10,_=>by kernel_rfl
 | 11,_=>by kernel_rfl
 | 12,_=>by kernel_rfl
 | 13,_=>by kernel_rfl
 | 14,_=>by kernel_rfl
 | 15,_=>by kernel_rfl
 | 16,_=>by kernel_rfl
 | 17,_=>by kernel_rfl
 | 18,_=>by kernel_rfl
 | 19,_=>by kernel_rfl
 | 20,_=>by kernel_rfl
 | 21,_=>by kernel_rfl
 | n+22,h=>absurd h (by omega)
theorem Yh:∀(i:Nat),i<7→Dn Tryz.prog 191 kcV (i:Int)=some (.agg #[.int .i64 (FG.getD i (0,0)).1,.int .i64 (FG.getD i (0,0)).2])
 | 0,_=>by kernel_rfl
 | 1,_=>by kernel_rfl
 | 2,_=>by kernel_rfl
 | 3,_=>by kernel_rfl
 | 4,_=>by kernel_rfl
 | 5,_=>by kernel_rfl
 | 6,_=>by kernel_rfl
 | n+7,h=>absurd h (by omega)
theorem Tz (w:World):Calls Tryz.prog 89 #[] w (Ac fun v w'=>v=.agg kbV∧Chg [] w w'):=by
 apply S4
 intro K hK
 unfold Mc
 rw[xA,H2,Te,Da]
 refine OpX.build (c:=#[.int .i64 2,.int .i64 0]) (by kernel_rfl) ?_
 refine OpX.build (c:=#[.int .i64 3,.int .i64 0]) (by kernel_rfl) ?_
 refine OpX.build (c:=#[.int .i64 4,.int .i64 0]) (by kernel_rfl) ?_
 refine OpX.build (c:=#[.int .i64 5,.int .i64 0]) (by kernel_rfl) ?_
 refine OpX.build (c:=#[.int .i64 6,.int .i64 0]) (by kernel_rfl) ?_
 refine OpX.build (c:=#[.int .i64 7,.int .i64 0]) (by kernel_rfl) ?_
 refine OpX.build (c:=#[.int .i64 8,.int .i64 0]) (by kernel_rfl) ?_
 refine OpX.build (c:=#[.int .i64 13,.int .i64 0]) (by kernel_rfl) ?_
 refine OpX.build (c:=#[.int .i64 14,.int .i64 0]) (by kernel_rfl) ?_
 refine OpX.build (c:=#[.int .i64 9,.int .i64 1]) (by kernel_rfl) ?_
 refine OpX.build (c:=#[.int .i64 9,.int .i64 2]) (by kernel_rfl) ?_
 refine OpX.build (c:=#[.int .i64 9,.int .i64 3]) (by kernel_rfl) ?_
 refine OpX.build (c:=#[.int .i64 9,.int .i64 4]) (by kernel_rfl) ?_
 refine OpX.build (c:=#[.int .i64 9,.int .i64 5]) (by kernel_rfl) ?_
 refine OpX.build (c:=#[.int .i64 9,.int .i64 6]) (by kernel_rfl) ?_
 refine OpX.build (c:=#[.int .i64 9,.int .i64 7]) (by kernel_rfl) ?_
 refine OpX.build (c:=#[.int .i64 9,.int .i64 8]) (by kernel_rfl) ?_
 refine OpX.build (c:=#[.int .i64 9,.int .i64 9]) (by kernel_rfl) ?_
 refine OpX.build (c:=#[.int .i64 10,.int .i64 1]) (by kernel_rfl) ?_
 refine OpX.build (c:=#[.int .i64 10,.int .i64 2]) (by kernel_rfl) ?_
 refine OpX.build (c:=#[.int .i64 10,.int .i64 3]) (by kernel_rfl) ?_
 refine OpX.build (c:=#[.int .i64 10,.int .i64 4]) (by kernel_rfl) ?_
 refine OpX.build (c:=kbV) (by kernel_rfl) ?_
 rw[xS,DZ _ _ _ _ _ _ _ (by kernel_rfl) (by kernel_rfl),Lyc.heap_alloc_new _ _ _ rfl,GQ _ _ _ (by kernel_rfl),D4,HK _ _ _ _ rfl]
 rw[xD,Jr _ _ _ _ _ M9.2.2.2.1]
 have hld:AU ((w.alloc (.cells (Value.agg kbV).cells 189)).heap[w.heap.size]?) 0 44=some kbV:=by
  rw[Lyc.heap_alloc_new _ _ _ rfl]
  kernel_rfl
 rw[M9.2.2.2.2.2.1,Option.bind_some,hld,Da]
 exact hK _ _ ⟨rfl,(Chg.refl _ _).alloc _⟩
theorem Sh (w:World):Calls Tryz.prog 90 #[] w (Ac fun v w'=>v=.agg kcV∧Chg [] w w'):=by
 apply ZO
 intro K hK
 unfold Li
 rw[xA,H2,PK,Da]
 refine OpX.build (c:=#[.int .i64 11,.int .i64 1]) (by kernel_rfl) ?_
 refine OpX.build (c:=#[.int .i64 11,.int .i64 (-1)]) (by kernel_rfl) ?_
 refine OpX.build (c:=#[.int .i64 11,.int .i64 10]) (by kernel_rfl) ?_
 refine OpX.build (c:=#[.int .i64 11,.int .i64 (-10)]) (by kernel_rfl) ?_
 refine OpX.build (c:=#[.int .i64 11,.int .i64 1000]) (by kernel_rfl) ?_
 refine OpX.build (c:=#[.int .i64 11,.int .i64 (-1000)]) (by kernel_rfl) ?_
 refine OpX.build (c:=#[.int .i64 12,.int .i64 0]) (by kernel_rfl) ?_
 refine OpX.build (c:=kcV) (by kernel_rfl) ?_
 rw[xS,DZ _ _ _ _ _ _ _ (by kernel_rfl) (by kernel_rfl),Lyc.heap_alloc_new _ _ _ rfl,GQ _ _ _ (by kernel_rfl),D4,HK _ _ _ _ rfl]
 rw[xD,Jr _ _ _ _ _ O2.2.2.2.1]
 have hld:AU ((w.alloc (.cells (Value.agg kcV).cells 191)).heap[w.heap.size]?) 0 14=some kcV:=by
  rw[Lyc.heap_alloc_new _ _ _ rfl]
  kernel_rfl
 rw[O2.2.2.2.2.2.1,Option.bind_some,hld,Da]
 exact hK _ _ ⟨rfl,(Chg.refl _ _).alloc _⟩
section
variable (x0 x1 x2 x3 x4 x7 x8 x9:Value)
structure KM (w0:World) (s t5 t6:Nat) (w:World) (S:Kst):Prop where
 chg:Chg [s,t5,t6] w0 w
 hs:w.heap[s]?=some (.cells #[x0,x1,x2,x3,x4,.bool S.cop,.bool S.pre,x7,x8,x9] 80)
 h5:∃v,w.heap[t5]?=some (.cells #[v] 122)∧Ox w0.heap.size w 125 3 Ky.cells v S.ks
 h6:∃v,w.heap[t6]?=some (.cells #[v] 47)∧Ox w0.heap.size w 5 1 Cw v S.tx
variable {x0 x1 x2 x3 x4 x7 x8 x9}
variable {w0 w:World} {s t5 t6:Nat} {S:Kst}
theorem KM.chg0 {w':World} (h:KM x0 x1 x2 x3 x4 x7 x8 x9 w0 s t5 t6 w S) (hc:Chg [] w w'):KM x0 x1 x2 x3 x4 x7 x8 x9 w0 s t5 t6 w' S:=by
 obtain⟨v5,a5,b5⟩:=h.h5
 obtain⟨v6,a6,b6⟩:=h.h6
 exact⟨h.chg.trans0 hc,hc.keep h.hs (by simp),⟨v5,hc.keep a5 (by simp),b5.chg0 hc⟩,⟨v6,hc.keep a6 (by simp),b6.chg0 hc⟩⟩
structure Kap (w0:World) (s t5 t6:Nat):Prop where
 a:s≠t5
 b:s≠t6
 c:t5≠t6
 ls:s<w0.heap.size
 l5:t5<w0.heap.size
 l6:t6<w0.heap.size
theorem Ij (h:KM x0 x1 x2 x3 x4 x7 x8 x9 w0 s t5 t6 w S) (ap:Kap w0 s t5 t6) (hk:S.ks.length≤100000) (ht:S.tx.length≤100000):Calls Tryz.prog 86 #[.pointer (some ⟨t6,0,none⟩),.pointer (some ⟨t5,0,none⟩)] w
  (Ac fun _ w'=>KM x0 x1 x2 x3 x4 x7 x8 x9 w0 s t5 t6 w' S.flush∧∀b c e fr,w.heap[b]?=some (.cells c e fr)→Nat.beq e 125=false→b≠t5→b≠t6→w'.heap[b]?=some (.cells c e fr)):=by
 obtain⟨v5,a5,o5⟩:=h.h5
 obtain⟨v6,a6,o6⟩:=h.h6
 obtain⟨b6,c6,rfl,-,s6,-,-⟩:=o6.form
 obtain⟨b5,c5,rfl,-,s5,-,-⟩:=o5.form
 have l5:=Aa a5
 have l6:=Aa a6
 obtain⟨p1,p2,p3,p4,p5,p6⟩:=ap
 have hz:=h.chg.size
 apply Wx
 intro K hK
 unfold JU
 simp -dsimp (disch:=first|omega|(simp only[go_sem,seval];try omega))only[go_sem,seval,a6]
 refine BrW.dec (fun g=>?_) (fun g=>?_)
 ·have hne:S.tx≠[]:=by intro e;rw[e] at g;simp at g
  have ef:S.flush={ S with ks:=S.ks++[⟨1,0,S.tx⟩],tx:=[] }:=by unfold Kst.flush;rw[if_neg hne]
  simp -dsimp (disch:=first|omega|(simp only[go_sem,seval];try omega))only[go_sem,seval,a5,a6]
  rw[V5 (by kernel_rfl) (by kernel_rfl) s6]
  simp -dsimp (disch:=first|omega|(simp only[go_sem,seval];try omega))only[go_sem,seval]
  refine OpX.gen fun w1 hw1=>?_
  have hc1:Chg [] w w1:=by rw[hw1];(repeat (first|exact Chg.refl _ _|apply Chg.drew|apply Chg.alloc|(refine Chg.set ?_ _ _ (by first|(left;simp;done)|(right;omega)))))
  have hsa:Sx w1 (some 125) Ky.cells (some ⟨w.heap.size,0,none⟩) [⟨1,0,S.tx⟩]:=Sx.built (c:=(⟨1,0,S.tx⟩:Ky).cells) (by rw[hw1];simp only[Ky.cells];simp -dsimp (disch:=first|omega|(simp only[go_sem,seval];try omega))only[go_sem,seval]) rfl
  clear hw1
  have k1:=h.chg0 hc1
  have a51:=hc1.keep a5 (by simp)
  have a61:=hc1.keep a6 (by simp)
  have o51:=o5.chg0 hc1
  have o61:=o6.chg0 hc1
  refine BL MK Ky.len Ky.ok o51 hsa rfl (by rw[List.length_singleton];omega) (by omega) k1.chg.size ?_
  intro v' w2 ho2 hc2 hown2
  have hge:=o51.own_ge
  have a52:=hc2.keep a51 (fun hm=>by have:=hge _ hm;omega)
  have a62:=hc2.keep a61 (fun hm=>by have:=hge _ hm;omega)
  have hs2:=hc2.keep k1.hs (fun hm=>by have:=hge _ hm;omega)
  have m5:=Aa a52
  have m6:=Aa a62
  obtain⟨a2,cp2,rfl,-⟩:=ho2.form
  simp -dsimp (disch:=first|omega|(simp only[go_sem,seval];try omega))only[go_sem,seval,a52,a62]
  have hc3:Chg [t5,t6] w2 (Ab (Ab w2 t5 (.cells #[.slice a2 (S.ks++[(⟨1,0,S.tx⟩:Ky)]).length cp2] 122)) t6 (.cells #[.slice none 0 0] 47)):=((Chg.refl _ _).set _ _ (by simp)).set _ _ (by simp)
  refine hK _ _ ⟨?_,fun b c e fr hb he n5 n6=>hc3.keep (hc2.keep (hc1.keep hb (by simp)) fun hm=>o51.off (hc1.keep hb (by simp)) he (by simpa using hm)) (by simp;exact⟨n5,n6⟩)⟩
  rw[ef]
  refine⟨((h.chg.trans0 hc1).trans hc2 (fun x hx=>.inr (hge x hx))).trans hc3 (by simp),hc3.keep hs2 (by simp;omega),⟨_,?_,ho2.low hc3 (by simp;omega)⟩,⟨_,Au _ _ _ _ rfl (by rw[Dv];exact m6),Ox.nil _ _ _ _ _⟩⟩
  rw[AZ _ _ _ _ (by omega)]
  exact Au _ _ _ _ rfl m5
 ·have hne:S.tx=[]:=List.eq_nil_of_length_eq_zero (by omega)
  have ef:S.flush=S:=by unfold Kst.flush;rw[if_pos hne]
  exact hK _ _ ⟨by rw[ef];exact h,fun _ _ _ _ hb _ _ _=>hb⟩
theorem LF (h:KM x0 x1 x2 x3 x4 x7 x8 x9 w0 s t5 t6 w S) (ap:Kap w0 s t5 t6) (hk:S.ks.length≤90000) (ht:S.tx.length≤90000) {t7 t2:Nat} (h7:w0.heap[t7]?=some (.cells #[.func (.func 86) #[] #[.pointer (some ⟨t6,0,none⟩),.pointer (some ⟨t5,0,none⟩)]] 1)) (h2:w0.heap[t2]?=some (.cells #[.pointer (some ⟨s,5,none⟩)] 184))
  (n7:t7≠s∧t7≠t5∧t7≠t6) (n2:t2≠s∧t2≠t5∧t2≠t6) (m:Int × Int) :
  Calls Tryz.prog 87 #[.agg #[.int .i64 m.1,.int .i64 m.2],.pointer (some ⟨t7,0,none⟩),.pointer (some ⟨t5,0,none⟩),.pointer (some ⟨t2,0,none⟩)] w
  (Ac fun _ w'=>KM x0 x1 x2 x3 x4 x7 x8 x9 w0 s t5 t6 w' (S.tell m)):=by
 have hz:=h.chg.size
 have ap0:=ap
 obtain⟨p1,p2,p3,p4,p5,p6⟩:=ap
 have h7w:=h.chg.keep h7 (by simp;exact n7)
 have l7:=Aa h7w
 apply ZF
 intro K hK
 unfold Mo
 simp -dsimp (disch:=first|omega|(simp only[go_sem,seval];try omega))only[go_sem,seval,h7w]
 refine OpX.gen fun w1 hw1=>?_
 have hc1:Chg [] w w1:=by rw[hw1];(repeat (first|exact Chg.refl _ _|apply Chg.drew|apply Chg.alloc|(refine Chg.set ?_ _ _ (by first|(left;simp;done)|(right;omega)))))
 have a4:w1.heap[w.heap.size]?=some (.cells #[.int .i64 m.1,.int .i64 m.2] 186):=by rw[hw1];simp -dsimp (disch:=first|omega|(simp only[go_sem,seval];try omega))only[go_sem,seval]
 clear hw1
 have k1:=h.chg0 hc1
 refine OpX.callV (us:=[]) (cs:=[.pointer (some ⟨t6,0,none⟩),.pointer (some ⟨t5,0,none⟩)]) HO (DG []) (Calls.ret (Ij k1 ap0 (by omega) (by omega)) ?_)
 rintro v w2 ⟨k2,hkeep⟩
 have hfk:=S.flush_ks
 have ls5:=Aa k1.hs
 have a42:w2.heap[w.heap.size]?=some (.cells #[.int .i64 m.1,.int .i64 m.2] 186):=hkeep _ _ _ _ a4 rfl (by omega) (by omega)
 obtain⟨v5,a5,o5⟩:=k2.h5
 obtain⟨b5,c5,rfl,-,s5,-,-⟩:=o5.form
 have l5:=Aa a5
 simp -dsimp (disch:=first|omega|(simp only[go_sem,seval];try omega))only[go_sem,seval,a5,a42]
 refine OpX.gen fun w3 hw3=>?_
 have hc3:Chg [] w2 w3:=by rw[hw3];(repeat (first|exact Chg.refl _ _|apply Chg.drew|apply Chg.alloc|(refine Chg.set ?_ _ _ (by first|(left;simp;done)|(right;omega)))))
 have hsa:Sx w3 (some 125) Ky.cells (some ⟨w2.heap.size,0,none⟩) [⟨m.1,m.2,[]⟩]:=Sx.built (c:=(⟨m.1,m.2,[]⟩:Ky).cells) (by rw[hw3];simp only[Ky.cells];simp -dsimp (disch:=first|omega|(simp only[go_sem,seval];try omega))only[go_sem,seval];rfl) rfl
 clear hw3
 have k3:=k2.chg0 hc3
 have a53:=hc3.keep a5 (by simp)
 have o53:=o5.chg0 hc3
 have a43:=hc3.keep a42 (by simp)
 have h23:=k3.chg.keep h2 (by simp;exact n2)
 refine BL MK Ky.len Ky.ok o53 hsa rfl (by rw[List.length_singleton];omega) (by omega) k3.chg.size ?_
 intro v' w4 ho4 hc4 hown4
 have hge:=o53.own_ge
 have a54:=hc4.keep a53 (fun hm=>by have:=hge _ hm;omega)
 have hs4:=hc4.keep k3.hs (fun hm=>by have:=hge _ hm;omega)
 have a44:=hc4.keep a43 (fun hm=>o53.off a43 rfl (by simpa using hm))
 have h24:=(k3.chg.trans hc4 (fun x hx=>.inr (hge x hx))).keep h2 (by simp;exact n2)
 obtain⟨v6,a6,o6⟩:=k3.h6
 have a64:=hc4.keep a6 (fun hm=>by have:=hge _ hm;omega)
 have o64:Ox w0.heap.size w4 5 1 Cw v6 S.flush.tx:=by
  refine o6.chg hc4 fun b hb hm=>?_
  rcases o6.2 with ⟨e,-⟩|⟨g,cap,cur,e,-,hg,-⟩
  ·rw[e] at hb;simp [Value.ownBlock] at hb
  ·rw[e] at hb
   simp only[Value.ownBlock,Option.some.injEq] at hb
   subst hb
   exact o53.off hg rfl (by simpa using hm)
 have m5:=Aa a54
 have ms:=Aa hs4
 have m4:=Aa a44
 have m2:=Aa h24
 obtain⟨a2,cp2,rfl,-⟩:=ho4.form
 simp -dsimp (disch:=first|omega|(simp only[go_sem,seval];try omega))only[go_sem,seval,a54,a44]
 have hS:S.tell m={ S.flush with ks:=S.flush.ks++[⟨m.1,m.2,[]⟩],cop:=Ej S.cop m.1 }:=rfl
 have hcop:S.flush.cop=S.cop:=by unfold Kst.flush;split<;>rfl
 have hc5:Chg [t5] w4 (Ab w4 t5 (.cells #[.slice a2 (S.flush.ks++[(⟨m.1,m.2,[]⟩:Ky)]).length cp2] 122)):=(Chg.refl _ _).set _ _ (by simp)
 have q5:=Au w4 t5 (.cells #[.slice a2 (S.flush.ks++[(⟨m.1,m.2,[]⟩:Ky)]).length cp2] 122) t5 rfl m5
 have q2:=hc5.keep h24 (by simp;exact n2.2.1)
 have qs:=hc5.keep hs4 (by simp;exact p1)
 have q6:=hc5.keep a64 (by simp;omega)
 have hc05:Chg [s,t5,t6] w0 (Ab w4 t5 (.cells #[.slice a2 (S.flush.ks++[(⟨m.1,m.2,[]⟩:Ky)]).length cp2] 122)):=(k3.chg.trans hc4 (fun x hx=>.inr (hge x hx))).trans hc5 (by simp)
 have r5:=ho4.low hc5 (by simp;omega)
 have r6:=o64.low hc5 (by simp;omega)
 generalize Ab w4 t5 _=w5 at hc5 q5 q2 qs q6 hc05 r5 r6 ⊢
 have mq:=Aa qs
 have mq2:=Aa q2
 have fin:∀c:Bool,S.tell m={ S.flush with ks:=S.flush.ks++[⟨m.1,m.2,[]⟩],cop:=c }→KM x0 x1 x2 x3 x4 x7 x8 x9 w0 s t5 t6 (Ab w5 s (.cells #[x0,x1,x2,x3,x4,.bool c,.bool S.flush.pre,x7,x8,x9] 80)) (S.tell m):=by
  intro c e
  rw[e]
  have hc6:Chg [s] w5 (Ab w5 s (.cells #[x0,x1,x2,x3,x4,.bool c,.bool S.flush.pre,x7,x8,x9] 80)):=(Chg.refl _ _).set _ _ (by simp)
  exact⟨hc05.trans hc6 (by simp),Au _ _ _ _ rfl mq,⟨_,hc6.keep q5 (by simp;omega),r5.low hc6 (by simp;omega)⟩,⟨_,hc6.keep q6 (by simp;omega),r6.low hc6 (by simp;omega)⟩⟩
 refine BrW.dec (fun g1=>?_) (fun g1=>?_)
 ·simp -dsimp (disch:=first|omega|(simp only[go_sem,seval];try omega))only[go_sem,seval,q2,qs]
  exact hK _ _ (fin true (by rw[hS];unfold Ej;rw[if_pos g1]))
 simp -dsimp (disch:=first|omega|(simp only[go_sem,seval];try omega))only[go_sem,seval]
 refine BrW.dec (fun g2=>?_) (fun g2=>?_)
 ·simp -dsimp (disch:=first|omega|(simp only[go_sem,seval];try omega))only[go_sem,seval,q2,qs]
  exact hK _ _ (fin false (by rw[hS];unfold Ej;rw[if_neg g1,if_pos g2]))
 ·refine hK _ _ ?_
  rw[hS]
  have:Ej S.cop m.1=S.flush.cop:=by unfold Ej;rw[if_neg g1,if_neg g2,hcop]
  rw[this]
  exact⟨hc05,qs,⟨_,q5,r5⟩,⟨_,q6,r6⟩⟩
theorem KM.setp (h:KM x0 x1 x2 x3 x4 x7 x8 x9 w0 s t5 t6 w S) (ap:Kap w0 s t5 t6) (c:Bool):KM x0 x1 x2 x3 x4 x7 x8 x9 w0 s t5 t6 (Ab w s (.cells #[x0,x1,x2,x3,x4,.bool S.cop,.bool c,x7,x8,x9] 80)) { S with pre:=c }:=by
 obtain⟨v5,a5,b5⟩:=h.h5
 obtain⟨v6,a6,b6⟩:=h.h6
 have hc:Chg [s] w (Ab w s (.cells #[x0,x1,x2,x3,x4,.bool S.cop,.bool c,x7,x8,x9] 80)):=(Chg.refl _ _).set _ _ (by simp)
 obtain⟨p1,p2,p3,p4,p5,p6⟩:=ap
 exact⟨h.chg.trans hc (by simp),Au _ _ _ _ rfl (Aa h.hs),⟨v5,hc.keep a5 (by simp;omega),b5.low hc (by simp;omega)⟩,⟨v6,hc.keep a6 (by simp;omega),b6.low hc (by simp;omega)⟩⟩
theorem JX (h:KM x0 x1 x2 x3 x4 x7 x8 x9 w0 s t5 t6 w S) (ap:Kap w0 s t5 t6) (ht:S.tx.length≤90000) (b:UInt8) {R:World→Prop} (hR:∀w',KM x0 x1 x2 x3 x4 x7 x8 x9 w0 s t5 t6 w' { S with tx:=S.tx++[b] }→R w') :
  xL 47 (.pointer (some ⟨t6,0,none⟩)) (fun t44=>OpX Tryz.prog (.buildSlice 47 1 #[(0,.const (.int .u8 b.toNat))]) 47 fun t46=>OpX Tryz.prog (.call { callee:=.builtin .append,args:=#[.const t44,.const t46],argTypes:=#[47,47] }) 47 fun t47=>xS 47 (.pointer (some ⟨t6,0,none⟩)) t47 R) w:=by
 obtain⟨v5,a5,o5⟩:=h.h5
 obtain⟨v6,a6,o6⟩:=h.h6
 obtain⟨b6,c6,rfl,-,s6,-,-⟩:=o6.form
 obtain⟨p1,p2,p3,p4,p5,p6⟩:=ap
 simp -dsimp (disch:=first|omega|(simp only[go_sem,seval];try omega))only[go_sem,seval,a6]
 refine OpX.gen fun w1 hw1=>?_
 have hc1:Chg [] w w1:=by rw[hw1];(repeat (first|exact Chg.refl _ _|apply Chg.drew|apply Chg.alloc|(refine Chg.set ?_ _ _ (by first|(left;simp;done)|(right;omega)))))
 have hsa:Sx w1 (some 5) Cw (some ⟨w.heap.size,0,none⟩) [b]:=Sx.built (c:=Cw b) (by rw[hw1];simp only[Cw];simp -dsimp (disch:=first|omega|(simp only[go_sem,seval];try omega))only[go_sem,seval]) rfl
 clear hw1
 have k1:=h.chg0 hc1
 have a51:=hc1.keep a5 (by simp)
 have a61:=hc1.keep a6 (by simp)
 have o51:=o5.chg0 hc1
 have o61:=o6.chg0 hc1
 have hz:=k1.chg.size
 refine BL RT P0 Rz o61 hsa rfl (by rw[List.length_singleton];omega) (by omega) hz ?_
 intro v' w2 ho2 hc2 hown2
 have hge:=o61.own_ge
 have a52:=hc2.keep a51 (fun hm=>by have:=hge _ hm;omega)
 have a62:=hc2.keep a61 (fun hm=>by have:=hge _ hm;omega)
 have hs2:=hc2.keep k1.hs (fun hm=>by have:=hge _ hm;omega)
 have m6:=Aa a62
 have o52:Ox w0.heap.size w2 125 3 Ky.cells v5 S.ks:=by
  refine o51.chg hc2 fun b hb hm=>?_
  rcases o51.2 with ⟨e,-⟩|⟨g,cap,cur,e,-,hg,-⟩
  ·rw[e] at hb;simp [Value.ownBlock] at hb
  ·rw[e] at hb
   simp only[Value.ownBlock,Option.some.injEq] at hb
   subst hb
   exact o61.off hg rfl (by simpa using hm)
 obtain⟨a2,cp2,rfl,-⟩:=ho2.form
 simp -dsimp (disch:=first|omega|(simp only[go_sem,seval];try omega))only[go_sem,seval,a62]
 have hc3:Chg [t6] w2 (Ab w2 t6 (.cells #[.slice a2 (S.tx++[b]).length cp2] 47)):=(Chg.refl _ _).set _ _ (by simp)
 exact hR _ ⟨((h.chg.trans0 hc1).trans hc2 (fun x hx=>.inr (hge x hx))).trans hc3 (by simp),hc3.keep hs2 (by simp;omega),⟨_,hc3.keep a52 (by simp;omega),o52.low hc3 (by simp;omega)⟩,⟨_,Au _ _ _ _ rfl m6,ho2.low hc3 (by simp;omega)⟩⟩
theorem JC (w:World) (l:List UInt8) (b:UInt8):Calls Tryz.prog 88 #[.string ⟨l.toArray⟩,.int .u8 b.toNat] w (Ac fun v w'=>v=.int .i64 (match CU l b with|none=>-1|some i=>(i:Int))∧w'=w):=by
 refine(Tryz.strings_IndexByte ⟨l.toArray⟩ b.toNat w).mono fun e w' h=>?_
 obtain⟨rfl,rfl⟩:=h
 refine⟨?_,rfl⟩
 have:=ZU l b
 have e:((b.toNat:Int)).toNat.toUInt8=b:=by simp
 rw[e]
 exact congrArg _ this
theorem Dz {F:World→Prop} {w:World} (h:∀w0,w0=w→F w0):F w:=h w rfl
theorem Qu {cop pre:Bool} (h:w.heap[s]?=some (.cells #[x0,x1,x2,x3,x4,.bool cop,.bool pre,x7,x8,x9] 80)) (l:List UInt8) (hl:l.length≤2000):Calls Tryz.prog 52 #[.pointer (some ⟨s,5,none⟩),.string (Aq l)] w
  (Ac fun v w'=>Ox w.heap.size w' 125 3 Ky.cells v (Bv cop pre l).ks∧w'.heap[s]?=some (.cells #[x0,x1,x2,x3,x4,.bool (Bv cop pre l).cop,.bool (Bv cop pre l).pre,x7,x8,x9] 80)∧Chg [s] w w'):=by
 have ls:=Aa h
 apply Tg
 intro K hK
 unfold LA
 simp -dsimp (disch:=first|omega|(simp only[go_sem,seval];try omega))only[go_sem,seval]
 refine Dz (F:=Loop1 _ _) fun w0 hw0=>?_
 have hc0:Chg [] w w0:=by rw[hw0];(repeat (first|exact Chg.refl _ _|apply Chg.drew|apply Chg.alloc|(refine Chg.set ?_ _ _ (by first|(left;simp;done)|(right;omega)))))
 have hz0:w0.heap.size=w.heap.size+4:=by rw[hw0];simp -dsimp (disch:=first|omega|(simp only[go_sem,seval];try omega))only[go_sem,seval]
 have a2:w0.heap[w.heap.size]?=some (.cells #[.pointer (some ⟨s,5,none⟩)] 184):=by rw[hw0];simp -dsimp (disch:=first|omega|(simp only[go_sem,seval];try omega))only[go_sem,seval]
 have a5:w0.heap[w.heap.size+1]?=some (.cells #[.slice none 0 0] 122):=by rw[hw0];simp -dsimp (disch:=first|omega|(simp only[go_sem,seval];try omega))only[go_sem,seval]
 have a6:w0.heap[w.heap.size+2]?=some (.cells #[.slice none 0 0] 47):=by rw[hw0];simp -dsimp (disch:=first|omega|(simp only[go_sem,seval];try omega))only[go_sem,seval]
 have a7:w0.heap[w.heap.size+3]?=some (.cells #[.func (.func 86) #[] #[.pointer (some ⟨w.heap.size+2,0,none⟩),.pointer (some ⟨w.heap.size+1,0,none⟩)]] 1):=by rw[hw0];simp -dsimp (disch:=first|omega|(simp only[go_sem,seval];try omega))only[go_sem,seval]
 clear hw0
 have z1:∀o:Obj,(w.alloc o).heap.size=w.heap.size+1:=fun o=>World.size_alloc _ _
 have z2:∀o o':Obj,((w.alloc o).alloc o').heap.size=w.heap.size+2:=fun o o'=>by rw[World.size_alloc,World.size_alloc]
 have z3:∀o o' o'':Obj,(((w.alloc o).alloc o').alloc o'').heap.size=w.heap.size+3:=fun o o' o''=>by rw[World.size_alloc,World.size_alloc,World.size_alloc]
 rw[z3,z2,z1]
 have hs0:=hc0.keep h (by simp)
 have ap:Kap w0 s (w.heap.size+1) (w.heap.size+2):=⟨by omega,by omega,by omega,by omega,by omega,by omega⟩
 have n7:w.heap.size+3≠s∧w.heap.size+3≠w.heap.size+1∧w.heap.size+3≠w.heap.size+2:=⟨by omega,by omega,by omega⟩
 have n2:w.heap.size≠s∧w.heap.size≠w.heap.size+1∧w.heap.size≠w.heap.size+2:=⟨by omega,by omega,by omega⟩
 have K0:KM x0 x1 x2 x3 x4 x7 x8 x9 w0 s (w.heap.size+1) (w.heap.size+2) w0 ⟨cop,pre,[],[]⟩:=⟨Chg.refl _ _,hs0,⟨_,a5,Ox.nil _ _ _ _ _⟩,⟨_,a6,Ox.nil _ _ _ _ _⟩⟩
 refine Loop1.st (fun i:Nat=>.int .i64 (i:Int)) (fun i w'=>i≤l.length∧KM x0 x1 x2 x3 x4 x7 x8 x9 w0 s (w.heap.size+1) (w.heap.size+2) w' (Kst.feed ⟨cop,pre,[],[]⟩ (l.take i))) (fun i=>l.length-i) 0 rfl ⟨by simp,K0⟩ ?_
 rintro next i wi hn ⟨hi,k⟩
 have hks:=Kst.feed_ks (l.take i) ⟨cop,pre,[],[]⟩
 have htx:=Kst.feed_tx (l.take i) ⟨cop,pre,[],[]⟩
 have hti:(l.take i).length≤2000:=by rw[List.length_take];omega
 simp only[List.length_nil,Nat.zero_add] at hks htx
 obtain⟨S,hS⟩:∃S,S=Kst.feed ⟨cop,pre,[],[]⟩ (l.take i):=⟨_,rfl⟩
 rw[←hS] at k hks htx
 have q2:=k.chg.keep a2 (by simp;omega)
 have q7:=k.chg.keep a7 (by simp;omega)
 have qs:=k.hs
 have mq2:=Aa q2
 have mqs:=Aa qs
 simp -dsimp (disch:=first|omega|(simp only[go_sem,seval];try omega))only[go_sem,seval]
 refine BrW.dec (fun g=>?_) (fun g=>?_)
 ·have hi':i<l.length:=by omega
  obtain⟨b,hb⟩:∃b,b=l[i]:=⟨_,rfl⟩
  have hli:l[i]?=some b:=by rw[List.getElem?_eq_getElem hi',hb]
  have hstep:Kst.feed ⟨cop,pre,[],[]⟩ (l.take (i+1))=S.step b:=by
   rw[Du hi',←hb,Kst.feed,List.foldl_append]
   exact congrArg (fun z=>Kst.step z b) hS.symm
  refine Join0.cut (fun w'=>KM x0 x1 x2 x3 x4 x7 x8 x9 w0 s (w.heap.size+1) (w.heap.size+2) w' (S.step b)) ?_ ?_
  ·have e0:(0:Int)≤(i:Int):=by omega
   obtain⟨T,hT⟩:∃T,T=S.step b:=⟨_,rfl⟩
   rw[←hT]
   have hb2:((b.toNat:Int)=2)↔b=2:=⟨fun h=>by apply UInt8.toNat_inj.1;show b.toNat=2;omega,fun h=>by rw[h];rfl⟩
   simp -dsimp (disch:=first|omega|(simp only[go_sem,seval];try omega))only[go_sem,seval,hli,q2,qs,e0]
   cases hp:S.pre
   ·simp -dsimp (disch:=first|omega|(simp only[go_sem,seval];try omega))only[go_sem,seval]
    have hpn:¬S.pre=true:=by rw[hp];decide
    refine BrW.dec (fun g1=>?_) (fun g1=>?_)
    ·have e:T={ S.flush with pre:=true }:=by rw[hT];unfold Kst.step;rw[if_neg hpn,if_pos (hb2.1 g1)]
     simp -dsimp (disch:=first|omega|(simp only[go_sem,seval];try omega))only[go_sem,seval,q7]
     refine OpX.callV (us:=[]) (cs:=[.pointer (some ⟨w.heap.size+2,0,none⟩),.pointer (some ⟨w.heap.size+1,0,none⟩)]) HO (DG []) (Calls.ret (Ij k ap (by omega) (by omega)) ?_)
     rintro v w1 ⟨k1,-⟩
     have r2:=k1.chg.keep a2 (by simp;omega)
     have rs:=k1.hs
     have mr2:=Aa r2
     have mrs:=Aa rs
     have kp:=k1.setp ap true
     simp -dsimp (disch:=first|omega|(simp only[go_sem,seval];try omega))only[go_sem,seval,r2,rs]
     rw[e];exact kp
    ·simp -dsimp (disch:=first|omega|(simp only[go_sem,seval];try omega))only[go_sem,seval,q2,qs]
     refine BrW.by (fun hcp=>?_) (fun hcp=>?_)
     ·have hcp:S.cop=false:=by simpa using hcp
      have e:T={ S with tx:=S.tx++[b] }:=by rw[hT];unfold Kst.step;rw[if_neg hpn,if_neg (fun h=>g1 (hb2.2 h)),if_pos hcp]
      refine JX k ap (by omega) b fun w' k'=>?_
      rw[e];exact k'
     ·have hcp:S.cop=true:=by simpa using hcp
      have e:T=S.look Gn FG b:=by rw[hT];unfold Kst.step;rw[if_neg hpn,if_neg (fun h=>g1 (hb2.2 h)),if_neg (by rw[hcp];decide)]
      refine OpX.call I2 rfl (Calls.ret (JC wi Gn b) ?_)
      rintro v w1 ⟨rfl,rfl⟩
      unfold Kst.look at e
      cases hx:CU Gn b with
      | none =>
       rw[hx] at e
       simp -dsimp (disch:=first|omega|(simp only[go_sem,seval];try omega))only[go_sem,seval]
       rw[e];exact k
      | some j =>
       rw[hx] at e
       have hj:=Je hx
       have hj:j<7:=hj
       simp -dsimp (disch:=first|omega|(simp only[go_sem,seval];try omega))only[go_sem,seval]
       refine BrW.dec (fun _=>?_) (fun g=>absurd (show(0:Int)≤(j:Int) by omega) g)
       refine OpX.call W8 rfl (Calls.ret (Sh w1) ?_)
       rintro v w2 ⟨rfl,hc2⟩
       dsimp only
       rw[ND,Yh j hj,Da]
       refine OpX.callV (us:=[]) (cs:=[.pointer (some ⟨w.heap.size+3,0,none⟩),.pointer (some ⟨w.heap.size+1,0,none⟩),.pointer (some ⟨w.heap.size,0,none⟩)]) K1 (DG [_]) (Calls.ret (LF (k.chg0 hc2) ap (by first|omega|(dsimp only;omega)) (by first|omega|(dsimp only;omega)) a7 a2 n7 n2 _) ?_)
       rintro v w3 k3
       rw[e];exact k3
   ·simp -dsimp (disch:=first|omega|(simp only[go_sem,seval];try omega))only[go_sem,seval,q2,qs]
    have kp:=k.setp ap false
    generalize hwp:Ab wi s _=wp at kp ⊢
    refine BrW.dec (fun g1=>?_) (fun g1=>?_)
    ·have e:T={ S with pre:=false,tx:=S.tx++[b] }:=by rw[hT];unfold Kst.step;rw[if_pos hp,if_pos (hb2.1 g1)]
     refine JX kp ap (by dsimp only;omega) b fun w' k'=>?_
     rw[e];exact k'
    ·have e:T=Kst.look { S with pre:=false } F8 FC b:=by rw[hT];unfold Kst.step;rw[if_pos hp,if_neg (fun h=>g1 (hb2.2 h))]
     refine OpX.call I2 rfl (Calls.ret (JC wp F8 b) ?_)
     rintro v w1 ⟨rfl,rfl⟩
     unfold Kst.look at e
     cases hx:CU F8 b with
     | none =>
      rw[hx] at e
      simp -dsimp (disch:=first|omega|(simp only[go_sem,seval];try omega))only[go_sem,seval]
      rw[e];exact kp
     | some j =>
      rw[hx] at e
      have hj:=Je hx
      have hj:j<22:=hj
      simp -dsimp (disch:=first|omega|(simp only[go_sem,seval];try omega))only[go_sem,seval]
      refine BrW.dec (fun _=>?_) (fun g=>absurd (show(0:Int)≤(j:Int) by omega) g)
      refine OpX.call TS rfl (Calls.ret (Tz w1) ?_)
      rintro v w2 ⟨rfl,hc2⟩
      dsimp only
      rw[ND,PX j hj,Da]
      refine OpX.callV (us:=[]) (cs:=[.pointer (some ⟨w.heap.size+3,0,none⟩),.pointer (some ⟨w.heap.size+1,0,none⟩),.pointer (some ⟨w.heap.size,0,none⟩)]) K1 (DG [_]) (Calls.ret (LF (kp.chg0 hc2) ap (by first|omega|(dsimp only;omega)) (by first|omega|(dsimp only;omega)) a7 a2 n7 n2 _) ?_)
      rintro v w3 k3
      rw[e];exact k3
  ·intro w1 k1
   have e1:(i:Int)+1=((i+1:Nat):Int):=by omega
   simp -dsimp (disch:=first|omega|(simp only[go_sem,seval];try omega))only[go_sem,seval,e1]
   exact hn (i+1) _ ⟨by omega,by rw[hstep];exact k1⟩ (by omega)
 ·have hil:i=l.length:=by omega
  rw[hil,List.take_length] at hS
  simp -dsimp (disch:=first|omega|(simp only[go_sem,seval];try omega))only[go_sem,seval,q7]
  refine OpX.callV (us:=[]) (cs:=[.pointer (some ⟨w.heap.size+2,0,none⟩),.pointer (some ⟨w.heap.size+1,0,none⟩)]) HO (DG []) (Calls.ret (Ij k ap (by omega) (by omega)) ?_)
  rintro v w1 ⟨k1,-⟩
  have eK:S.flush=Bv cop pre l:=by rw[hS];rfl
  rw[eK] at k1
  obtain⟨v5,c5,o5⟩:=k1.h5
  simp -dsimp (disch:=first|omega|(simp only[go_sem,seval];try omega))only[go_sem,seval,c5]
  refine hK _ _ ⟨o5.base_le hc0.size,k1.hs,(hc0.mono (by simp)).trans k1.chg ?_⟩
  simp
end
structure Tp where
 win:Int
 pane:Int
 s:List UInt8
@[go_sem] def Tp.cells (t:Tp):List Value:=[.int .i64 t.win,.int .i64 t.pane,.string (Aq t.s)]
theorem Tp.len (t:Tp):t.cells.length=3:=rfl
theorem Tp.okc (t:Tp):AP t.cells=true:=rfl
structure Ss where
 w:Int
 h:Int
 room:Int
 m:Nat
 mc:Nat
 wins:List Wn
 cur:Int
 cop:Bool
 pre:Bool
 back:Int
 typed:List Tp
 tv:Value
 dis:Int
def Ss.own (s:Nat) (S:Ss) (x:Nat):Prop:=x=s∨x=S.m∨S.tv.ownBlock=some x∨∃W∈S.wins,W.own x
structure SsAt (base:Nat) (w:World) (s:Nat) (S:Ss):Prop where
 hb:w.heap[s]?=some (.cells #[.int .i64 S.w,.int .i64 S.h,.int .i64 S.room,.map (some S.m),.int .i64 S.cur,.bool S.cop,.bool S.pre,.int .i64 S.back,S.tv,.int .i64 S.dis] 80)
 hm:w.heap[S.m]?=some (.map (Ar .i64 (S.wins.map Wn.ent)) S.mc)
 each:∀W∈S.wins,WnAt base w W
 apart:S.wins.Pairwise fun W V=>∀x,W.own x→¬V.own x
 ids:(S.wins.map (·.n)).Nodup
 ho:Ox base w 56 3 Tp.cells S.tv S.typed
 los:base≤s
 lom:base≤S.m
 far:∀W∈S.wins,¬W.own s∧¬W.own S.m
 born:∀W∈S.wins,W.born<S.mc
 bnd:(S.wins.map (·.born)).Nodup
structure Ss.ok (S:Ss) (lim:Int):Prop where
 w0:1≤S.w
 w1:S.w≤200
 h0:2≤S.h
 h1:S.h≤60
 win:∀W∈S.wins,W.ok∧W.L.R=⟨0,0,S.w,S.h-1⟩∧W.L.newest≤lim∧1≤W.n∧W.n≤9
 cur:S.cur∈S.wins.map (·.n)
 back0:0≤S.back
 back1:S.back≤1000
 few:S.typed.length≤100
 dis0:0≤S.dis
 dis1:S.dis≤lim
section
variable {base:Nat} {w w':World} {s:Nat} {S:Ss} {lim:Int}
theorem WnAt.tag {W:Wn} (h:WnAt base w W):∀x,W.own x→(∃c e fr,w.heap[x]?=some (.cells c e fr)∧Nat.beq e 80=false∧Nat.beq e 56=false)∨∃es c,w.heap[x]?=some (.map es c):=by
 rintro x (rfl|rfl|rfl|hx|⟨p,hp,hx⟩)
 ·exact .inl ⟨_,_,_,h.hb,rfl,rfl⟩
 ·exact .inl ⟨_,_,_,h.lay.hb,rfl,rfl⟩
 ·exact .inr ⟨_,_,h.hm⟩
 ·obtain⟨c,fr,e⟩:=h.lay.tree.tag x hx
  exact .inl ⟨_,_,_,e,rfl,rfl⟩
 ·obtain⟨c,e,fr,h1,h2⟩:=(h.each p hp).tag x hx
  refine .inl ⟨c,e,fr,h1,?_,?_⟩
  ·cases he:Nat.beq e 80
   ·rfl
   ·rw[Nat.eq_of_beq_eq_true he] at h2;exact absurd h2 (by decide)
  ·cases he:Nat.beq e 56
   ·rfl
   ·rw[Nat.eq_of_beq_eq_true he] at h2;exact absurd h2 (by decide)
theorem SsAt.tvoff (h:SsAt base w s S):S.tv.ownBlock≠some s∧S.tv.ownBlock≠some S.m∧s≠S.m∧∀W∈S.wins,∀x,W.own x→S.tv.ownBlock≠some x:=by
 refine⟨h.ho.off h.hb rfl,fun e=>?_,fun e=>?_,fun W hW x hx e=>?_⟩
 ·rcases h.ho.2 with ⟨e1,-⟩|⟨g,cap,cur,e1,-,hg,-⟩
  ·rw[e1] at e;simp [Value.ownBlock] at e
  ·rw[e1] at e
   simp only[Value.ownBlock,Option.some.injEq] at e
   subst e
   rw[h.hm] at hg;simp at hg
 ·have:=h.hb
  rw[e,h.hm] at this;simp at this
 ·rcases(h.each W hW).tag x hx with ⟨c,e',fr,h1,-,h3⟩|⟨es,c,h1⟩
  ·exact h.ho.off h1 h3 e
  ·rcases h.ho.2 with ⟨e1,-⟩|⟨g,cap,cur,e1,-,hg,-⟩
   ·rw[e1] at e;simp [Value.ownBlock] at e
   ·rw[e1] at e
    simp only[Value.ownBlock,Option.some.injEq] at e
    subst e
    rw[h1] at hg;simp at hg
theorem SsAt.lt (h:SsAt base w s S):∀x,S.own s x→x<w.heap.size:=by
 rintro x (rfl|rfl|hx|⟨W,hW,hx⟩)
 ·exact Aa h.hb
 ·exact Aa h.hm
 ·obtain⟨-,-,-,-,-,hown,-⟩:=h.ho.form
  exact(hown x hx.symm).2
 ·exact(h.each W hW).lt x hx
theorem SsAt.lo (h:SsAt base w s S):∀x,S.own s x→base≤x:=by
 rintro x (rfl|rfl|hx|⟨W,hW,hx⟩)
 ·exact h.los
 ·exact h.lom
 ·exact h.ho.own_ge x (by simpa using hx)
 ·exact(h.each W hW).lo x hx
theorem SsAt.chg {F:List Nat} (h:SsAt base w s S) (hc:Chg F w w') (hF:∀x∈F,¬S.own s x):SsAt base w' s S :=
 ⟨hc.keep h.hb fun hm=>hF _ hm (.inl rfl),hc.keep h.hm fun hm=>hF _ hm (.inr (.inl rfl)),fun W hW=>(h.each W hW).chg hc fun x hx ho=>hF x hx (.inr (.inr (.inr ⟨W,hW,ho⟩))),h.apart,h.ids,
  h.ho.chg hc fun b hb hm=>hF b hm (.inr (.inr (.inl hb.symm))),h.los,h.lom,h.far,h.born,h.bnd⟩
theorem SsAt.chg0 (h:SsAt base w s S) (hc:Chg [] w w'):SsAt base w' s S:=h.chg hc (by simp)
theorem SsAt.self (h:SsAt base w s S) (hc:Chg [s] w w') {cur:Int} {cop pre:Bool} {back dis x y:Int} (hb:w'.heap[s]?=some (.cells #[.int .i64 x,.int .i64 y,.int .i64 S.room,.map (some S.m),.int .i64 cur,.bool cop,.bool pre,.int .i64 back,S.tv,.int .i64 dis] 80)) :
  SsAt base w' s { S with w:=x,h:=y,cur:=cur,cop:=cop,pre:=pre,back:=back,dis:=dis }∧Trn (S.own s) (({ S with w:=x,h:=y,cur:=cur,cop:=cop,pre:=pre,back:=back,dis:=dis }:Ss).own s) w w':=by
 obtain⟨t1,t2,t3,-⟩:=h.tvoff
 exact⟨⟨hb,hc.keep h.hm (by simpa using fun e=>t3 e.symm),fun W hW=>(h.each W hW).chg hc fun x hx ho=>by simp at hx;subst hx;exact(h.far W hW).1 ho,h.apart,h.ids,h.ho.chg hc fun z e hm=>t1 (by simp at hm;rw[←hm];exact e.symm),h.los,h.lom,h.far,h.born,h.bnd⟩,
  Trn.of hc (by simp;exact .inl rfl) fun x hx=>.inl hx⟩
def AX (l:List Wn) (V:Wn):List Wn:=l.map fun W=>if W.n=V.n then V else W
theorem HM (l:List Wn) (V:Wn):(AX l V).map (·.n)=l.map (·.n):=by
 unfold AX
 rw[List.map_map]
 apply List.map_congr_left
 intro p _
 simp only[Function.comp]
 split
 ·rename_i h;exact h.symm
 ·rfl
theorem Ey {l:List Wn} {V W:Wn} (h:W∈AX l V):W=V∨(W∈l∧W.n≠V.n):=by
 unfold AX at h
 obtain⟨p,hp,rfl⟩:=List.mem_map.1 h
 split
 ·exact .inl rfl
 ·rename_i h;exact .inr ⟨hp,h⟩
theorem Dc {α β:Type} {f:α→β} {l:List α} (hn:(l.map f).Nodup) {x y:α} (hx:x∈l) (hy:y∈l) (he:f x=f y):x=y:=by
 induction l with
 | nil=>simp at hx
 | cons z l ih =>
  rw[List.map_cons,List.nodup_cons] at hn
  rcases List.mem_cons.1 hx with rfl|hx'<;>rcases List.mem_cons.1 hy with rfl|hy'
  ·rfl
  ·exact absurd (List.mem_map.2 ⟨y,hy',he.symm⟩) hn.1
  ·exact absurd (List.mem_map.2 ⟨x,hx',he⟩) hn.1
  ·exact ih hn.2 hx' hy'
theorem Hm {α:Type} (f:Wn→α) {l:List Wn} {W V:Wn} (hW:W∈l) (hn:(l.map (·.n)).Nodup) (hv:V.n=W.n) (he:f V=f W):(AX l V).map f=l.map f:=by
 unfold AX
 rw[List.map_map]
 apply List.map_congr_left
 intro r hr
 simp only[Function.comp]
 split
 ·rename_i h
  rw[Dc hn hr hW (h.trans hv),he]
 ·rfl
theorem SsAt.turn (h:SsAt base w s S) {W V:Wn} (hW:W∈S.wins) (hn:V.n=W.n) (hb:V.b=W.b) (hbo:V.born=W.born) (ht:Trn W.own V.own w w') (hV:WnAt base w' V) (hbase:base≤w.heap.size) :
  SsAt base w' s { S with wins:=AX S.wins V }∧Trn (S.own s) (({ S with wins:=AX S.wins V }:Ss).own s) w w':=by
 obtain⟨t1,t2,t3,t4⟩:=h.tvoff
 have hoth:∀U∈S.wins,U.n≠V.n→∀x,W.own x→¬U.own x:=by
  intro U hU hne x hx hxU
  exact Mu (fun a b hab x hb ha=>hab x ha hb) h.apart hW hU (by rintro rfl;omega) x hx hxU
 have hgrow:∀x,({ S with wins:=AX S.wins V }:Ss).own s x→S.own s x∨w.heap.size≤x:=by
  rintro x (rfl|rfl|hx|⟨U,hU,hx⟩)
  ·exact .inl (.inl rfl)
  ·exact .inl (.inr (.inl rfl))
  ·exact .inl (.inr (.inr (.inl hx)))
  ·rcases Ey hU with rfl|⟨hU,-⟩
   ·exact(ht.grow x hx).imp (fun hx=>.inr (.inr (.inr ⟨W,hW,hx⟩))) id
   ·exact .inl (.inr (.inr (.inr ⟨U,hU,hx⟩)))
 have he:V.ent=W.ent:=by unfold Wn.ent;rw[hn,hb,hbo]
 have hfarW:=h.far W hW
 have ls:=Aa h.hb
 have lm:=Aa h.hm
 refine⟨⟨ht.keep h.hb hfarW.1,?_,fun U hU=>?_,?_,?_,?_,h.los,h.lom,fun U hU=>?_,fun U hU=>?_,?_⟩,⟨?_,hgrow⟩⟩
 ·dsimp only
  rw[Hm Wn.ent hW h.ids hn he]
  exact ht.keep h.hm hfarW.2
 ·rcases Ey hU with rfl|⟨hU,hne⟩
  ·exact hV
  ·exact(h.each U hU).trn ht (hoth U hU hne)
 ·dsimp only[AX]
  refine List.pairwise_map.2 ((List.pairwise_iff_getElem.2 fun i j hi hj hij=>?_))
  have hap:=List.pairwise_iff_getElem.1 h.apart i j hi hj hij
  have hids:S.wins[i].n≠S.wins[j].n:=by
   have:=List.pairwise_iff_getElem.1 (show(S.wins.map (·.n)).Pairwise (·≠·) from h.ids) i j (by simpa using hi) (by simpa using hj) hij
   simpa using this
  have lti:=fun x=>(h.each _ (List.getElem_mem hi)).lt x
  have ltj:=fun x=>(h.each _ (List.getElem_mem hj)).lt x
  by_cases hi':S.wins[i].n=V.n
  ·have hj':¬S.wins[j].n=V.n:=fun e=>hids (by rw[hi',e])
   rw[if_pos hi',if_neg hj']
   intro x hx hxj
   rcases ht.grow x hx with h1|h1
   ·exact hoth _ (List.getElem_mem hj) hj' x h1 hxj
   ·have:=ltj x hxj;omega
  ·rw[if_neg hi']
   by_cases hj':S.wins[j].n=V.n
   ·rw[if_pos hj']
    intro x hxi hx
    rcases ht.grow x hx with h1|h1
    ·exact hoth _ (List.getElem_mem hi) hi' x h1 hxi
    ·have:=lti x hxi;omega
   ·rw[if_neg hj']
    exact hap
 ·dsimp only
  rw[HM]
  exact h.ids
 ·obtain⟨F,hc,hF⟩:=ht.chg
  exact h.ho.chg hc fun b hb hm=>t4 W hW b (hF b hm) hb.symm
 ·rcases Ey hU with rfl|⟨hU,-⟩
  ·exact⟨fun ho=>(ht.grow _ ho).elim hfarW.1 fun h=>by omega,fun ho=>(ht.grow _ ho).elim hfarW.2 fun(h:w.heap.size≤S.m)=>by omega⟩
  ·exact h.far U hU
 ·rcases Ey hU with rfl|⟨hU,-⟩
  ·show U.born<S.mc
   rw[hbo];exact h.born W hW
  ·exact h.born U hU
 ·dsimp only
  rw[Hm (·.born) hW h.ids hn hbo]
  exact h.bnd
 ·obtain⟨F,hc,hF⟩:=ht.chg
  exact⟨F,hc,fun x hx=>.inr (.inr (.inr ⟨W,hW,hF x hx⟩))⟩
end
section
variable {base:Nat} {w w':World} {s:Nat} {S:Ss} {lim:Int}
def Ss.get (S:Ss) (n:Int):Option Wn:=S.wins.find? fun W=>W.ent.1 == n
theorem Ss.get_mem {n:Int} {W:Wn} (h:S.get n=some W):W∈S.wins∧W.n=n:=⟨List.mem_of_find?_eq_some h,by simpa [Wn.ent] using List.find?_some h⟩
theorem Ss.get_none {n:Int}:S.get n=none↔n∉S.wins.map (·.n):=by
 unfold Ss.get
 rw[List.find?_eq_none]
 constructor
 ·intro h hm
  obtain⟨W,hW,e⟩:=List.mem_map.1 hm
  have:=h W hW
  simp [Wn.ent] at this
  exact this e
 ·intro h W hW hm
  exact h (List.mem_map.2 ⟨W,hW,by simpa [Wn.ent] using hm⟩)
theorem Ss.get_some {n:Int} (h:n∈S.wins.map (·.n)):∃W,S.get n=some W:=by
 cases hg:S.get n with
 | none=>exact absurd h (Ss.get_none.1 hg)
 | some W=>exact⟨W,rfl⟩
def Cg (o:Option Wn):Value:=(o.map fun W=>Value.pointer (some ⟨W.b,0,none⟩)).getD (.pointer none)
theorem D9 (S:Ss) (n:Int):(Bo (S.wins.map Wn.ent) n).getD (.pointer none)=Cg (S.get n):=by rw[Fj];unfold Cg Ss.get;cases (S.wins.find? fun W=>W.ent.1 == n)<;>rfl
theorem H7 (h:SsAt base w s S) (n:Int):Calls Tryz.prog 30 #[.pointer (some ⟨s,0,none⟩),.int .i64 n] w (Ac fun v w'=>v=Cg (S.get n)∧w'=w):=by
 have hb:=h.hb
 have hm:=h.hm
 apply Tl
 intro K hK
 unfold Lc
 simp -dsimp (disch:=first|omega|(simp only[go_sem,seval];try omega))only[go_sem,seval,hb,hm,D9]
 exact hK _ _ ⟨rfl,rfl⟩
theorem FW (h:SsAt base w s S):Calls Tryz.prog 13 #[.pointer (some ⟨s,0,none⟩)] w (Ac fun v w'=>v=.int .i64 S.cur∧w'=w):=by
 have hb:=h.hb
 apply VC
 intro K hK
 unfold LJ
 simp -dsimp (disch:=first|omega|(simp only[go_sem,seval];try omega))only[go_sem,seval,hb]
 exact hK _ _ ⟨rfl,rfl⟩
theorem VX (h:SsAt base w s S) {n:Int} {W:Wn} (hg:S.get n=some W) (ok:W.ok):Calls Tryz.prog 14 #[.pointer (some ⟨s,0,none⟩),.int .i64 n] w (Ac fun v w'=>Ox w.heap.size w' 51 5 Ck v (W.L.root.panes W.L.R)∧Chg [] w w'):=by
 have hA:=h.each W (Ss.get_mem hg).1
 have hW:=hA.hb
 apply X5
 intro K hK
 unfold NS
 refine OpX.call IG rfl (Calls.ret (H7 h n) ?_)
 rintro v w1 ⟨rfl,rfl⟩
 rw[hg]
 simp only[Cg,Option.map_some,Option.getD_some]
 simp -dsimp (disch:=first|omega|(simp only[go_sem,seval];try omega))only[go_sem,seval,hW]
 refine OpX.call Gb rfl (Calls.ret (Fp hA.lay ok.lay) ?_)
 exact fun v w2 h=>hK _ _ h
theorem Hh (h:SsAt base w s S) (hl:S.wins.length≤1000):Calls Tryz.prog 16 #[.pointer (some ⟨s,0,none⟩)] w (Ac fun v w'=>∃ks,ks.Perm (S.wins.map (·.n))∧B8 ks∧Ox w.heap.size w' 3 1 Cs v ks∧Chg [] w w'):=by
 have hb:=h.hb
 have hm:=h.hm
 have e1:(S.wins.map Wn.ent).map (·.1)=S.wins.map (·.n):=by simp [Wn.ent,Function.comp_def]
 have e2:(S.wins.map Wn.ent).map ebo=S.wins.map (·.born):=by simp [Wn.ent,ebo,Function.comp_def]
 apply Qp
 intro K hK
 unfold MO
 simp -dsimp (disch:=first|omega|(simp only[go_sem,seval];try omega))only[go_sem,seval,hb]
 refine OpX.call Ys rfl (Calls.ret (Qr hm) ?_)
 rintro v w1 ⟨rfl,p1,hc1⟩
 refine OpX.call YY rfl (Calls.ret (XD p1 (hc1.keep hm (by simp)) (fun x hx=>by obtain⟨y,hy,rfl⟩:=List.mem_map.1 hx;exact h.born y hy) (by rw[e2];exact h.bnd) (by simp;omega) (by rw[e1];exact h.ids)) ?_)
 rintro v w2 ⟨ks,k1,k2,k3,k4⟩
 exact hK _ _ ⟨ks,by rw[←e1];exact k1,k2,k3.base_le hc1.size,hc1.trans0 k4⟩
def Cv (ks:List Int) (cur d:Int):Int:=match ks.findIdx? (· == cur) with
 | none=>cur
 | some i=>ks.getD (((i:Int)+d+ks.length).toNat % ks.length) 0
theorem GP (h:SsAt base w s S) (hl:S.wins.length≤1000) (hc:S.cur∈S.wins.map (·.n)) (d:Int) (d0:-1≤d) (d1:d≤1):Calls Tryz.prog 98 #[.pointer (some ⟨s,0,none⟩),.int .i64 d] w
  (Ac fun v w'=>∃ks,ks.Perm (S.wins.map (·.n))∧B8 ks∧v=.int .i64 (Cv ks S.cur d)∧Cv ks S.cur d∈S.wins.map (·.n)∧Chg [] w w'):=by
 apply P3
 intro K hK
 unfold MJ
 refine OpX.call Hz rfl (Calls.ret (Hh h hl) ?_)
 rintro v w1 ⟨ks,k1,k2,k3,hc1⟩
 obtain⟨a,cap,rfl,-,hs,-,-⟩:=k3.form
 have hkl:ks.length≤1000:=by rw[k1.length_eq,List.length_map];exact hl
 have hb1:=hc1.keep h.hb (by simp)
 simp -dsimp (disch:=first|omega|(simp only[go_sem,seval];try omega))only[go_sem,seval]
 refine Loop1.st (fun q:Nat=>.int .i64 (q:Int)) (fun q w'=>q≤ks.length∧w'=w1∧∀j,j<q→ks[j]?≠some S.cur) (fun q=>ks.length-q) 0 rfl ⟨by simp,rfl,by simp⟩ ?_
 rintro next i wi hn ⟨hi,rfl,hne⟩
 simp -dsimp (disch:=first|omega|(simp only[go_sem,seval];try omega))only[go_sem,seval]
 refine BrW.dec (fun g=>?_) (fun g=>?_)
 ·have hi':i<ks.length:=by omega
  obtain⟨b,o,rfl,hbl,hcell⟩:=hs.get1 (g:=fun n=>.int .i64 n) (fun _=>rfl) (List.getElem?_eq_getElem hi')
  have hki:ks[i]?=some ks[i]:=List.getElem?_eq_getElem hi'
  generalize ks[i]=x at *
  simp -dsimp (disch:=first|omega|(simp only[go_sem,seval];try omega))only[go_sem,seval,hcell,hb1]
  refine BrW.dec (fun g2=>?_) (fun g2=>?_)
  ·have hpos:(0:Int)≤(i:Int)+d+ks.length:=by omega
   obtain⟨m,hm⟩:=Int.eq_ofNat_of_zero_le hpos
   have hk:m % ks.length<ks.length:=Nat.mod_lt _ (by omega)
   obtain⟨b2,o2,e2,hbl2,hcell2⟩:=hs.get1 (g:=fun n=>.int .i64 n) (fun _=>rfl) (List.getElem?_eq_getElem hk)
   simp only[Option.some.injEq,Addr.mk.injEq,and_true] at e2
   obtain⟨rfl,rfl⟩:=e2
   have em:=K4 m ks.length ((i:Int)+d+ks.length) hm
   have hfi:ks.findIdx? (· == S.cur)=some i:=by
    rw[List.findIdx?_eq_some_iff_getElem]
    obtain⟨hlt,hv⟩:=List.getElem?_eq_some_iff.1 hki
    refine⟨hlt,by simp [hv,g2],fun j hj=>?_⟩
    have:=hne j hj
    rw[List.getElem?_eq_getElem (by omega)] at this
    simpa using this
   have hbe:Cv ks S.cur d=ks[m % ks.length]:=by
    unfold Cv
    rw[hfi]
    dsimp only
    rw[hm,Int.toNat_natCast,List.getD_eq_getElem?_getD,List.getElem?_eq_getElem hk]
    rfl
   simp -dsimp (disch:=first|omega|(simp only[go_sem,seval];try omega))only[go_sem,seval,em,hcell2]
   exact hK _ _ ⟨ks,k1,k2,by rw[hbe],by rw[hbe];exact k1.mem_iff.1 (List.getElem_mem hk),hc1⟩
  ·have e1:(i:Int)+1=((i+1:Nat):Int):=by omega
   simp -dsimp (disch:=first|omega|(simp only[go_sem,seval];try omega))only[go_sem,seval,e1]
   refine hn (i+1) _ ⟨by omega,rfl,fun j hj=>?_⟩ (by omega)
   rcases Nat.lt_or_ge j i with h1|h1
   ·exact hne j h1
   ·have:j=i:=by omega
    subst this
    rw[hki]
    simpa using g2
 ·have hil:i=ks.length:=by omega
  have hmem:S.cur∈ks:=k1.mem_iff.2 hc
  obtain⟨j,hj,e⟩:=List.mem_iff_getElem.1 hmem
  exact absurd (by rw[List.getElem?_eq_getElem hj,e]) (hne j (by omega))
theorem Zg {W:Wn} {p:Pt} (h:WnAt base w W) (hp:p∈W.pts):(W.pts.find? fun q=>q.ent.1 == p.id)=some p:=by
 cases hf:W.pts.find? fun q=>q.ent.1 == p.id with
 | none =>
  have:=List.find?_eq_none.1 hf p hp
  simp [Pt.ent] at this
 | some q =>
  obtain⟨h1,h2⟩:=Hx hf
  rw[Dc h.ids h1 hp h2]
theorem Sd {W:Wn} (ok:W.ok):∃p∈W.pts,p.id=W.active:=by
 obtain⟨p,hp,e⟩:=List.mem_map.1 ((ok.has W.active).2 ok.act)
 exact⟨p,hp,e⟩
theorem F0 (h:SsAt base w s S):Calls Tryz.prog 93 #[.pointer (some ⟨s,0,none⟩)] w (Ac fun _ w'=>SsAt base w' s { S with cop:=false,back:=0 }∧Trn (S.own s) (S.own s) w w'):=by
 have hb:=h.hb
 have lb:=Aa hb
 apply Uy
 intro K hK
 unfold JY
 simp -dsimp (disch:=first|omega|(simp only[go_sem,seval];try omega))only[go_sem,seval]
 have hr:Calls Tryz.prog 132 #[.pointer (some ⟨s,5,none⟩)] w (Ac fun v w'=>w'=Ab w s (.cells #[.int .i64 S.w,.int .i64 S.h,.int .i64 S.room,.map (some S.m),.int .i64 S.cur,.bool false,.bool S.pre,.int .i64 S.back,S.tv,.int .i64 S.dis] 80)):=by
  apply TY
  intro K hK
  unfold JL
  simp -dsimp (disch:=first|omega|(simp only[go_sem,seval];try omega))only[go_sem,seval,hb]
  exact hK _ _ rfl
 refine OpX.call Ye rfl (Calls.ret (hr) ?_)
 rintro v w1 rfl
 have hb1:=Au w s (.cells #[.int .i64 S.w,.int .i64 S.h,.int .i64 S.room,.map (some S.m),.int .i64 S.cur,.bool false,.bool S.pre,.int .i64 S.back,S.tv,.int .i64 S.dis] 80) s rfl lb
 simp -dsimp (disch:=first|omega|(simp only[go_sem,seval];try omega))only[go_sem,seval,hb1]
 have hc:Chg [s] w (Ab w s (.cells #[.int .i64 S.w,.int .i64 S.h,.int .i64 S.room,.map (some S.m),.int .i64 S.cur,.bool false,.bool S.pre,.int .i64 0,S.tv,.int .i64 S.dis] 80)):=(Chg.refl _ _).set _ _ (by simp)
 exact hK _ _ (h.self hc (Au _ _ _ _ rfl lb))
theorem FL (h:SsAt base w s S) (n:Int):Calls Tryz.prog 97 #[.pointer (some ⟨s,0,none⟩),.int .i64 n] w (Ac fun _ w'=>SsAt base w' s { S with cur:=n,cop:=false,back:=0 }∧Trn (S.own s) (S.own s) w w'):=by
 have hb:=h.hb
 have lb:=Aa hb
 apply W7
 intro K hK
 unfold I0
 simp -dsimp (disch:=first|omega|(simp only[go_sem,seval];try omega))only[go_sem,seval,hb]
 have hc:Chg [s] w (Ab w s (.cells #[.int .i64 S.w,.int .i64 S.h,.int .i64 S.room,.map (some S.m),.int .i64 n,.bool S.cop,.bool S.pre,.int .i64 S.back,S.tv,.int .i64 S.dis] 80)):=(Chg.refl _ _).set _ _ (by simp)
 obtain⟨h1,t1⟩:=h.self hc (Au _ _ _ _ rfl lb)
 refine OpX.call Fz rfl (Calls.ret (F0 h1) ?_)
 rintro v w1 ⟨h2,t2⟩
 exact hK _ _ ⟨h2,t1.trans t2⟩
theorem O3 (h:SsAt base w s S) {W:Wn} (hg:S.get S.cur=some W) (ok:W.ok) (d:Int) (b0:0≤S.back) (b1:S.back≤1000) (d0:-100000≤d) (d1:d≤100000):Calls Tryz.prog 58 #[.pointer (some ⟨s,0,none⟩),.int .i64 d] w
  (Ac fun _ w'=>∃b:Int,0≤b∧b≤1000∧(S.back+d≤0→b=0)∧SsAt base w' s { S with back:=b }∧Trn (S.own s) (S.own s) w w'):=by
 have hA:=h.each W (Ss.get_mem hg).1
 obtain⟨p,hp,hpa⟩:=Sd ok
 have hb:=h.hb
 have hm:=h.hm
 have lb:=Aa hb
 have hgf:(Bo (S.wins.map Wn.ent) S.cur).getD (.pointer none)=.pointer (some ⟨W.b,0,none⟩):=by rw[D9,hg];rfl
 have hW:=hA.hb
 apply VD
 intro K hK
 unfold OL
 simp -dsimp (disch:=first|omega|(simp only[go_sem,seval];try omega))only[go_sem,seval,hb,hm,hgf,hW]
 have hA0:=hA.chg0 (show Chg [] w w.drew.drew from(Chg.refl _ _).drew.drew)
 have ht:=I5 hA0 W.active
 rw[←hpa,Zg hA0 hp] at ht
 simp only[Option.map_some,Option.getD_some] at ht
 rw[←hpa]
 refine OpX.call Iq rfl (Calls.ret (ht) ?_)
 rintro v w1 ⟨rfl,rfl⟩
 simp -dsimp (disch:=first|omega|(simp only[go_sem,seval];try omega))only[go_sem,seval,hb]
 refine OpX.call Py rfl (Calls.ret (Vd (hA0.each p hp).1) ?_)
 rintro v w2 ⟨rfl,hc2⟩
 have hc2:Chg [] w w2:=hc2.low_drew.low_drew
 have hb2:=hc2.keep hb (by simp)
 have lb2:=Aa hb2
 have hrows:p.G.list.length≤500:=by
  have h1:=(hA0.each p hp).1.his.fit
  have h2:=(hA0.each p hp).1.his.room1
  rw[p.G.list_len]
  omega
 simp -dsimp (disch:=first|omega|(simp only[go_sem,seval];try omega))only[go_sem,seval,hb2]
 obtain⟨b,hbb⟩:∃b:Int,b=min (max (S.back+d) 0) (p.G.list.length:Int):=⟨_,rfl⟩
 rw[←hbb]
 have hc:Chg [s] w2 (Ab w2 s (.cells #[.int .i64 S.w,.int .i64 S.h,.int .i64 S.room,.map (some S.m),.int .i64 S.cur,.bool S.cop,.bool S.pre,.int .i64 b,S.tv,.int .i64 S.dis] 80)):=(Chg.refl _ _).set _ _ (by simp)
 obtain⟨h1,t1⟩:=(h.chg0 hc2).self hc (Au _ _ _ _ rfl lb2)
 exact hK _ _ ⟨b,by omega,by omega,by omega,h1,(Trn.of0 hc2 fun _ h=>.inl h).trans t1⟩
end
section
variable {base:Nat} {w w' w'':World} {s:Nat} {S:Ss} {lim:Int}
theorem SsAt.retype {F:List Nat} {tv:Value} {l:List Tp} (h:SsAt base w s S) (hc:Chg F w w') (hF:∀x∈F,x=s∨S.tv.ownBlock=some x∨w.heap.size≤x)
  (hb:w'.heap[s]?=some (.cells #[.int .i64 S.w,.int .i64 S.h,.int .i64 S.room,.map (some S.m),.int .i64 S.cur,.bool S.cop,.bool S.pre,.int .i64 S.back,tv,.int .i64 S.dis] 80)) (ho:Ox base w' 56 3 Tp.cells tv l)
  (hn:∀x,tv.ownBlock=some x→S.tv.ownBlock=some x∨w.heap.size≤x):SsAt base w' s { S with typed:=l,tv:=tv }∧Trn (S.own s) (({ S with typed:=l,tv:=tv }:Ss).own s) w w':=by
 obtain⟨t1,t2,t3,t4⟩:=h.tvoff
 refine⟨⟨hb,hc.keep h.hm fun hm=>?_,fun W hW=>(h.each W hW).chg hc fun x hx ho=>?_,h.apart,h.ids,ho,h.los,h.lom,h.far,h.born,h.bnd⟩,Trn.low hc (fun x hx=>?_) fun x hx=>?_⟩
 ·rcases hF _ hm with h1|h1|h1
  ·exact t3 h1.symm
  ·exact t2 h1
  ·have h1:w.heap.size≤S.m:=h1
   have:=Aa h.hm;omega
 ·rcases hF _ hx with rfl|h1|h1
  ·exact(h.far W hW).1 ho
  ·exact t4 W hW x ho h1
  ·have:=(h.each W hW).lt x ho;omega
 ·rcases hF x hx with h1|h1|h1
  ·exact .inl (.inl h1)
  ·exact .inl (.inr (.inr (.inl h1)))
  ·exact .inr h1
 ·rcases hx with h1|h1|h1|h1
  ·exact .inl (.inl h1)
  ·exact .inl (.inr (.inl h1))
  ·exact(hn x h1).imp (fun h=>.inr (.inr (.inl h))) id
  ·exact .inl (.inr (.inr (.inr h1)))
def BE (l:List Tp):List Tp:=l.drop (l.length-100)
theorem Ov (l:List Tp):(BE l).length≤100:=by unfold BE;rw[List.length_drop];omega
theorem YC (h:SsAt base w s S) (few:S.typed.length≤100) (hbase:base≤w.heap.size) (t:Tp):Calls Tryz.prog 91 #[.pointer (some ⟨s,0,none⟩),.agg #[.int .i64 t.win,.int .i64 t.pane,.string (Aq t.s)]] w
  (Ac fun _ w'=>∃tv,SsAt base w' s { S with typed:=BE (S.typed++[t]),tv:=tv }∧Trn (S.own s) (({ S with typed:=BE (S.typed++[t]),tv:=tv }:Ss).own s) w w'):=by
 have hb:=h.hb
 have ls:=Aa hb
 obtain⟨a0,c0,e0,hle0,hs0,hown0,-⟩:=h.ho.form
 have t1:=h.tvoff.1
 apply ZC
 intro K hK
 unfold L1
 simp -dsimp (disch:=first|omega|(simp only[go_sem,seval];try omega))only[go_sem,seval,hb]
 refine OpX.gen fun w1 hw1=>?_
 have hc1:Chg [] w w1:=by rw[hw1];(repeat (first|exact Chg.refl _ _|apply Chg.drew|apply Chg.alloc|(refine Chg.set ?_ _ _ (by first|(left;simp;done)|(right;omega)))))
 have hsa:Sx w1 (some 56) Tp.cells (some ⟨w.heap.size+1,0,none⟩) [t]:=Sx.built (c:=t.cells) (by rw[hw1];simp only[Tp.cells];simp -dsimp (disch:=first|omega|(simp only[go_sem,seval];try omega))only[go_sem,seval]) (by simp)
 clear hw1
 have h1:=h.chg0 hc1
 refine BL KT Tp.len Tp.okc h1.ho hsa rfl (by rw[List.length_singleton];omega) (by omega) (by have:=hc1.size;omega) ?_
 intro v2 w2 ho2 hc2 hown2
 have hc12:Chg S.tv.ownBlock.toList w w2:=(hc1.mono (by simp)).trans hc2 (fun x hx=>.inl hx)
 have hb2:=hc2.keep h1.hb (by simpa using t1)
 have ls2:=Aa hb2
 obtain⟨a2,c2,rfl,hle2,hs2,-,hfst⟩:=ho2.form
 obtain⟨g2,rfl,-,hg2⟩:=hfst (by simp)
 have hz1:=hc1.size
 have hn2:∀x,(Value.slice (some ⟨g2,0,none⟩) (S.typed++[t]).length c2).ownBlock=some x→S.tv.ownBlock=some x∨w.heap.size≤x:=by
  intro x hx
  rcases hown2 with e|e
  ·exact .inl (by rw[←e];exact hx)
  ·rw[e] at hx;cases hx;exact .inr hz1
 generalize hl:S.typed++[t]=l at *
 have hlen:l.length≤101:=by rw[←hl];simp;omega
 simp -dsimp (disch:=first|omega|(simp only[go_sem,seval];try omega))only[go_sem,seval,hb2]
 refine BrW.dec (fun g=>?_) (fun g=>?_)
 ·obtain⟨m,hm⟩:∃m:Nat,(l.length:Int)-100=m:=⟨l.length-100,by omega⟩
  simp -dsimp (disch:=first|omega|(simp only[go_sem,seval];try omega))only[go_sem,seval,hb2,hm]
  refine OpX.gen fun w3 hw3=>?_
  have hc3:Chg [s] w2 w3:=by rw[hw3];exact((Chg.refl _ _).set _ _ (by simp)).drew
  have hb3:w3.heap[s]?=some (.cells #[.int .i64 S.w,.int .i64 S.h,.int .i64 S.room,.map (some S.m),.int .i64 S.cur,.bool S.cop,.bool S.pre,.int .i64 S.back,.slice (some ⟨g2,0,none⟩) l.length c2,.int .i64 S.dis] 80):=by rw[hw3];exact Au _ _ _ _ rfl ls2
  clear hw3
  have hs3:Sx w3 (some 56) Tp.cells (some ⟨g2,0,none⟩) l:=hs2.chg hc3 fun b o e hne hm=>by
   simp only[Option.some.injEq,Addr.mk.injEq,and_true] at e
   simp only[List.mem_singleton] at hm
   exact hs2.ne rfl hne hb2 rfl (e.1.trans hm)
  have hsub:=hs3.sub Tp.len m (l.length-m) (some ⟨g2,slo 0 c2 m 3,none⟩) (.inr (.inr (by unfold slo;rw[if_neg (by omega)])))
  have hz3:=hc3.size
  have hz2:=hc2.size
  have ecap:BE l=(l.drop m).take (l.length-m):=by unfold BE;rw[show l.length-100=m by omega,List.take_of_length_le (by rw[List.length_drop];omega)]
  rw[←ecap] at hsub
  have el:l.length-m=(BE l).length:=by unfold BE;rw[List.length_drop];omega
  have hcl:=Ov l
  refine BL KT Tp.len Tp.okc (Ox.nil w.heap.size w3 56 3 Tp.cells) hsub el (by simp;omega) (by omega) (by omega) ?_
  intro v4 w4 ho4 hc4 hown4
  rw[List.nil_append] at ho4
  obtain⟨a4,c4,rfl,-,-,-,-⟩:=ho4.form
  have hc4:Chg [] w3 w4:=hc4
  have hb4:=hc4.keep hb3 (by simp)
  have ls4:=Aa hb4
  simp -dsimp (disch:=first|omega|(simp only[go_sem,seval];try omega))only[go_sem,seval,hb4]
  obtain⟨w5,hw5⟩:∃w5,w5=Ab w4 s (.cells #[.int .i64 S.w,.int .i64 S.h,.int .i64 S.room,.map (some S.m),.int .i64 S.cur,.bool S.cop,.bool S.pre,.int .i64 S.back,.slice a4 (BE l).length c4,.int .i64 S.dis] 80):=⟨_,rfl⟩
  have hc5:Chg [s] w4 w5:=by rw[hw5];exact(Chg.refl _ _).set _ _ (by simp)
  have hb5:w5.heap[s]?=some (.cells #[.int .i64 S.w,.int .i64 S.h,.int .i64 S.room,.map (some S.m),.int .i64 S.cur,.bool S.cop,.bool S.pre,.int .i64 S.back,.slice a4 (BE l).length c4,.int .i64 S.dis] 80):=by rw[hw5];exact Au _ _ _ _ rfl ls4
  rw[←hw5]
  have ho5:Ox w.heap.size w5 56 3 Tp.cells (.slice a4 (BE l).length c4) (BE l):=ho4.chg hc5 fun b hbb hm=>ho4.off hb4 rfl (by simp at hm;rw[←hm];exact hbb.symm)
  refine hK _ _ ⟨.slice a4 (BE l).length c4,h.retype (F:=s::S.tv.ownBlock.toList) ((((hc12.mono (fun x hx=>.inl (by simp at hx ⊢;exact .inr hx))).trans hc3 (by simp)).trans0 hc4).trans hc5 (by simp)) ?_ hb5 (ho5.base_le hbase) ?_⟩
  ·rintro x hx
   rcases List.mem_cons.1 hx with h9|h9
   ·exact .inl h9
   ·exact .inr (.inl (by simpa using h9))
  ·intro x hx
   exact .inr (ho5.own_ge x (by simpa using hx))
 ·have e:BE l=l:=by unfold BE;rw[show l.length-100=0 by omega];rfl
  rw[←e] at ho2 hn2
  have hc3:Chg [s] w2 (Ab w2 s (.cells #[.int .i64 S.w,.int .i64 S.h,.int .i64 S.room,.map (some S.m),.int .i64 S.cur,.bool S.cop,.bool S.pre,.int .i64 S.back,.slice (some ⟨g2,0,none⟩) l.length c2,.int .i64 S.dis] 80)):=(Chg.refl _ _).set _ _ (by simp)
  refine hK _ _ ⟨.slice (some ⟨g2,0,none⟩) l.length c2,h.retype (F:=s::S.tv.ownBlock.toList) ((hc12.mono (fun x hx=>.inl (by simp at hx ⊢;exact .inr hx))).trans hc3 (by simp)) ?_ (Au _ _ _ _ rfl ls2) (by rw[e] at ho2 ⊢;exact ho2.chg hc3 fun b hbb hm=>ho2.off hb2 rfl (by simp at hm;rw[←hm];exact hbb.symm)) (by rw[e] at hn2;exact hn2)⟩
  rintro x hx
  rcases List.mem_cons.1 hx with h9|h9
  ·exact .inl h9
  ·exact .inr (.inl (by simpa using h9))
theorem WnAt.base_le {base':Nat} {W:Wn} (h:WnAt base w W) (hb:base'≤base):WnAt base' w W :=
 ⟨h.hb,h.lay,h.hm,fun p hp=>⟨(h.each p hp).1.base_le hb,(h.each p hp).2⟩,h.apart,h.ids,fun x hx=>Nat.le_trans hb (h.lo x hx)⟩
theorem SsAt.addWin (h:SsAt base w s S) {w1:World} (hc:Chg [] w w1) {V:Wn} (hV:WnAt base w1 V) (hnew:∀x,V.own x→w.heap.size≤x) (hborn:V.born=S.mc) (hn:V.n∉S.wins.map (·.n)) (hbase:base≤w.heap.size) :
  SsAt base (Ab w1 S.m (.map (Ar .i64 (S.wins.map Wn.ent++[V.ent])) (S.mc+1))) s { S with wins:=S.wins++[V],mc:=S.mc+1 }∧Trn (S.own s) (({ S with wins:=S.wins++[V],mc:=S.mc+1 }:Ss).own s) w (Ab w1 S.m (.map (Ar .i64 (S.wins.map Wn.ent++[V.ent])) (S.mc+1))):=by
 obtain⟨t1,t2,t3,t4⟩:=h.tvoff
 have h1:=h.chg0 hc
 have lm:=Aa h.hm
 have ls:=Aa h.hb
 have hcs:Chg [S.m] w1 (Ab w1 S.m (.map (Ar .i64 (S.wins.map Wn.ent++[V.ent])) (S.mc+1))):=(Chg.refl _ _).set _ _ (by simp)
 have hm2:=Au w1 S.m (.map (Ar .i64 (S.wins.map Wn.ent++[V.ent])) (S.mc+1)) S.m rfl (Aa h1.hm)
 refine⟨⟨hcs.keep h1.hb (by simpa using t3),?_,fun U hU=>?_,?_,?_,?_,h.los,h.lom,fun U hU=>?_,fun U hU=>?_,?_⟩,Trn.of ((hc.mono (by simp)).trans hcs (fun x hx=>.inl hx)) (by simp;exact .inr (.inl rfl)) ?_⟩
 ·dsimp only
  rw[List.map_append]
  exact hm2
 ·rcases List.mem_append.1 hU with hU|hU
  ·exact(h1.each U hU).chg hcs fun x hx ho=>by simp at hx;subst hx;exact(h.far U hU).2 ho
  ·simp at hU;subst hU
   exact hV.chg hcs fun x hx ho=>by simp at hx;subst hx;have:=hnew _ ho;omega
 ·dsimp only
  rw[List.pairwise_append]
  refine⟨h.apart,by simp,fun a ha b hb x hxa hxb=>?_⟩
  simp at hb;subst hb
  have:=hnew x hxb
  have:=(h.each a ha).lt x hxa
  omega
 ·dsimp only
  rw[List.map_append,List.nodup_append]
  exact⟨h.ids,by simp,fun a ha b hb=>by simp at hb;subst hb;rintro rfl;exact hn ha⟩
 ·exact h1.ho.chg hcs fun b hb hm=>t2 (by simp at hm;rw[←hm];exact hb.symm)
 ·rcases List.mem_append.1 hU with hU|hU
  ·exact h.far U hU
  ·simp at hU;subst hU
   exact⟨fun ho=>by have:=hnew _ ho;omega,fun ho=>by have h9:w.heap.size≤S.m:=hnew _ ho;omega⟩
 ·show U.born<S.mc+1
  rcases List.mem_append.1 hU with hU|hU
  ·have:=h.born U hU;omega
  ·simp at hU;subst hU;omega
 ·dsimp only
  rw[List.map_append,List.nodup_append]
  exact⟨h.bnd,by simp,fun a ha b hb=>by simp at hb;subst hb;rintro rfl;obtain⟨U,hU,e⟩:=List.mem_map.1 ha;have:=h.born U hU;omega⟩
 ·rintro x (rfl|rfl|hx|⟨r,hr,hx⟩)
  ·exact .inl (.inl rfl)
  ·exact .inl (.inr (.inl rfl))
  ·exact .inl (.inr (.inr (.inl hx)))
  ·rcases List.mem_append.1 hr with hr|hr
   ·exact .inl (.inr (.inr (.inr ⟨r,hr,hx⟩)))
   ·simp at hr;subst hr;exact .inr (hnew x hx)
theorem SsAt.less (h:SsAt base w s S) {l:List Wn} (hs:List.Sublist l S.wins) (hc:Chg [S.m] w w') (hm:w'.heap[S.m]?=some (.map (Ar .i64 (l.map Wn.ent)) S.mc)):SsAt base w' s { S with wins:=l }∧Trn (S.own s) (({ S with wins:=l }:Ss).own s) w w':=by
 obtain⟨t1,t2,t3,t4⟩:=h.tvoff
 exact⟨⟨hc.keep h.hb (by simpa using t3),hm,fun W hW=>(h.each W (hs.subset hW)).chg hc fun x hx ho=>by simp at hx;subst hx;exact(h.far W (hs.subset hW)).2 ho,h.apart.sublist hs,h.ids.sublist (hs.map _),
  h.ho.chg hc fun b hb hm=>t2 (by simp at hm;rw[←hm];exact hb.symm),h.los,h.lom,fun W hW=>h.far W (hs.subset hW),fun W hW=>h.born W (hs.subset hW),h.bnd.sublist (hs.map _)⟩,
  Trn.of hc (by simp;exact .inr (.inl rfl)) fun x hx=>.inl (by
   rcases hx with h1|h1|h1|⟨W,hW,h1⟩
   ·exact .inl h1
   ·exact .inr (.inl h1)
   ·exact .inr (.inr (.inl h1))
   ·exact .inr (.inr (.inr ⟨W,hs.subset hW,h1⟩)))⟩
theorem TK (h:SsAt base w s S) (ok:S.ok lim) (hbase:base≤w.heap.size):Calls Tryz.prog 96 #[.pointer (some ⟨s,0,none⟩)] w
  (Ac fun v w'=>(v=.nilIface∧∃(V:Wn) (n:Nat),1≤n∧n≤9∧V.n=n∧(n:Int)∉S.wins.map (·.n)∧(∀j:Nat,1≤j→j<n→(j:Int)∈S.wins.map (·.n))∧V.ok∧V.active=1∧V.L.R=⟨0,0,S.w,S.h-1⟩∧V.L.newest=1∧(∃t,V.L.root=.pane t 1)∧V.room=S.room ∧
    SsAt base w' s { S with wins:=S.wins++[V],mc:=S.mc+1,cur:=n,cop:=false,back:=0 }∧Trn (S.own s) (({ S with wins:=S.wins++[V],mc:=S.mc+1,cur:=n,cop:=false,back:=0 }:Ss).own s) w w') ∨
   (v=Ax 15∧(∀j:Nat,1≤j→j≤9→(j:Int)∈S.wins.map (·.n))∧w'=w)):=by
 have hb:=h.hb
 have hm:=h.hm
 apply Rm
 intro K hK
 unfold Ln
 refine Loop1.st (fun q:Nat=>.int .i64 (q:Int)) (fun q w'=>1≤q∧q≤10∧w'=w∧∀j:Nat,1≤j→j<q→(j:Int)∈S.wins.map (·.n)) (fun q=>10-q) 1 rfl ⟨by omega,by omega,rfl,by omega⟩ ?_
 rintro next i wi hn ⟨i1,i2,rfl,hall⟩
 simp -dsimp (disch:=first|omega|(simp only[go_sem,seval];try omega))only[go_sem,seval]
 refine BrW.dec (fun g=>?_) (fun g=>?_)
 ·simp -dsimp (disch:=first|omega|(simp only[go_sem,seval];try omega))only[go_sem,seval,hb,hm,D9]
  cases hg:S.get i with
  | some W =>
   have hin:(i:Int)∈S.wins.map (·.n):=List.mem_map.2 ⟨W,(Ss.get_mem hg).1,(Ss.get_mem hg).2⟩
   have e1:(i:Int)+1=((i+1:Nat):Int):=by omega
   simp -dsimp (disch:=first|omega|(simp only[go_sem,seval];try omega))only[go_sem,seval,Cg,e1]
   exact hn (i+1) _ ⟨by omega,by omega,rfl,fun j h1 h2=>by
    rcases Nat.lt_or_ge j i with h3|h3
    ·exact hall j h1 h3
    ·rw[show j=i by omega];exact hin⟩ (by omega)
  | none =>
   have hin:=Ss.get_none.1 hg
   have w0:=ok.w0
   have w1:=ok.w1
   have h0:=ok.h0
   have h1:=ok.h1
   simp -dsimp (disch:=first|omega|(simp only[go_sem,seval];try omega))only[go_sem,seval,Cg,hb,Option.map_none,Option.getD_none]
   refine OpX.call Ma rfl (Calls.ret (LX _ S.w (S.h-1) S.room w0 w1 (by omega) (by omega)) ?_)
   rintro v w1 ⟨V0,rfl,hV,vok,v1,v2,v3,v4,v5,hc1⟩
   have hc1:Chg [] wi w1:=hc1.low_drew
   have hz0:(World.drew wi).heap.size=wi.heap.size:=rfl
   rw[hz0] at hV
   have hb1:=hc1.keep hb (by simp)
   have hm1:=hc1.keep hm (by simp)
   have hlf:Bo (S.wins.map Wn.ent) i=none:=by
    rw[Fj]
    unfold Ss.get at hg
    rw[hg];rfl
   have hpc:CT (S.wins.map Wn.ent) i S.mc=S.mc+1:=by unfold CT;rw[hlf];rfl
   simp -dsimp (disch:=first|omega|(simp only[go_sem,seval];try omega))only[go_sem,seval,hb1,hm1,Hg hlf,hpc]
   obtain⟨V,hVe⟩:∃V:Wn,V={ V0 with n:=i,born:=S.mc }:=⟨_,rfl⟩
   have hV':WnAt wi.heap.size w1 V:=by rw[hVe];exact⟨hV.hb,hV.lay,hV.hm,hV.each,hV.apart,hV.ids,hV.lo⟩
   have vok':V.ok:=by rw[hVe];exact⟨vok.lay,vok.act,vok.has,vok.size⟩
   obtain⟨A1,T1⟩:=h.addWin hc1 (hV'.base_le hbase) (fun x hx=>hV'.lo x hx) (by rw[hVe]) (by rw[hVe];exact hin) hbase
   rw[show V.ent=((i:Int),Value.pointer (some ⟨V0.b,0,none⟩),S.mc) by rw[hVe];rfl] at A1 T1
   refine OpX.call Fy rfl (Calls.ret (FL A1 i) ?_)
   rintro v w2 ⟨A2,T2⟩
   refine hK _ _ (.inl ⟨rfl,V,i,i1,by omega,by rw[hVe],hin,hall,vok',by rw[hVe];exact v1,by rw[hVe];exact v3,by rw[hVe];exact v4,by rw[hVe];exact v5,by rw[hVe];exact v2,A2,T1.trans T2⟩)
 ·refine OpX.call BX rfl (Calls.ret (BV _ 15) ?_)
  rintro v w1 ⟨rfl,rfl⟩
  exact hK _ _ (.inr ⟨rfl,fun j h1 h2=>hall j h1 (by omega),rfl⟩)
end
theorem YJ {l:List Int} (hn:l.Nodup) {i j:Nat} (hi:i<l.length) (hj:j<l.length) (e:l[i]=l[j]):i=j:=by
  have h:=List.pairwise_iff_getElem.1 (show l.Pairwise (·≠·) from hn)
  rcases Nat.lt_trichotomy i j with h1|h1|h1
  · exact absurd e (h i j hi hj h1)
  · exact h1
  · exact absurd e.symm (h j i hj hi h1)
theorem Ld:∀(k:Nat) {l:List Int},l.Nodup→(∀x∈l,1≤x∧x≤k)→l.length≤k
  | 0,l,_,hb=>by
    cases l with
    | nil=>simp
    | cons x l=>have:=hb x (by simp);omega
  | k+1,l,hn,hb=>by
    have h1:=Ld k (l:=l.erase ((k+1:Nat):Int)) (hn.erase _) fun x hx=>by
      rw[hn.mem_erase_iff] at hx
      have:=hb x hx.2
      omega
    rw[List.length_erase] at h1
    split at h1<;>omega
theorem Sa {ks:List Int} {cur:Int} (hn:ks.Nodup) {i:Nat} (hi:ks[i]?=some cur):ks.findIdx? (· == cur)=some i:=by
  rw[List.findIdx?_eq_some_iff_getElem]
  obtain⟨hlt,hv⟩:=List.getElem?_eq_some_iff.1 hi
  refine⟨hlt,by simp [hv],fun j hj=>?_⟩
  have:=List.pairwise_iff_getElem.1 (show ks.Pairwise (·≠·) from hn) j i (by omega) hlt hj
  rw[hv] at this
  simpa using this
theorem SV {ks:List Int} {cur:Int} (hn:ks.Nodup) {i:Nat} (hi:ks[i]?=some cur) (d:Int):Cv ks cur d=ks.getD (((i:Int)+d+ks.length).toNat % ks.length) 0:=by
  unfold Cv
  rw[Sa hn hi]
theorem RF {ks:List Int} {cur:Int} (hn:ks.Nodup) (h2:2≤ks.length) (hc:cur∈ks):Cv ks cur 1≠cur:=by
  obtain⟨i,hi,e⟩:=List.mem_iff_getElem.1 hc
  rw[SV hn (by rw[List.getElem?_eq_getElem hi,e])]
  have hm:((i:Int)+1+ks.length).toNat % ks.length<ks.length:=Nat.mod_lt _ (by omega)
  rw[List.getD_eq_getElem?_getD,List.getElem?_eq_getElem hm,Option.getD_some,←e]
  have hne:((i:Int)+1+ks.length).toNat % ks.length≠i:=by
    rw[show((i:Int)+1+ks.length).toNat=i+1+ks.length by omega,Nat.add_mod_right]
    rcases Nat.lt_or_ge (i+1) ks.length with h|h
    · rw[Nat.mod_eq_of_lt h];omega
    · rw[show i+1=ks.length by omega,Nat.mod_self];omega
  intro he
  exact hne (YJ hn hm hi he)
section
variable {base:Nat} {w w' w'':World} {s:Nat} {S:Ss} {lim:Int}
theorem Ss.ok.mono (ok:S.ok lim) {lim':Int} (h:lim≤lim'):S.ok lim' :=
  ⟨ok.w0,ok.w1,ok.h0,ok.h1,fun W hW=>let ⟨a,b,c,d⟩:=ok.win W hW;⟨a,b,by omega,d⟩,ok.cur,ok.back0,ok.back1,ok.few,ok.dis0,by have:=ok.dis1;omega⟩
theorem Ss.ok.put (ok:S.ok lim) {W V:Wn} (hW:W∈S.wins) (hn:V.n=W.n) (hv:V.ok) (hR:V.L.R=W.L.R) (hnew:V.L.newest≤W.L.newest+1):({ S with wins:=AX S.wins V }:Ss).ok (lim+1):=by
  obtain⟨a,b,c,d⟩:=ok.win W hW
  refine⟨ok.w0,ok.w1,ok.h0,ok.h1,fun U hU=>?_,by rw[HM];exact ok.cur,ok.back0,ok.back1,ok.few,ok.dis0,by have:=ok.dis1;show S.dis≤_;omega⟩
  rcases Ey hU with rfl|⟨hU,-⟩
  · exact⟨hv,by rw[hR];exact b,by omega,by rw[hn];exact d⟩
  · obtain⟨a,b,c,d⟩:=ok.win U hU
    exact⟨a,b,by omega,d⟩
theorem Ss.ok.left (ok:S.ok lim) (c:Bool):({ S with cop:=c,back:=0 }:Ss).ok lim:=⟨ok.w0,ok.w1,ok.h0,ok.h1,ok.win,ok.cur,Int.le_refl _,by show(0:Int)≤1000;decide,ok.few,ok.dis0,ok.dis1⟩
theorem We {l:List Int} (hn:l.Nodup) (hb:∀x∈l,1≤x∧x≤9):l.length≤9:=Ld 9 hn hb
theorem SsAt.len (h:SsAt base w s S) (ok:S.ok lim):S.wins.length≤9:=by
  have:=We h.ids (fun x hx=>by obtain⟨W,hW,rfl⟩:=List.mem_map.1 hx;exact(ok.win W hW).2.2.2)
  simpa using this
theorem Fb {a:Int}:∀{l:List Wn},(l.map (·.n)).Nodup→∀p,p∈l.eraseP (fun x=>x.ent.1 == a)↔p∈l∧p.n≠a
  | [],_,p=>by simp
  | z::l,hids,p=>by
    rw[List.map_cons,List.nodup_cons] at hids
    rw[List.eraseP_cons]
    by_cases hz:z.n=a
    · rw[show(z.ent.1 == a)=true by simpa [Wn.ent] using hz]
      constructor
      · intro hp
        exact⟨List.mem_cons_of_mem _ hp,fun e=>hids.1 (by rw[hz,←e];exact List.mem_map.2 ⟨p,hp,rfl⟩)⟩
      · rintro⟨hp,hne⟩
        rcases List.mem_cons.1 hp with rfl|hp
        · exact absurd hz hne
        · exact hp
    · rw[show(z.ent.1 == a)=false by simpa [Wn.ent] using hz]
      show p∈z::l.eraseP (fun x=>x.ent.1 == a)↔_
      rw[List.mem_cons,Fb hids.2 p,List.mem_cons]
      constructor
      · rintro(rfl|⟨h1,h2⟩)
        · exact⟨.inl rfl,hz⟩
        · exact⟨.inr h1,h2⟩
      · rintro⟨rfl|h1,h2⟩
        · exact .inl rfl
        · exact .inr ⟨h1,h2⟩
theorem Ra (h:SsAt base w s S) (ok:S.ok lim) (hbase:base≤w.heap.size) {W:Wn} (hg:S.get S.cur=some W):Calls Tryz.prog 95 #[.pointer (some ⟨s,0,none⟩),.pointer (some ⟨W.b,0,none⟩)] w
    (Ac fun v w'=>∃S',SsAt base w' s S'∧S'.ok (lim+1)∧Trn (S.own s) (S'.own s) w w'∧S'.w=S.w∧S'.h=S.h∧S'.room=S.room∧S'.typed=S.typed∧S'.pre=S.pre∧(S'.cop=S.cop∨S'.cop=false) ∧
      ((v=.nilIface∧2≤W.L.root.ids.length∧S'.wins.map (·.n)=S.wins.map (·.n)∧S'.cur=S.cur) ∨
       (v=.nilIface∧W.L.root.ids.length=1∧2≤S.wins.length∧S'.wins=S.wins.eraseP (fun x=>x.ent.1 == S.cur)∧∃ks,ks.Perm (S.wins.map (·.n))∧B8 ks∧S'.cur=Cv ks S.cur 1∧S'.cur≠S.cur) ∨
       (v=Ax 13∧W.L.root.ids.length=1∧S.wins.length=1∧S'=S))):=by
  obtain⟨hWm,hWn⟩:=Ss.get_mem hg
  obtain⟨wok,wR,wnew,wn⟩:=ok.win W hWm
  have hlen:=h.len ok
  have t3:s≠S.m:=h.tvoff.2.2.1
  apply YI
  intro K hK
  unfold KB
  refine Join0.cut (fun w'=>∃S',SsAt base w' s S'∧S'.ok (lim+1)∧Trn (S.own s) (S'.own s) w w'∧S'.w=S.w∧S'.h=S.h∧S'.room=S.room∧S'.typed=S.typed∧S'.pre=S.pre∧(S'.cop=S.cop∨S'.cop=false) ∧
      ((2≤W.L.root.ids.length∧S'.wins.map (·.n)=S.wins.map (·.n)∧S'.cur=S.cur) ∨
       (W.L.root.ids.length=1∧2≤S.wins.length∧S'.wins=S.wins.eraseP (fun x=>x.ent.1 == S.cur)∧∃ks,ks.Perm (S.wins.map (·.n))∧B8 ks∧S'.cur=Cv ks S.cur 1∧S'.cur≠S.cur))) ?_ ?_
  · refine OpX.call UT rfl (Calls.ret (PD (h.each W hWm) wok hbase) ?_)
    rintro v w1 ⟨W',hst,⟨rfl,rfl,hone⟩|⟨rfl,h2⟩⟩
    ·
      obtain⟨h1,T1⟩:=h.turn hWm rfl rfl rfl hst.trn hst.at_ hbase
      have e1:AX S.wins W'=S.wins:=by
        unfold AX
        conv=>rhs;rw[←List.map_id S.wins]
        apply List.map_congr_left
        intro U hU
        split
        · rename_i e;exact(Dc h.ids hU hWm e).symm
        · rfl
      rw[e1] at h1 T1
      have hb1:=h1.hb
      have hm1:=h1.hm
      have hz1:=T1.size
      dsimp only at hb1 hm1
      have hsz:(Ar .i64 (S.wins.map Wn.ent)).size=S.wins.length:=by simp [Ar]
      simp -dsimp (disch:=first|omega|(simp only[go_sem,seval];try omega))only[go_sem,seval,hb1,hm1,hsz]
      rw[List.length_map]
      refine BrW.dec (fun g=>?_) (fun g=>?_)
      · refine OpX.call BX rfl (Calls.ret (BV _ 13) ?_)
        rintro v w2 ⟨rfl,rfl⟩
        exact hK _ _ ⟨S,h1,ok.mono (by omega),T1,rfl,rfl,rfl,rfl,rfl,.inl rfl,.inr (.inr ⟨rfl,hone,by omega,rfl⟩)⟩
      · have hw2:2≤S.wins.length:=by
          have:S.wins≠[]:=fun e=>by rw[e] at hWm;simp at hWm
          have:=List.length_pos_iff.2 this
          omega
        refine OpX.call HN rfl (Calls.ret (GP h1 (by show S.wins.length≤1000;omega) ok.cur 1 (by decide) (by decide)) ?_)
        rintro v w2 ⟨ks,k1,k2,rfl,k4,hc2⟩
        have hkn:ks.Nodup:=k1.nodup_iff.2 h.ids
        have hne:=RF hkn (by rw[k1.length_eq,List.length_map];exact hw2) (k1.mem_iff.2 ok.cur)
        have h2:=h1.chg0 hc2
        have hb2:=h2.hb
        have hm2:=h2.hm
        dsimp only at hb2 hm2
        have lb2:=Aa hb2
        have lm2:=Aa hm2
        obtain⟨l,hl⟩:∃l,l=S.wins.eraseP (fun x=>x.ent.1 == S.cur):=⟨_,rfl⟩
        generalize hnx:Cv ks S.cur 1=nx at *
        simp -dsimp (disch:=first|omega|(simp only[go_sem,seval];try omega))only[go_sem,seval,hb2,hm2,Jv,←hl]
        obtain⟨w3,hw3⟩:∃w3,w3=(Ab (Ab w2 S.m (.map (Ar .i64 (l.map Wn.ent)) S.mc)) s (.cells #[.int .i64 S.w,.int .i64 S.h,.int .i64 S.room,.map (some S.m),.int .i64 nx,.bool S.cop,.bool S.pre,.int .i64 S.back,S.tv,.int .i64 S.dis] 80)).drew:=⟨_,rfl⟩
        rw[←hw3]
        obtain⟨w2m,hw2m⟩:∃w2m,w2m=Ab w2 S.m (.map (Ar .i64 (l.map Wn.ent)) S.mc):=⟨_,rfl⟩
        have hcm:Chg [S.m] w2 w2m:=by rw[hw2m];exact(Chg.refl _ _).set _ _ (by simp)
        have hmm:w2m.heap[S.m]?=some (.map (Ar .i64 (l.map Wn.ent)) S.mc):=by rw[hw2m];exact Au _ _ _ _ rfl lm2
        have hcb:Chg [s] w2m w3:=by rw[hw3,hw2m];exact((Chg.refl _ _).set _ _ (by simp)).drew
        have hb3:w3.heap[s]?=some (.cells #[.int .i64 S.w,.int .i64 S.h,.int .i64 S.room,.map (some S.m),.int .i64 nx,.bool S.cop,.bool S.pre,.int .i64 S.back,S.tv,.int .i64 S.dis] 80):=by rw[hw3];exact Au _ _ _ _ rfl (by rw[Dv];exact lb2)
        clear hw3
        obtain⟨A3,T3⟩:=h2.less (l:=l) (by rw[hl];exact List.eraseP_sublist) hcm hmm
        obtain⟨A4,T4⟩:=A3.self hcb hb3
        have hmem:∀U,U∈l↔U∈S.wins∧U.n≠S.cur:=by rw[hl];exact Fb h.ids
        refine⟨_,A4,⟨ok.w0,ok.w1,ok.h0,ok.h1,fun U hU=>?_,?_,ok.back0,ok.back1,ok.few,ok.dis0,by have:=ok.dis1;show S.dis≤_;omega⟩,((T1.chg0 hc2).trans T3).trans T4,rfl,rfl,rfl,rfl,rfl,.inl rfl,.inr ⟨hone,hw2,rfl,ks,k1,k2,hnx.symm,hne⟩⟩
        · obtain⟨a,b,c,d⟩:=ok.win U ((hmem U).1 hU).1
          exact⟨a,b,by omega,d⟩
        · obtain⟨U,hU,e⟩:=List.mem_map.1 k4
          exact List.mem_map.2 ⟨U,(hmem U).2 ⟨hU,by rw[e];exact hne⟩,e⟩
    · obtain⟨h1,T1⟩:=h.turn hWm hst.n hst.b hst.born hst.trn hst.at_ hbase
      simp -dsimp (disch:=first|omega|(simp only[go_sem,seval];try omega))only[go_sem,seval]
      exact⟨_,h1,ok.put hWm hst.n hst.ok hst.R hst.new,T1,rfl,rfl,rfl,rfl,rfl,.inl rfl,.inl ⟨h2,HM _ _,rfl⟩⟩
  · rintro w1 ⟨S',h1,ok1,T1,s1,s2,s3,s4,s5,s6,hd⟩
    refine OpX.call Fz rfl (Calls.ret (F0 h1) ?_)
    rintro v w2 ⟨h2,T2⟩
    exact hK _ _ ⟨_,h2,ok1.left false,T1.trans T2,s1,s2,s3,s4,s5,.inr rfl,hd.elim (fun⟨a,b,c⟩=>.inl ⟨rfl,a,b,c⟩) (fun⟨a,b,c,d⟩=>.inr (.inl ⟨rfl,a,b,c,d⟩))⟩
end
structure KRel (S:Ss) (k:Ky) (S':Ss) (word:List UInt8) (v:Value):Prop where
 w:S'.w=S.w
 h:S'.h=S.h
 room:S'.room=S.room
 pre:S'.pre=S.pre
 cop:S'.cop=S.cop∨S'.cop=false
 typ:k.kind≠1→S'.typed=S.typed
 k1:k.kind=1→v=.nilIface∧∃W,S.get S.cur=some W∧S'.typed=BE (S.typed++[⟨S.cur,W.active,k.s⟩])∧S'.wins=S.wins∧S'.cur=S.cur∧S'.back=S.back
 k2:k.kind=2→∃W,S.get S.cur=some W∧S'.cur=S.cur∧((v=.nilIface∧S'.cop=false∧∃W' nb n1 n2 R,(Mt.pane nb W.active,R)∈W.L.root.all W.L.R∧W'.n=W.n∧W'.L=BW W.L true nb n1 n2 R W.active∧S'.wins=AX S.wins W') ∨
  (16≤W.L.root.ids.length∨∃nb R,(Mt.pane nb W.active,R)∈W.L.root.all W.L.R∧R.len true<3))
 k5:k.kind=5→∃W,S.get S.cur=some W∧((v=.nilIface∧2≤W.L.root.ids.length)∨(v=.nilIface∧W.L.root.ids.length=1∧2≤S.wins.length∧S'.wins=S.wins.eraseP (fun x=>x.ent.1 == S.cur)∧S'.cur≠S.cur)∨(v=Ax 13∧W.L.root.ids.length=1∧S.wins.length=1∧S'=S))
 k6:k.kind=6→(v=.nilIface∧∃(V:Wn) (n:Nat),1≤n∧n≤9∧V.n=n∧(n:Int)∉S.wins.map (·.n)∧(∀j:Nat,1≤j→j<n→(j:Int)∈S.wins.map (·.n))∧V.active=1∧(∃t,V.L.root=.pane t 1)∧S'.wins=S.wins++[V]∧S'.cur=n∧S'.back=0) ∨
  (v=Ax 15∧word=[119,105,110,100,111,119]∧(∀j:Nat,1≤j→j≤9→(j:Int)∈S.wins.map (·.n))∧S'=S)
 k7:k.kind=7∨k.kind=8→v=.nilIface∧S'.wins=S.wins∧∃ks,ks.Perm (S.wins.map (·.n))∧B8 ks∧S'.cur=Cv ks S.cur (if k.kind=7 then 1 else -1)
theorem KRel.other {S S':Ss} {k:Ky} {word:List UInt8} {v:Value} (w:S'.w=S.w) (h:S'.h=S.h) (room:S'.room=S.room) (pre:S'.pre=S.pre) (cop:S'.cop=S.cop∨S'.cop=false) (typ:S'.typed=S.typed) (h1:k.kind≠1) (h2:k.kind≠2) (h5:k.kind≠5) (h6:k.kind≠6) (h7:k.kind≠7) (h8:k.kind≠8):KRel S k S' word v :=
 ⟨w,h,room,pre,cop,fun _=>typ,fun e=>absurd e h1,fun e=>absurd e h2,fun e=>absurd e h5,fun e=>absurd e h6,fun e=>e.elim (fun e=>absurd e h7) (fun e=>absurd e h8)⟩
def LD (base:Nat) (lim:Int) (w:World) (s:Nat) (S:Ss) (k:Ky) (word:List UInt8) (v:Value) (w':World):Prop :=
 ∃S',SsAt base w' s S'∧S'.ok (lim+1)∧Trn (S.own s) (S'.own s) w w'∧(v=.nilIface∨∃c,c≠0∧v=Ax c)∧KRel S k S' word v
section
variable {base:Nat} {w w' w'':World} {s:Nat} {S:Ss} {lim:Int}
theorem Ss.get_cur (ok:S.ok lim):∃W,S.get S.cur=some W:=Ss.get_some ok.cur
theorem Ss.ok.turn (ok:S.ok lim) {n:Int} (h:n∈S.wins.map (·.n)):({ S with cur:=n,cop:=false,back:=0 }:Ss).ok lim:=⟨ok.w0,ok.w1,ok.h0,ok.h1,ok.win,h,Int.le_refl _,by show(0:Int)≤1000;decide,ok.few,ok.dis0,ok.dis1⟩
theorem TZ (h:SsAt base w s S) (ok:S.ok lim) (hbase:base≤w.heap.size) (hlim:lim≤1000000000000000) (k:Ky) (hk:-1000≤k.n∧k.n≤1000):Calls Tryz.prog 53 #[.pointer (some ⟨s,0,none⟩),k.val] w
  (Ac fun v w'=>∃word v',v=.tuple #[.string (Aq word),v']∧LD base lim w s S k word v' w'):=by
 obtain⟨W,hg⟩:=S.get_cur ok
 obtain⟨hWm,hWn⟩:=Ss.get_mem hg
 obtain⟨wok,wR,wnew,wn⟩:=ok.win W hWm
 have hlen:=h.len ok
 have hb:=h.hb
 have hm:=h.hm
 have ls:=Aa hb
 have lm:=Aa hm
 apply Xf
 intro K hK
 unfold LI
 unfold Ky.val
 simp -dsimp (disch:=first|omega|(simp only[go_sem,seval];try omega))only[go_sem,seval,hb,hm,D9,hg]
 have eW:(Bo (S.wins.map Wn.ent,S.mc).fst S.cur).getD (Value.pointer none)=Value.pointer (some ⟨W.b,0,none⟩):=by
  show(Bo (S.wins.map Wn.ent) S.cur).getD (Value.pointer none)=_
  rw[D9,hg];rfl
 rw[eW]
 refine Dz (F:=Join0 _ _) fun w0 hw0=>?_
 have hc0:Chg [] w w0:=by rw[hw0];(repeat (first|exact Chg.refl _ _|apply Chg.drew|apply Chg.alloc|(refine Chg.set ?_ _ _ (by first|(left;simp;done)|(right;omega)))))
 have ak:w0.heap[w.heap.size]?=some (.cells #[.int .i64 k.kind,.int .i64 k.n,.string (Aq k.s)] 125):=by rw[hw0];simp -dsimp (disch:=first|omega|(simp only[go_sem,seval];try omega))only[go_sem,seval]
 clear hw0
 have h0:=h.chg0 hc0
 have hb0:=h0.hb
 have hm0:=h0.hm
 have hbase0:base≤w0.heap.size:=by have:=hc0.size;omega
 have T0:Trn (S.own s) (S.own s) w w0:=.of0 hc0 fun _ h=>.inl h
 have hW0:=h0.each W hWm
 have hWb:=hW0.hb
 refine Join0.cut (fun w'=>LD base lim w s S k [] .nilIface w') ?_ (fun w' h=>hK _ _ ⟨[],.nilIface,rfl,h⟩)
 refine Join0.cut (fun w'=>(k.kind=14∨k.kind=12)∧w'=w0) ?_ ?_
 ·simp -dsimp (disch:=first|omega|(simp only[go_sem,seval];try omega))only[go_sem,seval]
  refine BrW.dec (fun g=>?_) (fun g1=>?_)
  ·
   simp -dsimp (disch:=first|omega|(simp only[go_sem,seval];try omega))only[go_sem,seval,hb0,hWb,ak]
   have hd:Chg [] w0 w0.drew:=(Chg.refl _ _).drew
   refine OpX.call Ua rfl (Calls.ret (YC (h0.chg0 hd) ok.few hbase0 ⟨S.cur,W.active,k.s⟩) ?_)
   rintro v w1 ⟨tv,A,T⟩
   have T:Trn (S.own s) (({ S with typed:=BE (S.typed++[⟨S.cur,W.active,k.s⟩]),tv:=tv }:Ss).own s) w w1:=(T0.chg0 hd).trans T
   exact⟨_,A,(by exact⟨ok.w0,ok.w1,ok.h0,ok.h1,fun V hV=>let ⟨a,b,c,d⟩:=ok.win V hV;⟨a,b,by omega,d⟩,ok.cur,ok.back0,ok.back1,Ov _,ok.dis0,by have:=ok.dis1;show S.dis≤_;omega⟩),T,.inl rfl,
    ⟨rfl,rfl,rfl,rfl,.inl rfl,fun e=>absurd g e,fun _=>⟨rfl,W,hg,rfl,rfl,rfl,rfl⟩,fun e=>by omega,fun e=>by omega,fun e=>by omega,fun e=>by omega⟩⟩
  refine Join1.cut (fun v w'=>v=.bool (decide (k.kind=2∨k.kind=3))∧w'=w0) ?_ ?_
  ·simp -dsimp (disch:=first|omega|(simp only[go_sem,seval];try omega))only[go_sem,seval]
   refine BrW.dec (fun g=>⟨congrArg Value.bool (decide_eq_true (.inl g)).symm,rfl⟩) (fun g=>?_)
   simp -dsimp (disch:=first|omega|(simp only[go_sem,seval];try omega))only[go_sem,seval]
   exact congrArg Value.bool (decide_eq_decide.2 ⟨fun h=>.inr h,fun h=>h.elim (fun h=>absurd h g) id⟩)
  rintro v w1 ⟨rfl,rfl⟩
  refine BrW.dec (fun g=>?_) (fun g2=>?_)
  ·
   have n5:k.kind≠5∧k.kind≠6∧¬(k.kind=7∨k.kind=8):=by omega
   simp -dsimp (disch:=first|omega|(simp only[go_sem,seval];try omega))only[go_sem,seval,ak]
   refine OpX.call Qx rfl (Calls.ret (X7 hW0 wok hbase0 (by omega) (decide (k.kind=2))) ?_)
   rintro v w2 ⟨W',hst,hd⟩
   obtain⟨A1,T1⟩:=h0.turn hWm hst.n hst.b hst.born hst.trn hst.at_ hbase0
   have ok1:=ok.put hWm hst.n hst.ok hst.R hst.new
   rcases hd with ⟨rfl,nb,n1,n2,R,d1,d2,d3,d4,d5⟩|⟨rfl,⟨c,hc,rfl⟩,d⟩
   ·simp -dsimp (disch:=first|omega|(simp only[go_sem,seval];try omega))only[go_sem,seval]
    refine OpX.call Fz rfl (Calls.ret (F0 A1) ?_)
    rintro v w3 ⟨A2,T2⟩
    refine⟨_,A2,ok1.left false,(T0.trans T1).trans T2,.inl rfl,⟨rfl,rfl,rfl,rfl,.inr rfl,fun _=>rfl,fun e=>by omega,fun e=>?_,fun e=>by omega,fun e=>by omega,fun e=>by omega⟩⟩
    refine⟨W,hg,rfl,.inl ⟨rfl,rfl,W',nb,n1,n2,R,d1,hst.n,?_,rfl⟩⟩
    rw[d4,e];rfl
   ·unfold Ax
    simp -dsimp (disch:=first|omega|(simp only[go_sem,seval];try omega))only[go_sem,seval]
    refine hK _ _ ⟨[115,112,108,105,116],_,rfl,_,A1,ok1,T0.trans T1,.inr ⟨c,hc,rfl⟩,⟨rfl,rfl,rfl,rfl,.inl rfl,fun _=>rfl,fun e=>absurd e g1,fun e=>?_,fun e=>absurd e n5.1,fun e=>absurd e n5.2.1,fun e=>absurd e n5.2.2⟩⟩
    refine⟨W',hg,rfl,.inr ?_⟩
    rw[e] at d
    exact d
  have gn:k.kind≠2∧k.kind≠3:=⟨fun e=>g2 (.inl e),fun e=>g2 (.inr e)⟩
  clear g2
  simp -dsimp (disch:=first|omega|(simp only[go_sem,seval];try omega))only[go_sem,seval]
  refine BrW.dec (fun g=>?_) (fun g4=>?_)
  ·
   simp -dsimp (disch:=first|omega|(simp only[go_sem,seval];try omega))only[go_sem,seval,hWb]
   have hd:Chg [] w1 w1.drew:=(Chg.refl _ _).drew
   refine OpX.call M8 rfl (Calls.ret (Np (hW0.lay.chg0 hd) wok.lay W.active) ?_)
   rintro v w2 ⟨rfl,hc2⟩
   have hc2:Chg [] w1 w2:=hd.trans0 hc2
   have hW2:=hW0.chg0 hc2
   have hWb2:=hW2.hb
   have lw2:=Aa hWb2
   have hne:=hW2.ne
   obtain⟨nx1,nx2⟩:=I4 wok.lay.nd wok.act
   generalize Dd W.L.root.ids W.active=nx at *
   simp -dsimp (disch:=first|omega|(simp only[go_sem,seval];try omega))only[go_sem,seval,hWb2]
   refine Dz (F:=OpX _ _ _ _) fun w3 hw3=>?_
   have hc3:Chg [W.b] w2 w3:=by rw[hw3];exact(Chg.refl _ _).set _ _ (by simp)
   have hb3:w3.heap[W.b]?=some (.cells #[.pointer (some ⟨W.lb,0,none⟩),.int .i64 nx,.int .i64 W.room,.map (some W.tm)] 94):=by rw[hw3];exact Au _ _ _ _ rfl lw2
   clear hw3
   obtain⟨A1,T1⟩:=hW2.laid (L:=W.L) (act:=nx) hc3 (by simp) (hW2.lay.chg hc3 (by simp;exact fun e=>hne.1 e.symm) fun x hx hm=>by simp at hm;subst hm;exact hne.2.2.2.1 hx) hb3 (fun x hx=>.inl hx) (by have:=hc2.size;omega)
   obtain⟨A2,T2⟩:=(h0.chg0 hc2).turn hWm (V:={ W with L:=W.L,active:=nx }) rfl rfl rfl T1 A1 (by have:=hc2.size;omega)
   have ok1:=ok.put hWm (V:={ W with L:=W.L,active:=nx }) rfl ⟨wok.lay,nx1,wok.has,wok.size⟩ rfl (by show W.L.newest≤_;omega)
   refine OpX.call Fz rfl (Calls.ret (F0 A2) ?_)
   rintro v w4 ⟨A3,T3⟩
   exact⟨_,A3,ok1.left false,((T0.chg0 hc2).trans T2).trans T3,.inl rfl,KRel.other rfl rfl rfl rfl (.inr rfl) rfl g1 gn.1 (by omega) (by omega) (by omega) (by omega)⟩
  simp -dsimp (disch:=first|omega|(simp only[go_sem,seval];try omega))only[go_sem,seval]
  refine BrW.dec (fun g=>?_) (fun g5=>?_)
  ·refine OpX.call Rj rfl (Calls.ret (Ra h0 ok hbase0 hg) ?_)
   rintro v w2 ⟨S',A,ok1,T,s1,s2,s3,s4,s5,s6,hd⟩
   refine hK _ _ ⟨[99,108,111,115,101],_,rfl,S',A,ok1,T0.trans T,?_,⟨s1,s2,s3,s5,?_,fun _=>s4,fun e=>by omega,fun e=>by omega,fun e=>⟨W,hg,?_⟩,fun e=>by omega,fun e=>by omega⟩⟩
   ·rcases hd with ⟨rfl,-⟩|⟨rfl,-⟩|⟨rfl,-⟩
    ·exact .inl rfl
    ·exact .inl rfl
    ·exact .inr ⟨13,by decide,rfl⟩
   ·exact s6
   ·exact hd.imp (fun⟨a,b,_⟩=>⟨a,b⟩) (Or.imp (fun⟨a,b,c,d,ks,e1,e2,e3,e4⟩=>⟨a,b,c,d,e4⟩) id)
  simp -dsimp (disch:=first|omega|(simp only[go_sem,seval];try omega))only[go_sem,seval]
  refine BrW.dec (fun g=>?_) (fun g6=>?_)
  ·refine OpX.call VK rfl (Calls.ret (TK h0 ok hbase0) ?_)
   rintro v w2 (⟨rfl,V,n,n1,n2,n3,n4,n5,v1,v2,v3,v4,v5,v6,A,T⟩|⟨rfl,hfull,rfl⟩)
   ·have ok2:({ S with wins:=S.wins++[V],mc:=S.mc+1,cur:=n,cop:=false,back:=0 }:Ss).ok (lim+1):=by
     refine⟨ok.w0,ok.w1,ok.h0,ok.h1,fun U hU=>?_,?_,Int.le_refl _,by show(0:Int)≤1000;decide,ok.few,ok.dis0,by have:=ok.dis1;show S.dis≤_;omega⟩
     ·rcases List.mem_append.1 hU with hU|hU
      ·obtain⟨a,b,c,d⟩:=ok.win U hU
       exact⟨a,b,by omega,d⟩
      ·simp only[List.mem_singleton] at hU
       subst hU
       exact⟨v1,v3,by rw[v4];have:=ok.dis0;have:=ok.dis1;omega,by omega⟩
     ·show(n:Int)∈(S.wins++[V]).map (·.n)
      rw[List.map_append]
      exact List.mem_append_right _ (by simp [n3])
    exact hK _ _ ⟨[119,105,110,100,111,119],_,rfl,_,A,ok2,T0.trans T,.inl rfl,
     ⟨rfl,rfl,rfl,rfl,.inr rfl,fun _=>rfl,fun e=>by omega,fun e=>by omega,fun e=>by omega,fun _=>.inl ⟨rfl,V,n,n1,n2,n3,n4,n5,v2,v5,rfl,rfl,rfl⟩,fun e=>by omega⟩⟩
   ·exact hK _ _ ⟨[119,105,110,100,111,119],_,rfl,S,h0,ok.mono (by omega),T0,.inr ⟨15,by decide,rfl⟩,⟨rfl,rfl,rfl,rfl,.inl rfl,fun _=>rfl,fun e=>by omega,fun e=>by omega,fun e=>by omega,fun _=>.inr ⟨rfl,rfl,hfull,rfl⟩,fun e=>by omega⟩⟩
  simp -dsimp (disch:=first|omega|(simp only[go_sem,seval];try omega))only[go_sem,seval]
  refine BrW.dec (fun g=>?_) (fun g7=>?_)
  ·refine OpX.call HN rfl (Calls.ret (GP h0 (by omega) ok.cur 1 (by decide) (by decide)) ?_)
   rintro v w2 ⟨ks,k1,k2,rfl,k4,hc2⟩
   refine OpX.call Fy rfl (Calls.ret (FL (h0.chg0 hc2) _) ?_)
   rintro v w3 ⟨A,T⟩
   exact⟨_,A,(ok.mono (by omega)).turn k4,(T0.chg0 hc2).trans T,.inl rfl,⟨rfl,rfl,rfl,rfl,.inr rfl,fun _=>rfl,fun e=>by omega,fun e=>by omega,fun e=>by omega,fun e=>by omega,fun _=>⟨rfl,rfl,ks,k1,k2,by rw[if_pos g]⟩⟩⟩
  simp -dsimp (disch:=first|omega|(simp only[go_sem,seval];try omega))only[go_sem,seval]
  refine BrW.dec (fun g=>?_) (fun g8=>?_)
  ·refine OpX.call HN rfl (Calls.ret (GP h0 (by omega) ok.cur (-1) (by decide) (by decide)) ?_)
   rintro v w2 ⟨ks,k1,k2,rfl,k4,hc2⟩
   refine OpX.call Fy rfl (Calls.ret (FL (h0.chg0 hc2) _) ?_)
   rintro v w3 ⟨A,T⟩
   exact⟨_,A,(ok.mono (by omega)).turn k4,(T0.chg0 hc2).trans T,.inl rfl,⟨rfl,rfl,rfl,rfl,.inr rfl,fun _=>rfl,fun e=>by omega,fun e=>by omega,fun e=>by omega,fun e=>by omega,fun _=>⟨rfl,rfl,ks,k1,k2,by rw[if_neg (by omega)]⟩⟩⟩
  simp -dsimp (disch:=first|omega|(simp only[go_sem,seval];try omega))only[go_sem,seval]
  have hoth:k.kind≠1∧k.kind≠2∧k.kind≠5∧k.kind≠6∧k.kind≠7∧k.kind≠8:=⟨g1,gn.1,g5,g6,g7,g8⟩
  obtain⟨o1,o2,o5,o6,o7,o8⟩:=hoth
  refine BrW.dec (fun g=>?_) (fun g9=>?_)
  ·
   have hlk:∀d,(Bo (S.wins.map Wn.ent) d).getD (Value.pointer none)=Cg (S.get d):=D9 S
   have hd:Chg [] w1 w1.drew:=(Chg.refl _ _).drew
   cases hs:S.get k.n with
   | none =>
    simp -dsimp (disch:=first|omega|(simp only[go_sem,seval];try omega))only[go_sem,seval,hb0,hm0,ak,hlk,hs,Cg,Option.map_none,Option.getD_none]
    refine OpX.call BX rfl (Calls.ret (BV _ 12) ?_)
    rintro v w2 ⟨rfl,rfl⟩
    exact hK _ _ ⟨[115,101,108,101,99,116],_,rfl,S,h0.chg0 hd,ok.mono (by omega),T0.chg0 hd,.inr ⟨12,by decide,rfl⟩,KRel.other rfl rfl rfl rfl (.inl rfl) rfl o1 o2 o5 o6 o7 o8⟩
   | some V =>
    simp -dsimp (disch:=first|omega|(simp only[go_sem,seval];try omega))only[go_sem,seval,hb0,hm0,ak,hlk,hs,Cg,Option.map_some,Option.getD_some]
    refine OpX.call Fy rfl (Calls.ret (FL (h0.chg0 hd) k.n) ?_)
    rintro v w3 ⟨A,T⟩
    exact⟨_,A,(ok.mono (by omega)).turn (List.mem_map.2 ⟨V,(Ss.get_mem hs).1,(Ss.get_mem hs).2⟩),(T0.chg0 hd).trans T,.inl rfl,KRel.other rfl rfl rfl rfl (.inr rfl) rfl o1 o2 o5 o6 o7 o8⟩
  simp -dsimp (disch:=first|omega|(simp only[go_sem,seval];try omega))only[go_sem,seval]
  refine BrW.dec (fun g=>?_) (fun g10=>?_)
  ·simp -dsimp (disch:=first|omega|(simp only[go_sem,seval];try omega))only[go_sem,seval,ak]
   refine OpX.call VB rfl (Calls.ret (PY hW0 wok hbase0 k.n) ?_)
   rintro v w2 ⟨W',hst,hv⟩
   obtain⟨A1,T1⟩:=h0.turn hWm hst.n hst.b hst.born hst.trn hst.at_ hbase0
   exact hK _ _ ⟨[109,111,118,101],_,rfl,_,A1,ok.put hWm hst.n hst.ok hst.R hst.new,T0.trans T1,hv,KRel.other rfl rfl rfl rfl (.inl rfl) rfl o1 o2 o5 o6 o7 o8⟩
  simp -dsimp (disch:=first|omega|(simp only[go_sem,seval];try omega))only[go_sem,seval]
  refine BrW.dec (fun g=>?_) (fun g11=>?_)
  ·simp -dsimp (disch:=first|omega|(simp only[go_sem,seval];try omega))only[go_sem,seval,ak]
   refine OpX.call Oo rfl (Calls.ret (O3 h0 hg wok k.n ok.back0 ok.back1 (by omega) (by omega)) ?_)
   rintro v w2 ⟨b,b0,b1,-,A,T⟩
   exact⟨_,A,(by exact⟨ok.w0,ok.w1,ok.h0,ok.h1,fun V hV=>let ⟨a,b,c,d⟩:=ok.win V hV;⟨a,b,by omega,d⟩,ok.cur,b0,b1,ok.few,ok.dis0,by have:=ok.dis1;show S.dis≤_;omega⟩),T0.trans T,.inl rfl,KRel.other rfl rfl rfl rfl (.inl rfl) rfl o1 o2 o5 o6 o7 o8⟩
  simp -dsimp (disch:=first|omega|(simp only[go_sem,seval];try omega))only[go_sem,seval]
  refine BrW.dec (fun g=>?_) (fun g14=>?_)
  ·exact⟨.inl g,rfl⟩
  simp -dsimp (disch:=first|omega|(simp only[go_sem,seval];try omega))only[go_sem,seval]
  refine BrW.dec (fun g=>?_) (fun g12=>?_)
  ·exact⟨.inr g,rfl⟩
  simp -dsimp (disch:=first|omega|(simp only[go_sem,seval];try omega))only[go_sem,seval]
  refine BrW.dec (fun g=>?_) (fun g13=>?_)
  ·have lb:=Aa hb0
   have:=ok.dis0
   have:=ok.dis1
   simp -dsimp (disch:=first|omega|(simp only[go_sem,seval];try omega))only[go_sem,seval,hb0]
   obtain⟨A,T⟩:=h0.self (cur:=S.cur) (cop:=S.cop) (pre:=S.pre) (back:=S.back) (dis:=S.dis+1) (x:=S.w) (y:=S.h) ((Chg.refl [s] w1).set _ _ (by simp)) (Au _ _ _ _ rfl lb)
   exact⟨_,A,(by exact⟨ok.w0,ok.w1,ok.h0,ok.h1,fun V hV=>let ⟨a,b,c,d⟩:=ok.win V hV;⟨a,b,by omega,d⟩,ok.cur,ok.back0,ok.back1,ok.few,by show 0≤S.dis+1;omega,by show S.dis+1≤_;omega⟩),T0.trans T,.inl rfl,KRel.other rfl rfl rfl rfl (.inl rfl) rfl o1 o2 o5 o6 o7 o8⟩
  ·exact⟨S,h0,ok.mono (by omega),T0,.inl rfl,KRel.other rfl rfl rfl rfl (.inl rfl) rfl o1 o2 o5 o6 o7 o8⟩
 ·rintro w1 ⟨hkk,rfl⟩
  have lb:=Aa hb0
  simp -dsimp (disch:=first|omega|(simp only[go_sem,seval];try omega))only[go_sem,seval,hb0]
  obtain⟨A,T⟩:=h0.self (cur:=S.cur) (cop:=S.cop) (pre:=S.pre) (back:=0) (dis:=S.dis) (x:=S.w) (y:=S.h) ((Chg.refl [s] w1).set _ _ (by simp)) (Au _ _ _ _ rfl lb)
  exact⟨_,A,(ok.mono (by omega)).left S.cop,T0.trans T,.inl rfl,KRel.other rfl rfl rfl rfl (.inl rfl) rfl (by omega) (by omega) (by omega) (by omega) (by omega) (by omega)⟩
end
def erV:Option (TypeId × Value)→Value
 | none=>.nilIface
 | some p=>.iface p.1 p.2
def erF (e:Option (TypeId × Value)):List Value:=[erV e]
theorem L6 (e:Option (TypeId × Value)):(erF e).length=1:=rfl
theorem M0 (e:Option (TypeId × Value)):AP (erF e)=true:=by cases e<;>rfl
def Bm (l:List (Option (TypeId × Value))):List (Option (TypeId × Value)):=l.filter Option.isSome
theorem T9 (l:List (Option (TypeId × Value))):(Bm l).length≤l.length:=List.length_filter_le _ _
theorem Pj {w:World} {a:Option Addr} {cap:Nat} {xs:List (Option (TypeId × Value))} (hs:Sx w (some 30) erF a xs) (hlen:xs.length≤100000):Calls Tryz.prog 56 #[.slice a xs.length cap] w
  (Ac fun v w'=>Chg [] w w'∧((Bm xs=[]∧v=.nilIface)∨(∃p,Bm xs=[some p]∧v=.iface p.1 p.2)∨(2≤(Bm xs).length∧∃t y,v=.iface t y))):=by
 apply ZK
 intro K hK
 unfold Ke
 simp -dsimp (disch:=first|omega|(simp only[go_sem,seval];try omega))only[go_sem,seval]
 refine Loop2.st (fun q:Nat × Option Addr × Nat=>.slice q.2.1 (Bm (xs.take q.1)).length q.2.2) (fun q=>.int .i64 (q.1:Int)) (fun q w'=>q.1≤xs.length∧Chg [] w w'∧Ox w.heap.size w' 30 1 erF (.slice q.2.1 (Bm (xs.take q.1)).length q.2.2) (Bm (xs.take q.1))) (fun q=>xs.length-q.1) (0,none,0) rfl rfl ⟨Nat.zero_le _,Chg.refl _ _,Ox.nil _ _ _ _ _⟩ ?_
 rintro next ⟨i,a3,c3⟩ wi hn ⟨hi,hc,ho⟩
 dsimp only at hi hc ho ⊢
 have hzi:=hc.size
 have hkl:=T9 (xs.take i)
 have htl:(xs.take i).length≤100000:=by rw[List.length_take];omega
 simp -dsimp (disch:=first|omega|(simp only[go_sem,seval];try omega))only[go_sem,seval]
 refine BrW.dec (fun g=>?_) (fun g=>?_)
 ·have hi':i<xs.length:=by omega
  have hx:xs[i]?=some xs[i]:=List.getElem?_eq_getElem hi'
  have ht:Bm (xs.take (i+1))=if xs[i].isSome then Bm (xs.take i)++[xs[i]] else Bm (xs.take i):=by
   unfold Bm
   rw[Du hi',List.filter_append]
   split<;>simp_all
  generalize xs[i]=x at *
  have e1:(i:Int)+1=((i+1:Nat):Int):=by omega
  refine Join1.cut (fun v w'=>∃a' c',v=.slice a' (Bm (xs.take (i+1))).length c'∧Chg [] w w'∧Ox w.heap.size w' 30 1 erF (.slice a' (Bm (xs.take (i+1))).length c') (Bm (xs.take (i+1)))) ?_ ?_
  ·obtain⟨b,o,rfl,hbl,hcell⟩:=(hs.chg0 hc).get1 (g:=erV) (fun _=>rfl) hx
   cases x with
   | none =>
    simp only[erV] at hcell
    simp -dsimp (disch:=first|omega|(simp only[go_sem,seval];try omega))only[go_sem,seval,hcell]
    rw[ht]
    exact⟨a3,c3,rfl,hc,ho⟩
   | some p =>
    simp only[erV] at hcell
    simp -dsimp (disch:=first|omega|(simp only[go_sem,seval];try omega))only[go_sem,seval,hcell]
    refine OpX.gen fun w1 hw1=>?_
    have hc1:Chg [] wi w1:=by rw[hw1];(repeat (first|exact Chg.refl _ _|apply Chg.drew|apply Chg.alloc|(refine Chg.set ?_ _ _ (by first|(left;simp;done)|(right;omega)))))
    have hsa:Sx w1 (some 30) erF (some ⟨wi.heap.size,0,none⟩) [some p]:=Sx.built (c:=erF (some p)) (by rw[hw1];simp only[erF,erV];simp -dsimp (disch:=first|omega|(simp only[go_sem,seval];try omega))only[go_sem,seval]) (by simp)
    clear hw1
    have hz1:=hc1.size
    refine BL LK L6 M0 (ho.chg0 hc1) hsa rfl (by rw[List.length_singleton];omega) (by omega) (by omega) ?_
    intro v' w2 ho2 hc2 hown2
    have ht':Bm (xs.take (i+1))=Bm (xs.take i)++[some p]:=ht
    rw[←ht'] at ho2
    obtain⟨a2,c2,rfl,-⟩:=ho2.form
    exact⟨a2,c2,rfl,(hc.trans0 hc1).trans hc2 (fun x hx=>.inr ((ho.chg0 hc1).own_ge x hx)),ho2⟩
  ·rintro v w2 ⟨a',c',rfl,hc2,ho2⟩
   simp -dsimp (disch:=first|omega|(simp only[go_sem,seval];try omega))only[go_sem,seval,e1]
   exact hn (i+1,a',c') _ ⟨by dsimp only;omega,hc2,ho2⟩ (by dsimp only;omega)
 ·have hil:i=xs.length:=by omega
  subst hil
  rw[List.take_length] at ho hkl ⊢
  obtain⟨a9,c9,e9,-,hs3,-,-⟩:=ho.form
  simp only[Value.slice.injEq] at e9
  obtain⟨rfl,-,rfl⟩:=e9
  have hsome:∀x∈Bm xs,x.isSome=true:=fun x hx=>(List.mem_filter.1 hx).2
  generalize Bm xs=ks at *
  simp -dsimp (disch:=first|omega|(simp only[go_sem,seval];try omega))only[go_sem,seval]
  refine BrW.dec (fun g=>?_) (fun g0=>?_)
  ·exact hK _ _ ⟨hc,.inl ⟨List.eq_nil_of_length_eq_zero (by omega),rfl⟩⟩
  simp -dsimp (disch:=first|omega|(simp only[go_sem,seval];try omega))only[go_sem,seval]
  refine BrW.dec (fun g=>?_) (fun g1=>?_)
  ·have hl0:0<ks.length:=by omega
   obtain⟨b,o,rfl,hbl,hcell⟩:=hs3.get1 (g:=erV) (fun _=>rfl) (List.getElem?_eq_getElem hl0)
   have hs1:=hsome _ (List.getElem_mem hl0)
   have hk1:ks=[ks[0]]:=by
    cases ks with
    | nil=>simp at hl0
    | cons y l =>
     cases l with
     | nil=>rfl
     | cons z l=>simp only[List.length_cons] at g;omega
   generalize ks[0]=y at *
   subst hk1
   cases y with
   | none=>simp at hs1
   | some p =>
    simp only[erV,Nat.add_zero] at hcell
    simp -dsimp (disch:=first|omega|(simp only[go_sem,seval];try omega))only[go_sem,seval,hcell]
    exact hK _ _ ⟨hc,.inr (.inl ⟨p,rfl,rfl⟩)⟩
  ·simp -dsimp (disch:=first|omega|(simp only[go_sem,seval];try omega))only[go_sem,seval]
   exact hK _ _ ⟨hc.trans0 (by(repeat (first|exact Chg.refl _ _|apply Chg.drew|apply Chg.alloc|(refine Chg.set ?_ _ _ (by first|(left;simp;done)|(right;omega)))))),.inr (.inr ⟨by omega,_,_,rfl⟩)⟩
end Go.Proofs.YtelplojmbjnplaaGreatDoor
namespace Lyc
open Go
def Ky.small (k:Ky):Prop:=-1000≤k.n∧k.n≤1000
def Kst.small (S:Kst):Prop:=∀k∈S.ks,k.small
theorem Kst.flush_small {S:Kst} (h:S.small):S.flush.small:=by
 unfold flush
 split
 ·exact h
 ·intro k hk
  rcases List.mem_append.1 hk with hk|hk
  ·exact h k hk
  ·simp at hk;subst hk;exact⟨by show(-1000:Int)≤0;decide,by show(0:Int)≤1000;decide⟩
theorem Kst.tell_small {S:Kst} (h:S.small) {m:Int × Int} (hm:-1000≤m.2∧m.2≤1000):(S.tell m).small:=by
 intro k hk
 rcases List.mem_append.1 hk with hk|hk
 ·exact flush_small h k hk
 ·simp at hk;subst hk;exact hm
theorem Kst.look_small {S:Kst} (h:S.small) {l:List UInt8} {ms:List (Int × Int)} (hm:∀m∈ms,-1000≤m.2∧m.2≤1000) (b:UInt8):(S.look l ms b).small:=by
 unfold look
 split
 ·exact h
 ·rename_i i _
  refine tell_small h ?_
  rw[List.getD_eq_getElem?_getD]
  cases hg:ms[i]? with
  | none=>exact⟨by decide,by decide⟩
  | some m=>exact hm m (List.mem_of_getElem? hg)
theorem Kst.step_small {S:Kst} (h:S.small) (b:UInt8):(S.step b).small:=by
 unfold step
 split
 ·split
  ·exact h
  ·exact look_small (S:={ S with pre:=false }) h (by decide) b
 split
 ·exact flush_small h
 split
 ·exact h
 ·exact look_small h (by decide) b
theorem O7 (cop pre:Bool) (l:List UInt8):(Bv cop pre l).small:=by
 refine Kst.flush_small ?_
 suffices ∀(l:List UInt8) (S:Kst),S.small→(S.feed l).small from this l _ (by intro k hk;simp at hk)
 intro l
 induction l with
 | nil=>intro S h;exact h
 | cons b l ih=>intro S h;exact ih _ (Kst.step_small h b)
theorem Xy (cop pre:Bool) (l:List UInt8):(Bv cop pre l).ks.length≤2*l.length+1:=by
 have h1:=Kst.feed_ks l ⟨cop,pre,[],[]⟩
 have h2:=(Kst.feed ⟨cop,pre,[],[]⟩ l).flush_ks
 simp only[List.length_nil,Nat.zero_add] at h1
 unfold Bv
 omega
end Lyc
namespace Go.Proofs.YtelplojmbjnplaaGreatDoor
open Lyc Go
inductive KRun (S:Ss):List Ky→Ss→List (List UInt8 × Value)→Prop
 | nil:KRun S [] S []
 | snoc {ks:List Ky} {k:Ky} {S1 S2:Ss} {vs:List (List UInt8 × Value)} {word:List UInt8} {v:Value}:KRun S ks S1 vs→KRel S1 k S2 word v→KRun S (ks++[k]) S2 (vs++[(word,v)])
theorem KRun.len {S S':Ss} {ks:List Ky} {vs:List (List UInt8 × Value)} (h:KRun S ks S' vs):vs.length=ks.length:=by
 induction h with
 | nil=>rfl
 | snoc _ _ ih=>simp [ih]
def EAt (o:Nat→Prop) (w:World) (j:Nat) (p:List UInt8 × Value) (x:Option (TypeId × Value)):Prop :=
 (p.2=.nilIface∧x=none)∨∃c b b2,p.2=Ax c∧c≠0∧x=some (109,.pointer (some ⟨b,0,none⟩))∧¬o b∧¬o b2∧w.heap[b]?=some (.cells #[.iface 112 (.pointer (some ⟨b2,0,none⟩)),.int .i64 j] 111)∧w.heap[b2]?=some (.cells #[Ax c,.string (Aq p.1)] 114)
theorem EAt.trn {o o':Nat→Prop} {w w':World} {j:Nat} {p:List UInt8 × Value} {x:Option (TypeId × Value)} (h:EAt o w j p x) (ht:Trn o o' w w'):EAt o' w' j p x:=by
 rcases h with h|⟨c,b,b2,h1,h2,h3,h4,h5,h6,h7⟩
 ·exact .inl h
 ·exact .inr ⟨c,b,b2,h1,h2,h3,fun h=>(ht.grow b h).elim h4 fun h=>by have:=Aa h6;omega,fun h=>(ht.grow b2 h).elim h5 fun h=>by have:=Aa h7;omega,ht.keep h6 h4,ht.keep h7 h5⟩
theorem EAt.chg0 {o:Nat→Prop} {w w':World} {j:Nat} {p:List UInt8 × Value} {x:Option (TypeId × Value)} (h:EAt o w j p x) (hc:Chg [] w w'):EAt o w' j p x:=by
 rcases h with h|⟨c,b,b2,h1,h2,h3,h4,h5,h6,h7⟩
 ·exact .inl h
 ·exact .inr ⟨c,b,b2,h1,h2,h3,h4,h5,hc.keep h6 (by simp),hc.keep h7 (by simp)⟩
theorem EAt.app {base:Nat} {o:Nat→Prop} {w w':World} {j:Nat} {p:List UInt8 × Value} {x:Option (TypeId × Value)} {v:Value} {xs:List (Option (TypeId × Value))} (h:EAt o w j p x) (ho:Ox base w 30 1 erF v xs) (hc:Chg v.ownBlock.toList w w'):EAt o w' j p x:=by
 rcases h with h|⟨c,b,b2,h1,h2,h3,h4,h5,h6,h7⟩
 ·exact .inl h
 ·exact .inr ⟨c,b,b2,h1,h2,h3,h4,h5,hc.keep h6 (fun hm=>ho.off h6 rfl (by simpa using hm)),hc.keep h7 (fun hm=>ho.off h7 rfl (by simpa using hm))⟩
theorem _root_.Lyc.Trn.priv {o o':Nat→Prop} {w w' w'':World} {F:List Nat} (h:Trn o o' w w') (hc:Chg F w' w'') (hF:∀x∈F,w.heap.size≤x):Trn o o' w w'':=by
 obtain⟨G,hg,hG⟩:=h.chg
 exact Trn.low (F:=G++F) ((hg.mono fun x hx=>.inl (List.mem_append_left _ hx)).trans hc fun x hx=>.inl (List.mem_append_right _ hx)) (fun x hx=>(List.mem_append.1 hx).elim (fun h=>.inl (hG x h)) fun h=>.inr (hF x h)) h.grow
section
variable {base:Nat} {w w' w'':World} {s:Nat} {S:Ss} {lim:Int}
theorem U6 (h:SsAt base w s S) (ok:S.ok lim) (hbase:base≤w.heap.size) (hlim:lim≤900000000000000) (l:List UInt8) (hl:l.length≤2000):Calls Tryz.prog 32 #[.pointer (some ⟨s,0,none⟩),.string (Aq l)] w
  (Ac fun v w'=>∃S' vs,SsAt base w' s S'∧S'.ok (lim+5000)∧Trn (S.own s) (S'.own s) w w'∧KRun { S with cop:=(Bv S.cop S.pre l).cop,pre:=(Bv S.cop S.pre l).pre } (Bv S.cop S.pre l).ks S' vs ∧
   ((∀p∈vs,p.2=.nilIface)→v=.nilIface)∧(∀word c,vs=[(word,Ax c)]→∃b b2,v=.iface 109 (.pointer (some ⟨b,0,none⟩))∧w'.heap[b]?=some (.cells #[.iface 112 (.pointer (some ⟨b2,0,none⟩)),.int .i64 0] 111)∧w'.heap[b2]?=some (.cells #[Ax c,.string (Aq word)] 114))):=by
 have hb:=h.hb
 have hkl:=Xy S.cop S.pre l
 have hks:=O7 S.cop S.pre l
 apply Xb
 intro K hK
 unfold Kd
 simp -dsimp (disch:=first|omega|(simp only[go_sem,seval];try omega))only[go_sem,seval,hb]
 refine OpX.call WZ rfl (Calls.ret (Qu hb l hl) ?_)
 rintro v w1 ⟨hko,hb1,hc1⟩
 generalize Bv S.cop S.pre l=Q at *
 obtain⟨A1,T1⟩:=h.self hc1 hb1
 obtain⟨ak,ck,rfl,-,hks1,-,hkf⟩:=hko.form
 have hz1:=hc1.size
 simp -dsimp (disch:=first|omega|(simp only[go_sem,seval];try omega))only[go_sem,seval]
 obtain⟨S0,hS0⟩:∃S0:Ss,S0={ S with cop:=Q.cop,pre:=Q.pre }:=⟨_,rfl⟩
 have A1:SsAt base w1 s S0:=by rw[hS0];exact A1
 have T1:Trn (S.own s) (S0.own s) w w1:=by rw[hS0];exact T1
 have ok0:S0.ok lim:=by rw[hS0];exact⟨ok.w0,ok.w1,ok.h0,ok.h1,ok.win,ok.cur,ok.back0,ok.back1,ok.few,ok.dis0,ok.dis1⟩
 rw[←hS0] at hK
 refine Loop2.st (fun q:Nat × Option Addr × Nat × List (Option (TypeId × Value))=>.slice q.2.1 q.2.2.2.length q.2.2.1) (fun q=>.int .i64 (q.1:Int)) (fun q w'=>q.1≤Q.ks.length∧∃S1 vs,SsAt base w' s S1∧S1.ok (lim+q.1)∧Trn (S0.own s) (S1.own s) w1 w'∧KRun S0 (Q.ks.take q.1) S1 vs∧q.2.2.2.length=q.1 ∧
  Ox w1.heap.size w' 30 1 erF (.slice q.2.1 q.2.2.2.length q.2.2.1) q.2.2.2∧(∀b,some b=(Value.slice q.2.1 q.2.2.2.length q.2.2.1).ownBlock→¬S1.own s b)∧∀j p x,vs[j]?=some p→q.2.2.2[j]?=some x→EAt (S1.own s) w' j p x) (fun q=>Q.ks.length-q.1) (0,none,0,[]) rfl rfl
  ⟨Nat.zero_le _,S0,[],A1,by simpa using ok0,Trn.refl _ _,.nil,rfl,Ox.nil _ _ _ _ _,by simp [Value.ownBlock],by simp⟩ ?_
 rintro next ⟨i,a5,c5,xs⟩ wi hn ⟨hi,S1,vs,A,okS,T,run,hxl,ho,hno,hE⟩
 dsimp only at hi okS run hxl ho hno hE ⊢
 have hzi:=T.size
 simp -dsimp (disch:=first|omega|(simp only[go_sem,seval];try omega))only[go_sem,seval]
 refine BrW.dec (fun g=>?_) (fun g=>?_)
 ·have hi':i<Q.ks.length:=by omega
  have hx:Q.ks[i]?=some Q.ks[i]:=List.getElem?_eq_getElem hi'
  have hsm:=hks _ (List.getElem_mem hi')
  have ht:=Du hi'
  have hsk:Sx wi (some 125) Ky.cells ak Q.ks:=by
   obtain⟨F,hc,hF⟩:=T.chg
   refine hks1.chg hc fun b o e hne hm=>?_
   obtain⟨g9,e9,h9,-⟩:=hkf hne
   rw[e9] at e
   cases e
   have hlt:S0.own s=S.own s:=by rw[hS0];rfl
   have h8:=hF _ hm
   rw[hlt] at h8
   have:=h.lt _ h8
   omega
  generalize Q.ks[i]=k at *
  have e1:(i:Int)+1=((i+1:Nat):Int):=by omega
  obtain⟨b,o,rfl,hbl,hcell⟩:=hsk.get Ky.len hx
  simp only[Ky.cells] at hcell
  simp -dsimp (disch:=first|omega|(simp only[go_sem,seval];try omega))only[go_sem,seval,hcell]
  have ha0:Chg [] wi (wi.alloc (.cells #[.int .i64 k.kind,.int .i64 k.n,.string (Aq k.s)] 125)):=by(repeat (first|exact Chg.refl _ _|apply Chg.drew|apply Chg.alloc|(refine Chg.set ?_ _ _ (by first|(left;simp;done)|(right;omega)))))
  generalize wi.alloc (.cells #[.int .i64 k.kind,.int .i64 k.n,.string (Aq k.s)] 125)=w2 at *
  have hz2:=ha0.size
  refine OpX.call Zf rfl (Calls.ret (TZ (A.chg0 ha0) okS (by omega) (by omega) k hsm) ?_)
  rintro v w3 ⟨word,v',rfl,S2,A3,ok3,T3,hv',hrel⟩
  have T03:Trn (S1.own s) (S2.own s) wi w3:=(Trn.of0 ha0 fun _ h=>.inl h).trans T3
  have hz3:=T3.size
  have run3:KRun S0 (Q.ks.take (i+1)) S2 (vs++[(word,v')]):=by rw[ht];exact .snoc run hrel
  have hvl:vs.length=i:=by rw[run.len,List.length_take];omega
  have ok3:S2.ok (lim+(i+1:Nat)):=ok3.mono (by omega)
  have ho3:Ox w1.heap.size w3 30 1 erF (.slice a5 xs.length c5) xs:=by
   obtain⟨F,hc,hF⟩:=T03.chg
   exact ho.chg hc fun b hb hm=>hno b hb (hF b hm)
  have hno3:∀b,some b=(Value.slice a5 xs.length c5).ownBlock→¬S2.own s b:=fun b hb h9=>(T03.grow b h9).elim (hno b hb) fun h9=>by
   obtain⟨-,-,-,-,-,hown,-⟩:=ho.form
   have:=(hown b hb).2
   omega
  have hE3:∀j p x,vs[j]?=some p→xs[j]?=some x→EAt (S2.own s) w3 j p x:=fun j p x hj hx=>(hE j p x hj hx).trn T03
  have hnext:∀(x:Option (TypeId × Value)) (w4:World),Chg [] w3 w4→EAt (S2.own s) w4 i (word,v') x→OpX Tryz.prog (.buildSlice 116 1 #[(0,.const (erV x))]) 116 (fun t33=>OpX Tryz.prog (.call { callee:=.builtin .append,args:=#[.const (.slice a5 xs.length c5),.const t33],argTypes:=#[116,116] }) 116 fun t34=>xO .add 3 (.int .i64 i) (.int .i64 1) fun t35=>next t34 t35) w4:=by
   intro x w4 hc4 hx4
   have hsl:∃w5,(OpX Tryz.prog (.buildSlice 116 1 #[(0,.const (erV x))]) 116 (fun t33=>OpX Tryz.prog (.call { callee:=.builtin .append,args:=#[.const (.slice a5 xs.length c5),.const t33],argTypes:=#[116,116] }) 116 fun t34=>xO .add 3 (.int .i64 i) (.int .i64 1) fun t35=>next t34 t35) w4=OpX Tryz.prog (.call { callee:=.builtin .append,args:=#[.const (.slice a5 xs.length c5),.const (.slice (some ⟨w4.heap.size,0,none⟩) 1 1)],argTypes:=#[116,116] }) 116 (fun t34=>xO .add 3 (.int .i64 i) (.int .i64 1) fun t35=>next t34 t35) w5)∧Chg [] w4 w5∧w5.heap[w4.heap.size]?=some (.cells #[erV x] 30):=by
    cases x with
    | none =>
     simp only[erV]
     refine⟨w4.alloc (.cells #[.nilIface] 30),?_,by(repeat (first|exact Chg.refl _ _|apply Chg.drew|apply Chg.alloc|(refine Chg.set ?_ _ _ (by first|(left;simp;done)|(right;omega))))),(by simp -dsimp (disch:=first|omega|(simp only[go_sem,seval];try omega))only[go_sem,seval])⟩
     simp -dsimp (disch:=first|omega|(simp only[go_sem,seval];try omega))only[go_sem,seval]
    | some p =>
     simp only[erV]
     refine⟨w4.alloc (.cells #[.iface p.1 p.2] 30),?_,by(repeat (first|exact Chg.refl _ _|apply Chg.drew|apply Chg.alloc|(refine Chg.set ?_ _ _ (by first|(left;simp;done)|(right;omega))))),(by simp -dsimp (disch:=first|omega|(simp only[go_sem,seval];try omega))only[go_sem,seval])⟩
     simp -dsimp (disch:=first|omega|(simp only[go_sem,seval];try omega))only[go_sem,seval]
   obtain⟨w5,e5,hc5,h5⟩:=hsl
   rw[e5]
   clear e5
   have hc35:=hc4.trans0 hc5
   have hz5:=hc35.size
   have hsa:Sx w5 (some 30) erF (some ⟨w4.heap.size,0,none⟩) [x]:=Sx.built (c:=erF x) h5 (by simp)
   refine BL LK L6 M0 (ho3.chg0 hc35) hsa rfl (by rw[List.length_singleton];omega) (by omega) (by omega) ?_
   intro v6 w6 ho6 hc6 hown6
   obtain⟨a6,c6,rfl,-⟩:=ho6.form
   simp -dsimp (disch:=first|omega|(simp only[go_sem,seval];try omega))only[go_sem,seval,e1]
   have hge6:∀x∈(Value.slice a5 xs.length c5).ownBlock.toList,w1.heap.size≤x:=(ho3.chg0 hc35).own_ge
   have hc36:Chg (Value.slice a5 xs.length c5).ownBlock.toList w3 w6:=(hc35.mono (by simp)).trans hc6 (fun x hx=>.inl hx)
   refine hn (i+1,a6,c6,xs++[x]) _ ⟨by dsimp only;omega,S2,vs++[(word,v')],A3.chg hc36 (fun x hx=>hno3 x (by simpa [eq_comm] using hx)),ok3,(T.trans T03).priv hc36 hge6,run3,by simp [hxl],ho6,?_,?_⟩ (by dsimp only;omega)
   ·intro b hb
    rcases hown6 with e|e
    ·exact hno3 b (by rw[←e];exact hb)
    ·have hb:some b=(Value.slice a6 (xs++[x]).length c6).ownBlock:=hb
     rw[e] at hb
     cases hb
     intro h9
     have:=A3.lt _ h9
     omega
   ·intro j p y hj hy
    dsimp only at hy
    rcases Nat.lt_trichotomy j i with h9|h9|h9
    ·rw[List.getElem?_append_left (by omega)] at hj
     rw[List.getElem?_append_left (by omega)] at hy
     exact((hE3 j p y hj hy).chg0 hc35).app (ho3.chg0 hc35) hc6
    ·subst h9
     rw[List.getElem?_append_right (by omega),hvl,Nat.sub_self] at hj
     rw[List.getElem?_append_right (by omega),hxl,Nat.sub_self] at hy
     simp only[List.getElem?_cons_zero,Option.some.injEq] at hj hy
     subst hj hy
     exact(hx4.chg0 hc5).app (ho3.chg0 hc35) hc6
    ·rw[List.getElem?_eq_none (by simp;omega)] at hj
     cases hj
  rcases hv' with rfl|⟨c,hc0,rfl⟩
  ·simp -dsimp (disch:=first|omega|(simp only[go_sem,seval];try omega))only[go_sem,seval]
   refine OpX.call MY rfl (Calls.ret (Yy w3 (Aq word)) ?_)
   rintro v w4 ⟨rfl,rfl⟩
   refine OpX.call K9 rfl (Calls.ret (QX w4 i) ?_)
   rintro v w5 ⟨rfl,rfl⟩
   exact hnext none w5 (Chg.refl _ _) (.inl ⟨rfl,rfl⟩)
  ·simp -dsimp (disch:=first|omega|(simp only[go_sem,seval];try omega))only[go_sem,seval]
   refine OpX.call MY rfl (Calls.ret (Ph w3 _ _ (Aq word)) ?_)
   rintro v w4 ⟨rfl,h4,hc4⟩
   refine OpX.call K9 rfl (Calls.ret (RQ w4 _ _ i) ?_)
   rintro v w5 ⟨rfl,h5,hc5⟩
   have hlt:=A3.lt
   have hz4:=hc4.size
   exact hnext (some (_,_)) w5 (hc4.trans0 hc5) (.inr ⟨c,_,_,rfl,hc0,rfl,fun h=>by have:=hlt _ h;omega,fun h=>by have:=hlt _ h;omega,h5,hc5.keep h4 (by simp)⟩)
 ·have hil:i=Q.ks.length:=by omega
  subst hil
  rw[List.take_length] at run
  obtain⟨a9,c9,e9,-,hs3,-,-⟩:=ho.form
  simp only[Value.slice.injEq] at e9
  obtain⟨rfl,-,rfl⟩:=e9
  refine OpX.call Ug rfl (Calls.ret (Pj hs3 (by omega)) ?_)
  rintro v w2 ⟨hc2,hj⟩
  have hvl:=run.len
  refine hK _ _ ⟨S1,vs,A.chg0 hc2,okS.mono (by omega),(T1.trans T).chg0 hc2,run,fun hall=>?_,fun word c he=>?_⟩
  ·have hk0:Bm xs=[]:=by
    unfold Bm
    rw[List.filter_eq_nil_iff]
    intro x hx
    obtain⟨j,hj,e⟩:=List.mem_iff_getElem.1 hx
    have hjv:j<vs.length:=by omega
    rcases hE j vs[j] x (List.getElem?_eq_getElem hjv) (by rw[List.getElem?_eq_getElem hj,e]) with ⟨-,e2⟩|⟨c,b,b2,h1,-⟩
    ·rw[e2];simp
    ·rw[hall _ (List.getElem_mem hjv)] at h1;cases h1
   rw[hk0] at hj
   rcases hj with ⟨-,rfl⟩|⟨p,h9,-⟩|⟨h9,-⟩
   ·rfl
   ·cases h9
   ·simp at h9
  ·subst he
   simp only[List.length_singleton] at hvl
   obtain⟨x,rfl⟩:∃x,xs=[x]:=by
    cases xs with
    | nil=>simp at hxl;omega
    | cons x l =>
     cases l with
     | nil=>exact⟨x,rfl⟩
     | cons y l=>simp at hxl;omega
   rcases hE 0 (word,Ax c) x rfl rfl with ⟨e2,-⟩|⟨c',b,b2,h1,h2,rfl,h4,h5,h6,h7⟩
   ·cases e2
   ·simp only[Ax,Value.iface.injEq,Value.int.injEq,true_and] at h1
    subst h1
    rcases hj with ⟨h9,-⟩|⟨p,h9,rfl⟩|⟨h9,-⟩
    ·cases h9
    ·cases h9
     exact⟨b,b2,rfl,hc2.keep h6 (by simp),hc2.keep h7 (by simp)⟩
    ·simp [Bm] at h9
end
section
variable {base:Nat} {w w' w'':World} {s:Nat} {S:Ss} {lim:Int}
theorem VN (h:SsAt base w s S) (ok:S.ok lim) (hbase:base≤w.heap.size) (win pane:Int) (l:List UInt8) (hl:l.length≤2000):Calls Tryz.prog 33 #[.pointer (some ⟨s,0,none⟩),.int .i64 win,.int .i64 pane,.string (Aq l)] w
  (Ac fun v w'=>(v=Ax 12∧w'=w∧∀W,S.get win=some W→pane∉W.pts.map (·.id))∨(v=.nilIface∧∃W p q b,S.get win=some W∧p∈W.pts∧p.id=pane∧q.ent=p.ent∧q.W=p.W∧q.H=p.H∧(q.M.S,q.T.kept,q.T.E)=({ (Bz (p.M.S,p.T.kept,p.T.E) [l]).1 with gone:=[] },(Bz (p.M.S,p.T.kept,p.T.E) [l]).2.1,(Bz (p.M.S,p.T.kept,p.T.E) [l]).2.2) ∧
   (S.back≤0→b=0)∧({ W with pts:=Bf W.pts q }:Wn).ok∧({ S with wins:=AX S.wins { W with pts:=Bf W.pts q },back:=b }:Ss).ok (lim+1)∧SsAt base w' s { S with wins:=AX S.wins { W with pts:=Bf W.pts q },back:=b }∧Trn (S.own s) (({ S with wins:=AX S.wins { W with pts:=Bf W.pts q },back:=b }:Ss).own s) w w')):=by
 apply V9
 intro K hK
 unfold O5
 refine OpX.call IG rfl (Calls.ret (H7 h win) ?_)
 rintro v w1 ⟨rfl,rfl⟩
 cases hg:S.get win with
 | none =>
  simp only[Cg,Option.map_none,Option.getD_none]
  refine OpX.call Iq rfl (Calls.ret (RE w1 pane) ?_)
  rintro v w2 ⟨rfl,rfl⟩
  simp -dsimp (disch:=first|omega|(simp only[go_sem,seval];try omega))only[go_sem,seval]
  refine OpX.call BX rfl (Calls.ret (BV _ 12) ?_)
  rintro v w2 ⟨rfl,rfl⟩
  exact hK _ _ (.inl ⟨rfl,rfl,fun W h=>by rw[hg] at h;cases h⟩)
 | some W =>
  simp only[Cg,Option.map_some,Option.getD_some]
  obtain⟨hWm,hWn⟩:=Ss.get_mem hg
  have hA:=h.each W hWm
  obtain⟨wok,wR,wnew,wn⟩:=ok.win W hWm
  refine OpX.call Iq rfl (Calls.ret (I5 hA pane) ?_)
  rintro v w2 ⟨rfl,rfl⟩
  cases hf:W.pts.find? fun p=>p.ent.1 == pane with
  | none =>
   simp only[Option.map_none,Option.getD_none]
   simp -dsimp (disch:=first|omega|(simp only[go_sem,seval];try omega))only[go_sem,seval]
   refine OpX.call BX rfl (Calls.ret (BV _ 12) ?_)
   rintro v w2 ⟨rfl,rfl⟩
   refine hK _ _ (.inl ⟨rfl,rfl,fun V hV=>?_⟩)
   rw[hg] at hV
   cases hV
   intro hm
   obtain⟨p,hp,e⟩:=List.mem_map.1 hm
   have:=List.find?_eq_none.1 hf p hp
   simp [Pt.ent] at this
   exact this e
  | some p =>
   simp only[Option.map_some,Option.getD_some]
   obtain⟨hp,hpi⟩:=Hx hf
   have hP:=hA.each p hp
   simp -dsimp (disch:=first|omega|(simp only[go_sem,seval];try omega))only[go_sem,seval]
   refine OpX.gen fun w3 hw3=>?_
   have hc3:Chg [] w2 w3:=by rw[hw3];(repeat (first|exact Chg.refl _ _|apply Chg.drew|apply Chg.alloc|(refine Chg.set ?_ _ _ (by first|(left;simp;done)|(right;omega)))))
   have hsa:Sx w3 (some 9) bsF (some ⟨w2.heap.size,0,none⟩) [l]:=Sx.built (c:=bsF l) (by rw[hw3];simp only[bsF];simp -dsimp (disch:=first|omega|(simp only[go_sem,seval];try omega))only[go_sem,seval]) (by simp)
   clear hw3
   have hz3:=hc3.size
   have hP3:=hP.chg0 hc3
   have hlt:∀x∈p.t::p.T.s::p.M.blk,x<w2.heap.size:=by
    intro x hx
    simp only[List.mem_cons] at hx
    refine hP.lt x ?_
    rcases hx with rfl|rfl|hx
    ·exact .inl rfl
    ·exact .inr (.inl rfl)
    ·exact .inr (.inr (.inl hx))
   refine OpX.call Zh rfl (Calls.ret (Xd hP3.1 (by omega) hsa (by simp;omega) (fun b o e hne hm=>by cases e;have:=hlt _ hm;omega) 1 (by simp)) ?_)
   rintro v w4 ⟨M',G',k,E,hT,hfed,hroom,hlist,hc4,hrows,hgrow⟩
   obtain⟨q,hq⟩:∃q:Pt,q={ p with T:={ p.T with kept:=k,E:=E },M:=M',G:=G' }:=⟨_,rfl⟩
   have hPq:BG base w4 q:=by rw[hq];exact⟨hT,hrows⟩
   have hqe:q.ent=p.ent:=by rw[hq];rfl
   have Tq:Trn p.own q.own w2 w4:=by
    refine Trn.of ((hc3.mono (by simp)).trans hc4 fun x hx=>.inl hx) (fun x hx=>?_) (fun x hx=>?_)
    ·simp only[List.cons_append,List.mem_cons,List.mem_append] at hx
     rcases hx with rfl|rfl|hx|rfl|hx
     ·exact .inl rfl
     ·exact .inr (.inl rfl)
     ·exact .inr (.inr (.inl hx))
     ·exact .inr (.inr (.inr (.inl rfl)))
     ·exact .inr (.inr (.inr (.inr (.inl hx))))
    ·rw[hq] at hx
     exact(hgrow x hx).imp id fun h=>by omega
   have hfq:(q.M.S,q.T.kept,q.T.E)=({ (Bz (p.M.S,p.T.kept,p.T.E) [l]).1 with gone:=[] },(Bz (p.M.S,p.T.kept,p.T.E) [l]).2.1,(Bz (p.M.S,p.T.kept,p.T.E) [l]).2.2):=by rw[hq];exact hfed
   have hqW:q.W=p.W:=by rw[hq]
   have hqH:q.H=p.H:=by rw[hq]
   clear hq
   obtain⟨A1,T1⟩:=hA.turn hp hqe Tq hPq hbase
   have wok1:({ W with pts:=Bf W.pts q }:Wn).ok:=⟨wok.lay,wok.act,by dsimp only;rw[Ip];exact wok.has,fun r hr x hx=>by
    rcases Iw hr with rfl|⟨hr,-⟩
    ·rw[hqW,hqH]
     exact wok.size p hp x (by rw[show p.id=r.id from(congrArg Prod.fst hqe).symm];exact hx)
    ·exact wok.size r hr x hx⟩
   obtain⟨A2,T2⟩:=h.turn (V:={ W with pts:=Bf W.pts q }) hWm rfl rfl rfl T1 A1 hbase
   have ok2:=ok.put (V:={ W with pts:=Bf W.pts q }) hWm rfl wok1 rfl (by show W.L.newest≤_;omega)
   obtain⟨W2,hg2⟩:=Ss.get_cur ok2
   have hW2:=ok2.win W2 (Ss.get_mem hg2).1
   refine OpX.call Oo rfl (Calls.ret (O3 A2 hg2 hW2.1 0 ok.back0 ok.back1 (by decide) (by decide)) ?_)
   rintro v w5 ⟨b,b0,b1,b2,A3,T3⟩
   have ok3:({ S with wins:=AX S.wins { W with pts:=Bf W.pts q },back:=b }:Ss).ok (lim+1):=⟨ok2.w0,ok2.w1,ok2.h0,ok2.h1,ok2.win,ok2.cur,b0,b1,ok2.few,ok2.dis0,ok2.dis1⟩
   exact hK _ _ (.inr ⟨rfl,W,p,q,b,hg,hp,hpi,hqe,hqW,hqH,hfq,fun hb=>b2 (by show S.back+0≤0;omega),wok1,ok3,A3,T2.trans T3⟩)
end
theorem Hl {it m c:Nat} {l:AG} {w:World} (hit:w.heap[it]?=some (.mapIter (some m) c #[] c)) (hlt:∀x∈l,ebo x<c) (hnd:(l.map ebo).Nodup) (I:AG→World→Prop) (h0:I [] w)
  (hI:∀done w1 w2,I done w1→Chg [it] w1 w2→I done w2) (hM:∀done w1,I done w1→w1.heap[m]?=some (.map (Ar .i64 l) c)) {B:Value→(World→Prop)→World→Prop} {E:World→Prop}
  (hE:∀done w1,(∀x,x∈l→ebo x∈done.map ebo)→I done w1→E w1)
  (hB:∀done y w1 (next:World→Prop),I done w1→y∈l→ebo y∉done.map ebo→(∀w2,I (done++[y]) w2→(∃G,Chg G w1 w2∧it∉G)→next w2)→B (.tuple #[.int .i64 y.1,y.2.1]) next w1) :
  Loop0 (fun next=>OpX Tryz.prog (.next (.const (.pointer (some ⟨it,0,none⟩))) false) 0 fun t24=>xE t24 0 4 fun t25=>xW t25 (OpX Tryz.prog (.entry (.const (.pointer (some ⟨it,0,none⟩)))) 0 fun t26=>B t26 next) E) w:=by
 have hborn:∀x∈(Ar .i64 l).toList,x.born<c:=by
  intro x hx
  obtain⟨y,hy,rfl⟩:=FR hx
  exact hlt y hy
 refine Loop0.st (fun(done:AG) w1=>(∀x∈done,x∈l)∧(done.map ebo).Nodup∧I done w1∧w1.heap[it]?=some (.mapIter (some m) c (done.map ebo).toArray c)) (fun done=>l.length-done.length) [] ⟨by simp,by simp,h0,hit⟩ ?_
 rintro next done w1 hn ⟨hd,hdn,hi,hit⟩
 have hm1:=hM _ _ hi
 refine LY hit hm1 hborn (fun hover=>?_) (fun e he hne w2 hw2=>?_)
 ·simp -dsimp (disch:=first|omega|(simp only[go_sem,seval];try omega))only[go_sem,seval]
  refine hE done w1 (fun x hx=>?_) hi
  have:=hover ⟨.int .i64 x.1,x.2.1,x.2.2⟩ (by simp only[Ar,List.mem_map];exact⟨x,hx,rfl⟩)
  simpa [ebo] using this
 ·obtain⟨y,hyl,rfl⟩:=FR he
  have hnd':ebo y∉done.map ebo:=by simpa [ebo] using hne
  have hit2:w2.heap[it]?=some (.mapIter (some m) c (done.map ebo).toArray c):=by rcases hw2 with rfl|rfl<;>exact hit
  have hc2:Chg [] w1 w2:=by rcases hw2 with rfl|rfl;exact Chg.refl _ _;exact(Chg.refl _ _).drew
  have hl2:=Aa hit2
  have hc3:Chg [it] w1 (Ab w2 it (.mapIter (some m) c ((done.map ebo).toArray.push y.2.2) c)):=(hc2.mono (by simp)).set _ _ (by simp)
  have hi3:=hI _ _ _ hi hc3
  have hit3:(Ab w2 it (.mapIter (some m) c ((done.map ebo).toArray.push y.2.2) c)).heap[it]?=some (.mapIter (some m) c ((done.map ebo).toArray.push y.2.2) c):=Au _ _ _ _ rfl hl2
  generalize Ab w2 _ _=w3 at hc3 hi3 hit3 ⊢
  have hm3:=hM _ _ hi3
  simp -dsimp (disch:=first|omega|(simp only[go_sem,seval];try omega))only[go_sem,seval]
  rw[OO (e:=⟨.int .i64 y.1,y.2.1,y.2.2⟩) hit3 hm3 he (by rw[N6];exact hnd)]
  have hdl:done.length<l.length:=by
   have h1:(done.map ebo++[ebo y]).Nodup:=by
    rw[List.nodup_append]
    exact⟨hdn,by simp,by intro a ha b hb;simp at hb;subst hb;rintro rfl;exact hnd' ha⟩
   have h2:=List.Nodup.length_le_of_subset h1 (l₂:=l.map ebo) (by
    intro a ha
    rcases List.mem_append.1 ha with ha|ha
    ·obtain⟨z,hz,rfl⟩:=List.mem_map.1 ha
     exact List.mem_map.2 ⟨z,hd z hz,rfl⟩
    ·simp at ha;subst ha;exact List.mem_map.2 ⟨y,hyl,rfl⟩)
   simp at h2;omega
  refine hB done y w3 next hi3 hyl hnd' fun w4 hi4 hc4=>?_
  obtain⟨G,hc4,hG⟩:=hc4
  have hit4:=hc4.keep hit3 hG
  refine hn (done++[y]) _ ⟨?_,?_,hi4,?_⟩ (by simp;omega)
  ·intro x hx
   rcases List.mem_append.1 hx with hx|hx
   ·exact hd x hx
   ·simp at hx;subst hx;exact hyl
  ·rw[List.map_append,List.nodup_append]
   exact⟨hdn,by simp,by intro a ha b hb;simp at hb;subst hb;rintro rfl;exact hnd' ha⟩
  ·rw[hit4];simp [ebo]
def ro (φ:Nat→Rc) (W:Wn):Wn:={ W with L:={ W.L with R:=φ W.born } }
def upd (φ:Nat→Rc) (b:Nat) (R:Rc):Nat→Rc:=fun x=>if x=b then R else φ x
def Ss.ro (S:Ss) (φ:Nat→Rc):Ss:={ S with wins:=S.wins.map (Go.Proofs.YtelplojmbjnplaaGreatDoor.ro φ) }
section
variable {base:Nat} {w w' w'':World} {s:Nat} {S:Ss} {lim:Int}
theorem EN (φ:Nat→Rc):∀l:List Wn,(l.map (ro φ)).map Wn.ent=l.map Wn.ent:=fun l=>by rw[List.map_map];rfl
theorem Ii {φ:Nat→Rc}:∀{l:List Wn},(∀W∈l,W.L.R=φ W.born)→l.map (ro φ)=l
 | [],_=>rfl
 | W::l,h=>by
  have h1:=h W (by simp)
  rw[List.map_cons,Ii (fun V hV=>h V (by simp [hV]))]
  unfold ro
  rw[←h1]
theorem Ss.ro_own (S:Ss) (φ:Nat→Rc) (s:Nat):(S.ro φ).own s=S.own s:=by
 funext x
 refine propext ⟨?_,?_⟩
 ·rintro(h|h|h|⟨W,hW,h⟩)
  ·exact .inl h
  ·exact .inr (.inl h)
  ·exact .inr (.inr (.inl h))
  ·obtain⟨V,hV,rfl⟩:=List.mem_map.1 hW
   exact .inr (.inr (.inr ⟨V,hV,h⟩))
 ·rintro(h|h|h|⟨W,hW,h⟩)
  ·exact .inl h
  ·exact .inr (.inl h)
  ·exact .inr (.inr (.inl h))
  ·exact .inr (.inr (.inr ⟨Go.Proofs.YtelplojmbjnplaaGreatDoor.ro φ W,List.mem_map.2 ⟨W,hW,rfl⟩,h⟩))
theorem SsAt.ro1 {φ:Nat→Rc} {R:Rc} {W:Wn} (h:SsAt base w s (S.ro φ)) (hids:(S.wins.map (·.n)).Nodup) (hbnd:(S.wins.map (·.born)).Nodup) (hW:W∈S.wins) (hc:Chg [W.lb] w w') (hL:LAt w' W.lb { W.L with R:=R }) (hbase:base≤w.heap.size) :
  SsAt base w' s (S.ro (upd φ W.born R))∧Trn (S.own s) (S.own s) w w':=by
 have hWm:ro φ W∈(S.ro φ).wins:=List.mem_map.2 ⟨W,hW,rfl⟩
 have hA:=h.each _ hWm
 have hne:=hA.ne
 obtain⟨A1,T1⟩:=hA.laid (L:={ W.L with R:=R }) (act:=W.active) hc (fun x hx=>by simp at hx;subst hx;exact .inr (.inl rfl)) hL (hc.keep hA.hb (by simp;exact hne.1)) (fun x hx=>.inl hx) hbase
 obtain⟨A2,T2⟩:=h.turn hWm (V:={ W with L:={ W.L with R:=R } }) rfl rfl rfl T1 A1 hbase
 have e:AX (S.wins.map (ro φ)) { W with L:={ W.L with R:=R } }=S.wins.map (ro (upd φ W.born R)):=by
  unfold AX
  rw[List.map_map]
  apply List.map_congr_left
  intro V hV
  simp only[Function.comp,ro,upd]
  by_cases hb:V.born=W.born
  ·have:=Dc hbnd hV hW hb
   subst this
   simp
  ·have hn:V.n≠W.n:=fun e=>hb (by rw[Dc hids hV hW e])
   exact(if_neg hn).trans (by rw[if_neg hb])
 have e2:({ S.ro φ with wins:=AX (S.ro φ).wins { W with L:={ W.L with R:=R } } }:Ss)=S.ro (upd φ W.born R):=by
  unfold Ss.ro
  dsimp only
  rw[e]
 rw[e2] at A2 T2
 rw[Ss.ro_own,Ss.ro_own] at T2
 exact⟨A2,T2⟩
theorem MQ (w:World) (x y:Int):Calls Tryz.prog 28 #[.int .i64 x,.int .i64 y] w (Ac fun v w'=>v=.bool (decide (1≤x∧x≤200∧2≤y∧y≤60))∧w'=w):=by
 apply QO
 intro K hK
 unfold Nb
 refine Join1.cut (fun v w'=>v=.bool (decide (1≤x∧x≤200∧2≤y∧y≤60))∧w'=w) ?_ (fun v w' h=>hK _ _ h)
 simp -dsimp (disch:=first|omega|(simp only[go_sem,seval];try omega))only[go_sem,seval]
 refine BrW.dec (fun g1=>?_) (fun g1=>⟨congrArg Value.bool (decide_eq_false (by omega)).symm,rfl⟩)
 simp -dsimp (disch:=first|omega|(simp only[go_sem,seval];try omega))only[go_sem,seval]
 refine BrW.dec (fun g2=>?_) (fun g2=>⟨congrArg Value.bool (decide_eq_false (by omega)).symm,rfl⟩)
 simp -dsimp (disch:=first|omega|(simp only[go_sem,seval];try omega))only[go_sem,seval]
 refine BrW.dec (fun g3=>?_) (fun g3=>⟨congrArg Value.bool (decide_eq_false (by omega)).symm,rfl⟩)
 simp -dsimp (disch:=first|omega|(simp only[go_sem,seval];try omega))only[go_sem,seval]
 exact congrArg Value.bool (decide_eq_decide.2 ⟨fun h=>by omega,fun h=>by omega⟩)
theorem R7 (h:SsAt base w s S) (ok:S.ok lim) (hbase:base≤w.heap.size) (x y:Int):Calls Tryz.prog 34 #[.pointer (some ⟨s,0,none⟩),.int .i64 x,.int .i64 y] w
  (Ac fun v w'=>(¬(1≤x∧x≤200∧2≤y∧y≤60)∧v=Ax 1∧w'=w)∨(1≤x∧x≤200∧2≤y∧y≤60∧(
   (v=Ax 19∧SsAt base w' s S∧Trn (S.own s) (S.own s) w w') ∨
   (v=.nilIface∧∃wl,SsAt base w' s { S with w:=x,h:=y,wins:=wl }∧({ S with w:=x,h:=y,wins:=wl }:Ss).ok lim∧Trn (S.own s) (({ S with w:=x,h:=y,wins:=wl }:Ss).own s) w w'∧wl.map (·.n)=S.wins.map (·.n)∧∀V∈wl,∃W∈S.wins,V.n=W.n∧V.L.root=W.L.root∧V.active=W.active)))):=by
 apply Ru
 intro K hK
 unfold JI
 refine OpX.call Jc rfl (Calls.ret (MQ w x y) ?_)
 rintro v w1 ⟨rfl,rfl⟩
 by_cases hmay:1≤x∧x≤200∧2≤y∧y≤60
 ·rw[decide_eq_true hmay]
  obtain⟨x1,x2,y1,y2⟩:=hmay
  have hb:=h.hb
  have hm:=h.hm
  have hltS:=h.lt
  simp -dsimp (disch:=first|omega|(simp only[go_sem,seval];try omega))only[go_sem,seval,hb]
  rw[Gs F5.1 hm]
  have hca:Chg [] w1 (w1.alloc (.mapIter (some S.m) S.mc #[] S.mc)):=AE _ _
  have hit:(w1.alloc (.mapIter (some S.m) S.mc #[] S.mc)).heap[w1.heap.size]?=some (.mapIter (some S.m) S.mc #[] S.mc):=Lyc.heap_alloc_new _ _ _ rfl
  have hltb:∀z∈S.wins.map Wn.ent,ebo z<S.mc:=by
   intro z hz
   obtain⟨W,hW,rfl⟩:=List.mem_map.1 hz
   exact h.born W hW
  have hebo:(S.wins.map Wn.ent).map ebo=S.wins.map (·.born):=by rw[List.map_map];rfl
  have hndb:((S.wins.map Wn.ent).map ebo).Nodup:=by rw[hebo];exact h.bnd
  generalize w1.alloc (.mapIter (some S.m) S.mc #[] S.mc)=wa at hca hit ⊢
  have hza:=hca.size
  obtain⟨it,hite⟩:∃it,it=w1.heap.size:=⟨_,rfl⟩
  rw[←hite] at hit ⊢
  have hito:¬S.own s it:=fun h9=>by have:=hltS _ h9;omega
  have hR0:∀W∈S.wins,W.L.R=⟨0,0,S.w,S.h-1⟩:=fun W hW=>(ok.win W hW).2.1
  have hR1:(⟨0,0,x,y-1⟩:Rc).ok:=⟨Int.le_refl _,Int.le_refl _,x1,by dsimp only;omega,by dsimp only;omega,by dsimp only;omega⟩
  have h0:SsAt base wa s (S.ro fun _=>⟨0,0,S.w,S.h-1⟩):=by
   unfold Ss.ro
   rw[Ii hR0]
   exact h.chg0 hca
  refine Hl hit hltb hndb (fun done w'=>∃φ,SsAt base w' s (S.ro φ)∧Trn (S.own s) (S.own s) w1 w'∧(∀W∈S.wins,W.born∈done.map ebo→φ W.born=⟨0,0,x,y-1⟩)∧∀W∈S.wins,W.L.root.fits (φ W.born)=true∧(φ W.born).ok)
   ⟨_,h0,Trn.of0 hca (fun _ h=>.inl h),by simp,fun W hW=>let ⟨a,b,c,d⟩:=ok.win W hW;⟨by rw[←b];exact a.lay.fits,by rw[←b];exact a.lay.R⟩⟩ ?_ ?_ ?_ ?_
  ·rintro done wi wj ⟨φ,A,T,f1,f2⟩ hc
   exact⟨φ,A.chg hc (fun z hz=>by simp at hz;subst hz;rw[Ss.ro_own];exact hito),T.priv hc (by simp;omega),f1,f2⟩
  ·rintro done wi ⟨φ,A,T,f1,f2⟩
   have:=A.hm
   rw[show(S.ro φ).wins=S.wins.map (ro φ) from rfl,EN] at this
   exact this
  ·rintro done wi hall ⟨φ,A,T,f1,f2⟩
   have hzi:=T.size
   have hbi:=A.hb
   have lbi:=Aa hbi
   have hall1:∀W∈S.wins,φ W.born=⟨0,0,x,y-1⟩:=fun W hW=>f1 W hW (hall W.ent (List.mem_map.2 ⟨W,hW,rfl⟩))
   dsimp only[Ss.ro] at hbi
   simp -dsimp (disch:=first|omega|(simp only[go_sem,seval];try omega))only[go_sem,seval,hbi]
   refine Dz (F:=OpX _ _ _ _) fun wj hwj=>?_
   have hcj:Chg [s] wi wj:=by rw[hwj];exact(Chg.refl _ _).set _ _ (by simp)
   have hbj:wj.heap[s]?=some (.cells #[.int .i64 x,.int .i64 y,.int .i64 S.room,.map (some S.m),.int .i64 S.cur,.bool S.cop,.bool S.pre,.int .i64 S.back,S.tv,.int .i64 S.dis] 80):=by rw[hwj];exact Au _ _ _ _ rfl lbi
   clear hwj
   obtain⟨A2,T2⟩:=A.self hcj hbj
   have T12:Trn (S.own s) (({ S with w:=x,h:=y,wins:=S.wins.map (ro φ) }:Ss).own s) w1 wj:=(show Trn (S.own s) ((S.ro φ).own s) w1 wi by rw[Ss.ro_own];exact T).trans T2
   have A2:SsAt base wj s { S with w:=x,h:=y,wins:=S.wins.map (ro φ) }:=A2
   have hm2:=A2.hm
   dsimp only at hm2
   rw[EN] at hm2
   have hzj:=T12.size
   rw[Gs F5.1 hm2]
   have hcb:Chg [] wj (wj.alloc (.mapIter (some S.m) S.mc #[] S.mc)):=AE _ _
   have hit2:(wj.alloc (.mapIter (some S.m) S.mc #[] S.mc)).heap[wj.heap.size]?=some (.mapIter (some S.m) S.mc #[] S.mc):=Lyc.heap_alloc_new _ _ _ rfl
   generalize wj.alloc (.mapIter (some S.m) S.mc #[] S.mc)=wb at hcb hit2 ⊢
   have hzb:=hcb.size
   obtain⟨it2,hite2⟩:∃it2,it2=wj.heap.size:=⟨_,rfl⟩
   rw[←hite2] at hit2 ⊢
   refine Hl hit2 hltb hndb (fun done w'=>∃wl,SsAt base w' s { S with w:=x,h:=y,wins:=wl }∧¬(({ S with w:=x,h:=y,wins:=wl }:Ss).own s it2)∧it2<w'.heap.size∧Trn (S.own s) (({ S with w:=x,h:=y,wins:=wl }:Ss).own s) w1 w'∧wl.map Wn.ent=S.wins.map Wn.ent ∧
    ∀V∈wl,∃W∈S.wins,V.n=W.n∧V.L.root=W.L.root∧V.active=W.active∧V.L.newest=W.L.newest∧V.L.R=⟨0,0,x,y-1⟩∧V.L.ok∧(∀i,i∈V.pts.map (·.id)↔i∈V.L.root.ids)∧(V.born∈done.map ebo→V.ok))
    ⟨S.wins.map (ro φ),A2.chg0 hcb,fun h9=>by have:=A2.lt _ h9;omega,Aa hit2,T12.chg0 hcb,EN _ _,fun V hV=>?_⟩ ?_ ?_ ?_ ?_
   ·obtain⟨W,hW,rfl⟩:=List.mem_map.1 hV
    obtain⟨a,b,c,d⟩:=ok.win W hW
    obtain⟨e1,e2⟩:=f2 W hW
    exact⟨W,hW,rfl,rfl,rfl,rfl,hall1 W hW,⟨a.lay.ok,e2,e1,a.lay.nd,a.lay.new,a.lay.few⟩,a.has,fun h9=>by simp at h9⟩
   ·rintro done wi2 wj2 ⟨wl,B1,B2,B2',B3,B4,B5⟩ hc
    exact⟨wl,B1.chg hc (fun z hz=>by simp at hz;subst hz;exact B2),B2,by have:=hc.size;omega,B3.priv hc (by simp;omega),B4,B5⟩
   ·rintro done wi2 ⟨wl,B1,B2,B2',B3,B4,B5⟩
    have:=B1.hm
    dsimp only at this
    rw[B4] at this
    exact this
   ·rintro done2 wi2 hall2 ⟨wl,B1,B2,B2',B3,B4,B5⟩
    have hn:wl.map (·.n)=S.wins.map (·.n):=by
     have:=congrArg (List.map (·.1)) B4
     simpa [Wn.ent,Function.comp_def] using this
    refine hK _ _ (.inr ⟨x1,x2,y1,y2,.inr ⟨rfl,wl,B1,⟨x1,x2,y1,y2,fun V hV=>?_,by rw[hn];exact ok.cur,ok.back0,ok.back1,ok.few,ok.dis0,ok.dis1⟩,B3,hn,fun V hV=>?_⟩⟩)
    ·obtain⟨W,hW,e1,e2,e3,e4,e5,e6,e7,e8⟩:=B5 V hV
     obtain⟨a,b,c,d⟩:=ok.win W hW
     exact⟨e8 (hall2 V.ent (by rw[←B4];exact List.mem_map.2 ⟨V,hV,rfl⟩)),e5,by rw[e4];exact c,by rw[e1];exact d⟩
    ·obtain⟨W,hW,e1,e2,e3,-⟩:=B5 V hV
     exact⟨W,hW,e1,e2,e3⟩
   ·rintro done2 z wi2 next2 ⟨wl,B1,B2,B2',B3,B4,B5⟩ hz hznew hnext
    rw[←B4] at hz
    obtain⟨V,hV,rfl⟩:=List.mem_map.1 hz
    obtain⟨W,hW,e1,e2,e3,e4,e5,e6,e7,e8⟩:=B5 V hV
    have hAV:=B1.each V hV
    have hz3:=B3.size
    dsimp only[Wn.ent]
    simp -dsimp (disch:=first|omega|(simp only[go_sem,seval];try omega))only[go_sem,seval]
    refine OpX.call EX rfl (Calls.ret (EW hAV e6 (fun i hi=>(e7 i).1 hi) (by omega)) ?_)
    rintro v wi3 ⟨pts,tc,C1,C2,C3,C4⟩
    have hact:V.active∈V.L.root.ids:=by rw[e2,e3];exact(ok.win W hW).1.act
    obtain⟨D1,D2⟩:=B1.turn (V:={ V with pts:=pts,tc:=tc }) hV rfl rfl rfl C4 C1 (by omega)
    have D2:Trn (({ S with w:=x,h:=y,wins:=wl }:Ss).own s) (({ S with w:=x,h:=y,wins:=AX wl { V with pts:=pts,tc:=tc } }:Ss).own s) wi2 wi3:=D2
    refine hnext _ ⟨AX wl { V with pts:=pts,tc:=tc },D1,fun h9=>(D2.grow _ h9).elim B2 fun h9=>by omega,by have:=D2.size;omega,B3.trans D2,by exact(Hm Wn.ent (V:={ V with pts:=pts,tc:=tc }) hV B1.ids rfl rfl).trans B4,fun U hU=>?_⟩ ?_
    ·rcases Ey hU with rfl|⟨hU,hne⟩
     ·exact⟨W,hW,e1,e2,e3,e4,e5,e6,C2,fun _=>⟨e6,hact,C2,C3⟩⟩
     ·obtain⟨W',hW',g1,g2,g3,g4,g5,g6,g7,g8⟩:=B5 U hU
      refine⟨W',hW',g1,g2,g3,g4,g5,g6,g7,fun h9=>g8 ?_⟩
      rw[List.map_append,List.mem_append] at h9
      rcases h9 with h9|h9
      ·exact h9
      ·simp [ebo,Wn.ent] at h9
       exact absurd (by rw[Dc B1.bnd hU hV h9]) hne
    ·obtain⟨F,hc,hF⟩:=D2.chg
     exact⟨F,hc,fun h9=>B2 (hF _ h9)⟩
  ·rintro done z wi next ⟨φ,A,T,f1,f2⟩ hz hznew hnext
   obtain⟨W,hW,rfl⟩:=List.mem_map.1 hz
   have hzi:=T.size
   obtain⟨wok,wR,wnew,wn⟩:=ok.win W hW
   have hAW:=A.each (ro φ W) (List.mem_map.2 ⟨W,hW,rfl⟩)
   have hWb:=hAW.hb
   obtain⟨e1,e2⟩:=f2 W hW
   dsimp only[ro] at hWb
   dsimp only[Wn.ent]
   simp -dsimp (disch:=first|omega|(simp only[go_sem,seval];try omega))only[go_sem,seval,hWb]
   refine OpX.call IY rfl (Calls.ret (Jf (L:={ W.L with R:=φ W.born }) hAW.lay ⟨wok.lay.ok,e2,e1,wok.lay.nd,wok.lay.new,wok.lay.few⟩ x (y-1) x1 x2 (by omega) (by omega)) ?_)
   rintro v wj (⟨hf,rfl,hL,hc⟩|⟨hf,rfl,hc⟩)
   ·simp -dsimp (disch:=first|omega|(simp only[go_sem,seval];try omega))only[go_sem,seval]
    obtain⟨A2,T2⟩:=A.ro1 h.ids h.bnd hW hc hL (by omega)
    refine hnext _ ⟨_,A2,T.trans T2,fun V hV hb=>?_,fun V hV=>?_⟩ ?_
    ·unfold upd
     split
     ·rfl
     ·rename_i hne
      refine f1 V hV ?_
      rw[List.map_append,List.mem_append] at hb
      rcases hb with hb|hb
      ·exact hb
      ·simp [ebo,Wn.ent] at hb;exact absurd hb hne
    ·unfold upd
     split
     ·rename_i he
      rw[Dc h.bnd hV hW he]
      exact⟨hf,hR1⟩
     ·exact f2 V hV
    ·obtain⟨F,hc9,hF⟩:=T2.chg
     exact⟨F,hc9,fun h9=>hito (hF _ h9)⟩
   ·unfold Ax
    have A2:=A.chg0 hc
    have T2:=T.chg0 hc
    have hbj:=A2.hb
    have hmj:=A2.hm
    dsimp only[Ss.ro] at hbj hmj
    rw[EN] at hmj
    simp -dsimp (disch:=first|omega|(simp only[go_sem,seval];try omega))only[go_sem,seval,hbj]
    rw[Gs F5.1 hmj]
    have hcb:Chg [] wj (wj.alloc (.mapIter (some S.m) S.mc #[] S.mc)):=AE _ _
    have hit2:(wj.alloc (.mapIter (some S.m) S.mc #[] S.mc)).heap[wj.heap.size]?=some (.mapIter (some S.m) S.mc #[] S.mc):=Lyc.heap_alloc_new _ _ _ rfl
    have hltj:=A2.lt
    rw[Ss.ro_own] at hltj
    generalize wj.alloc (.mapIter (some S.m) S.mc #[] S.mc)=wb at hcb hit2 ⊢
    have hzb:=hcb.size
    have hzj:=T2.size
    obtain⟨it2,hite2⟩:∃it2,it2=wj.heap.size:=⟨_,rfl⟩
    rw[←hite2] at hit2 ⊢
    have hito2:¬S.own s it2:=fun h9=>by have:=hltj _ h9;omega
    refine Hl hit2 hltb hndb (fun done w'=>∃φ,SsAt base w' s (S.ro φ)∧Trn (S.own s) (S.own s) w1 w'∧(∀W∈S.wins,W.born∈done.map ebo→φ W.born=⟨0,0,S.w,S.h-1⟩)∧∀W∈S.wins,W.L.root.fits (φ W.born)=true∧(φ W.born).ok)
     ⟨φ,A2.chg0 hcb,T2.chg0 hcb,by simp,f2⟩ ?_ ?_ ?_ ?_
    ·rintro done2 wi2 wj2 ⟨ψ,B1,B2,g1,g2⟩ hc9
     exact⟨ψ,B1.chg hc9 (fun z hz=>by simp at hz;subst hz;rw[Ss.ro_own];exact hito2),B2.priv hc9 (by simp;omega),g1,g2⟩
    ·rintro done2 wi2 ⟨ψ,B1,B2,g1,g2⟩
     have:=B1.hm
     rw[show(S.ro ψ).wins=S.wins.map (ro ψ) from rfl,EN] at this
     exact this
    ·rintro done2 wi2 hall ⟨ψ,B1,B2,g1,g2⟩
     refine OpX.call BX rfl (Calls.ret (BV _ 19) ?_)
     rintro v w9 ⟨rfl,rfl⟩
     have eS:S.ro ψ=S:=by
      unfold Ss.ro
      rw[Ii fun V hV=>by rw[hR0 V hV,g1 V hV (hall V.ent (List.mem_map.2 ⟨V,hV,rfl⟩))]]
     rw[eS] at B1
     exact hK _ _ (.inr ⟨x1,x2,y1,y2,.inl ⟨rfl,B1,B2⟩⟩)
    ·rintro done2 z2 wi2 next2 ⟨ψ,B1,B2,g1,g2⟩ hz2 hznew2 hnext2
     obtain⟨V,hV,rfl⟩:=List.mem_map.1 hz2
     obtain⟨vok,vR,vnew,vn⟩:=ok.win V hV
     have hz9:=B2.size
     have hAV:=B1.each (ro ψ V) (List.mem_map.2 ⟨V,hV,rfl⟩)
     have hVb:=hAV.hb
     have hSb:=B1.hb
     obtain⟨k1,k2⟩:=g2 V hV
     have q0:=ok.w0
     have q1:=ok.w1
     have q2:=ok.h0
     have q3:=ok.h1
     dsimp only[ro] at hVb
     dsimp only[Ss.ro] at hSb
     dsimp only[Wn.ent]
     simp -dsimp (disch:=first|omega|(simp only[go_sem,seval];try omega))only[go_sem,seval,hVb,hSb]
     have hcd:Chg [] wi2 wi2.drew:=(Chg.refl _ _).drew
     refine OpX.call IY rfl (Calls.ret (Jf (L:={ V.L with R:=ψ V.born }) (hAV.lay.chg0 hcd) ⟨vok.lay.ok,k2,k1,vok.lay.nd,vok.lay.new,vok.lay.few⟩ S.w (S.h-1) q0 q1 (by omega) (by omega)) ?_)
     rintro v wj2 (⟨hf2,rfl,hL2,hc2⟩|⟨hf2,rfl,hc2⟩)
     ·obtain⟨C1,C2⟩:=(B1.chg0 hcd).ro1 h.ids h.bnd hV hc2 hL2 (by show base≤wi2.heap.size;omega)
      have C2:Trn (S.own s) (S.own s) wi2 wj2:=(Trn.of0 hcd fun _ h=>.inl h).trans C2
      refine hnext2 _ ⟨_,C1,B2.trans C2,fun U hU hb=>?_,fun U hU=>?_⟩ ?_
      ·unfold upd
       split
       ·rfl
       ·rename_i hne
        refine g1 U hU ?_
        rw[List.map_append,List.mem_append] at hb
        rcases hb with hb|hb
        ·exact hb
        ·simp [ebo,Wn.ent] at hb;exact absurd hb hne
      ·unfold upd
       split
       ·rename_i he
        rw[Dc h.bnd hU hV he]
        exact⟨by rw[←vR];exact vok.lay.fits,by rw[←vR];exact vok.lay.R⟩
       ·exact g2 U hU
      ·obtain⟨F,hc9,hF⟩:=C2.chg
       exact⟨F,hc9,fun h9=>hito2 (hF _ h9)⟩
     ·have:=vok.lay.fits
      rw[vR,hf2] at this
      cases this
 ·rw[decide_eq_false hmay]
  simp -dsimp (disch:=first|omega|(simp only[go_sem,seval];try omega))only[go_sem,seval]
  refine OpX.call BX rfl (Calls.ret (BV _ 1) ?_)
  rintro v w2 ⟨rfl,rfl⟩
  exact hK _ _ (.inl ⟨hmay,rfl,rfl⟩)
end
structure Ev where
 kind:Int
 win:Int
 pane:Int
 s:List UInt8
 w:Int
 h:Int
def Ev.val (e:Ev):Value:=.agg #[.int .i64 e.kind,.int .i64 e.win,.int .i64 e.pane,.string (Aq e.s),.int .i64 e.w,.int .i64 e.h]
inductive DRel (S:Ss) (e:Ev) (S':Ss) (v:Value) (w':World):Prop
 | long:2000<e.s.length→v=Ax 16→S'=S→DRel S e S' v w'
 | keys (vs:List (List UInt8 × Value)):e.s.length≤2000→e.kind=1→KRun { S with cop:=(Bv S.cop S.pre e.s).cop,pre:=(Bv S.cop S.pre e.s).pre } (Bv S.cop S.pre e.s).ks S' vs→((∀p∈vs,p.2=.nilIface)→v=.nilIface) →
   (∀word c,vs=[(word,Ax c)]→∃b b2,v=.iface 109 (.pointer (some ⟨b,0,none⟩))∧w'.heap[b]?=some (.cells #[.iface 112 (.pointer (some ⟨b2,0,none⟩)),.int .i64 0] 111)∧w'.heap[b2]?=some (.cells #[Ax c,.string (Aq word)] 114))→DRel S e S' v w'
 | outN:e.s.length≤2000→e.kind=2→v=Ax 12→S'=S→(∀W,S.get e.win=some W→e.pane∉W.pts.map (·.id))→DRel S e S' v w'
 | outY (W:Wn) (p q:Pt) (b:Int):e.s.length≤2000→e.kind=2→v=.nilIface→S.get e.win=some W→p∈W.pts→p.id=e.pane→q.ent=p.ent→q.W=p.W→q.H=p.H →
   (q.M.S,q.T.kept,q.T.E)=({ (Bz (p.M.S,p.T.kept,p.T.E) [e.s]).1 with gone:=[] },(Bz (p.M.S,p.T.kept,p.T.E) [e.s]).2.1,(Bz (p.M.S,p.T.kept,p.T.E) [e.s]).2.2)→(S.back≤0→b=0)→S'={ S with wins:=AX S.wins { W with pts:=Bf W.pts q },back:=b }→DRel S e S' v w'
 | sizeA:e.s.length≤2000→e.kind=3→¬(1≤e.w∧e.w≤200∧2≤e.h∧e.h≤60)→v=Ax 1→S'=S→DRel S e S' v w'
 | sizeN:e.s.length≤2000→e.kind=3→(1≤e.w∧e.w≤200∧2≤e.h∧e.h≤60)→v=Ax 19→S'=S→DRel S e S' v w'
 | sizeY (wl:List Wn):e.s.length≤2000→e.kind=3→(1≤e.w∧e.w≤200∧2≤e.h∧e.h≤60)→v=.nilIface→S'={ S with w:=e.w,h:=e.h,wins:=wl }→wl.map (·.n)=S.wins.map (·.n)→(∀V∈wl,∃W∈S.wins,V.n=W.n∧V.L.root=W.L.root∧V.active=W.active)→DRel S e S' v w'
 | kind:e.s.length≤2000→e.kind≠1→e.kind≠2→e.kind≠3→v=Ax 18→S'=S→DRel S e S' v w'
section
variable {base:Nat} {w w' w'':World} {s:Nat} {S:Ss} {lim:Int}
theorem Hu (h:SsAt base w s S) (ok:S.ok lim) (hbase:base≤w.heap.size) (hlim:lim≤800000000000000) (e:Ev):Calls Tryz.prog 11 #[.pointer (some ⟨s,0,none⟩),e.val] w
  (Ac fun v w'=>∃S',SsAt base w' s S'∧S'.ok (lim+5000)∧Trn (S.own s) (S'.own s) w w'∧DRel S e S' v w'):=by
 obtain⟨W,hg⟩:=S.get_cur ok
 apply QG
 intro K hK
 unfold IW
 unfold Ev.val
 simp -dsimp (disch:=first|omega|(simp only[go_sem,seval];try omega))only[go_sem,seval]
 refine OpX.gen fun w1 hw1=>?_
 have hc1:Chg [] w w1:=by rw[hw1];(repeat (first|exact Chg.refl _ _|apply Chg.drew|apply Chg.alloc|(refine Chg.set ?_ _ _ (by first|(left;simp;done)|(right;omega)))))
 have ae:w1.heap[w.heap.size]?=some (.cells #[.int .i64 e.kind,.int .i64 e.win,.int .i64 e.pane,.string (Aq e.s),.int .i64 e.w,.int .i64 e.h] 33):=by rw[hw1];simp -dsimp (disch:=first|omega|(simp only[go_sem,seval];try omega))only[go_sem,seval]
 clear hw1
 have h1:=h.chg0 hc1
 have hz1:=hc1.size
 have T1:Trn (S.own s) (S.own s) w w1:=.of0 hc1 fun _ h=>.inl h
 refine OpX.call FY rfl (Calls.ret (FW h1) ?_)
 rintro v w2 ⟨rfl,rfl⟩
 refine OpX.call IG rfl (Calls.ret (H7 h1 S.cur) ?_)
 rintro v w3 ⟨rfl,rfl⟩
 rw[hg]
 simp only[Cg,Option.map_some,Option.getD_some]
 simp -dsimp (disch:=first|omega|(simp only[go_sem,seval];try omega))only[go_sem,seval,ae]
 refine BrW.dec (fun g=>?_) (fun g=>?_)
 ·refine OpX.call BX rfl (Calls.ret (BV _ 16) ?_)
  rintro v w4 ⟨rfl,rfl⟩
  exact hK _ _ ⟨S,h1,ok.mono (by omega),T1,.long (by omega) rfl rfl⟩
 have hlen:e.s.length≤2000:=by omega
 simp -dsimp (disch:=first|omega|(simp only[go_sem,seval];try omega))only[go_sem,seval,ae]
 refine BrW.dec (fun g1=>?_) (fun g1=>?_)
 ·simp -dsimp (disch:=first|omega|(simp only[go_sem,seval];try omega))only[go_sem,seval,ae]
  refine OpX.call Ub rfl (Calls.ret (U6 h1 ok (by omega) (by omega) e.s hlen) ?_)
  rintro v w4 ⟨S',vs,A,ok',T,run,e1,e2⟩
  exact hK _ _ ⟨S',A,ok',T1.trans T,.keys vs hlen g1 run e1 e2⟩
 simp -dsimp (disch:=first|omega|(simp only[go_sem,seval];try omega))only[go_sem,seval,ae]
 refine BrW.dec (fun g2=>?_) (fun g2=>?_)
 ·simp -dsimp (disch:=first|omega|(simp only[go_sem,seval];try omega))only[go_sem,seval,ae]
  refine OpX.call QI rfl (Calls.ret (VN h1 ok (by omega) e.win e.pane e.s hlen) ?_)
  rintro v w4 (⟨rfl,rfl,hno⟩|⟨rfl,W',p,q,b,e1,e2,e3,e4,e5,e6,e7,e8,e9,ok',A,T⟩)
  ·exact hK _ _ ⟨S,h1,ok.mono (by omega),T1,.outN hlen g2 rfl rfl hno⟩
  ·exact hK _ _ ⟨_,A,ok'.mono (by omega),T1.trans T,.outY W' p q b hlen g2 rfl e1 e2 e3 e4 e5 e6 e7 e8 rfl⟩
 simp -dsimp (disch:=first|omega|(simp only[go_sem,seval];try omega))only[go_sem,seval,ae]
 refine BrW.dec (fun g3=>?_) (fun g3=>?_)
 ·simp -dsimp (disch:=first|omega|(simp only[go_sem,seval];try omega))only[go_sem,seval,ae]
  refine OpX.call WJ rfl (Calls.ret (R7 h1 ok (by omega) e.w e.h) ?_)
  rintro v w4 (⟨hm,rfl,rfl⟩|⟨x1,x2,y1,y2,⟨rfl,A,T⟩|⟨rfl,wl,A,ok',T,hn,hwl⟩⟩)
  ·exact hK _ _ ⟨S,h1,ok.mono (by omega),T1,.sizeA hlen g3 hm rfl rfl⟩
  ·exact hK _ _ ⟨S,A,ok.mono (by omega),T1.trans T,.sizeN hlen g3 ⟨x1,x2,y1,y2⟩ rfl rfl⟩
  ·exact hK _ _ ⟨_,A,ok'.mono (by omega),T1.trans T,.sizeY wl hlen g3 ⟨x1,x2,y1,y2⟩ rfl rfl hn hwl⟩
 ·refine OpX.call BX rfl (Calls.ret (BV _ 18) ?_)
  rintro v w4 ⟨rfl,rfl⟩
  exact hK _ _ ⟨S,h1,ok.mono (by omega),T1,.kind hlen g1 g2 g3 rfl rfl⟩
structure Ss.fresh (S:Ss) (x y room:Int):Prop where
 w:S.w=x
 h:S.h=y
 room:S.room=room
 cur:S.cur=1
 cop:S.cop=false
 pre:S.pre=false
 back:S.back=0
 typed:S.typed=[]
 wins:∃V,S.wins=[V]∧V.n=1∧V.active=1∧∃t,V.L.root=.pane t 1
theorem Kj (w:World) (x y room:Int):Calls Tryz.prog 10 #[.int .i64 x,.int .i64 y,.int .i64 room] w
  (Ac fun v w'=>(¬(1≤x∧x≤200∧2≤y∧y≤60)∧v=.pointer none∧w'=w)∨((1≤x∧x≤200∧2≤y∧y≤60)∧∃s S,v=.pointer (some ⟨s,0,none⟩)∧SsAt w.heap.size w' s S∧S.ok 1∧S.fresh x y room∧Chg [] w w')):=by
 apply Qg
 intro K hK
 unfold Oi
 refine OpX.call Jc rfl (Calls.ret (MQ w x y) ?_)
 rintro v w1 ⟨rfl,rfl⟩
 by_cases hmay:1≤x∧x≤200∧2≤y∧y≤60
 ·rw[decide_eq_true hmay]
  obtain⟨x1,x2,y1,y2⟩:=hmay
  simp -dsimp (disch:=first|omega|(simp only[go_sem,seval];try omega))only[go_sem,seval]
  refine OpX.gen fun w2 hw2=>?_
  have hc2:Chg [] w1 w2:=by rw[hw2];(repeat (first|exact Chg.refl _ _|apply Chg.drew|apply Chg.alloc|(refine Chg.set ?_ _ _ (by first|(left;simp;done)|(right;omega)))))
  have hz2:w2.heap.size=w1.heap.size+2:=by rw[hw2];simp -dsimp (disch:=first|omega|(simp only[go_sem,seval];try omega))only[go_sem,seval]
  have am:w2.heap[w1.heap.size]?=some (.map #[] 0):=by rw[hw2];simp -dsimp (disch:=first|omega|(simp only[go_sem,seval];try omega))only[go_sem,seval]
  have ab:w2.heap[w1.heap.size+1]?=some (.cells #[.int .i64 x,.int .i64 y,.int .i64 room,.map (some w1.heap.size),.int .i64 1,.bool false,.bool false,.int .i64 0,.slice none 0 0,.int .i64 0] 80):=by rw[hw2];simp -dsimp (disch:=first|omega|(simp only[go_sem,seval];try omega))only[go_sem,seval]
  clear hw2
  have ezs:(w1.alloc (Obj.map #[] 0)).heap.size=w1.heap.size+1:=by simp -dsimp (disch:=first|omega|(simp only[go_sem,seval];try omega))only[go_sem,seval]
  refine OpX.call Ma rfl (Calls.ret (LX w2 x (y-1) room x1 x2 (by omega) (by omega)) ?_)
  rintro v w3 ⟨V0,rfl,hV,vok,v1,v2,v3,v4,v5,hc3⟩
  have am3:=hc3.keep am (by simp)
  have ab3:=hc3.keep ab (by simp)
  obtain⟨S0,hS0⟩:∃S0:Ss,S0=⟨x,y,room,w1.heap.size,0,[],1,false,false,0,[],.slice none 0 0,0⟩:=⟨_,rfl⟩
  have A0:SsAt w1.heap.size w2 (w1.heap.size+1) S0:=by
   rw[hS0]
   exact⟨ab,am,by simp,by simp,by simp,Ox.nil _ _ _ _ _,by omega,by dsimp only;omega,by simp,by simp,by simp⟩
  have hlf:Bo ([]:AG) 1=none:=rfl
  have hpc:CT ([]:AG) 1 0=0+1:=rfl
  have am3':w3.heap[w1.heap.size]?=some (.map (Ar .i64 []) 0):=am3
  rw[ezs]
  simp -dsimp (disch:=first|omega|(simp only[go_sem,seval];try omega))only[go_sem,seval,ab3,am3',Hg hlf,hpc]
  obtain⟨V,hVe⟩:∃V:Wn,V={ V0 with n:=1,born:=0 }:=⟨_,rfl⟩
  have hV':WnAt w2.heap.size w3 V:=by rw[hVe];exact⟨hV.hb,hV.lay,hV.hm,hV.each,hV.apart,hV.ids,hV.lo⟩
  have vok':V.ok:=by rw[hVe];exact⟨vok.lay,vok.act,vok.has,vok.size⟩
  obtain⟨A1,T1⟩:=A0.addWin hc3 (hV'.base_le (by omega)) (fun x hx=>hV'.lo x hx) (by rw[hVe,hS0]) (by rw[hS0];simp) (by omega)
  subst hS0
  rw[show V.ent=((1:Int),Value.pointer (some ⟨V0.b,0,none⟩),0) by rw[hVe];rfl] at A1 T1
  refine hK _ _ (.inr ⟨⟨x1,x2,y1,y2⟩,w1.heap.size+1,_,rfl,A1,⟨x1,x2,y1,y2,fun W hW=>?_,?_,Int.le_refl _,by show(0:Int)≤1000;decide,by simp,Int.le_refl _,by show(0:Int)≤1;decide⟩,⟨rfl,rfl,rfl,rfl,rfl,rfl,rfl,rfl,V,rfl,by rw[hVe],by rw[hVe];exact v1,by rw[hVe];exact v5⟩,?_⟩)
  ·simp only[List.nil_append,List.mem_singleton] at hW
   subst hW
   exact⟨vok',by rw[hVe];exact v3,by rw[hVe];dsimp only;omega,by rw[hVe];dsimp only;decide⟩
  ·simp [hVe]
  ·exact T1.base hc2 A0.lo
 ·rw[decide_eq_false hmay]
  simp -dsimp (disch:=first|omega|(simp only[go_sem,seval];try omega))only[go_sem,seval]
  exact hK _ _ (.inl ⟨hmay,rfl,rfl⟩)
end
theorem XR {l l':List Int} (h:B8 l) (h':B8 l') (hp:l.Perm l'):l=l' :=
 List.Perm.eq_of_pairwise (fun a b _ _ h1 h2=>by omega) h h' hp
def Dl (n m k:Int):Int:=k+(n.tmod m+m).tmod m
theorem OP {n m k:Int} (h:0<m):k≤Dl n m k∧Dl n m k<m+k:=by
 have h1:=Int.lt_tmod_of_pos n h
 have h2:=Int.tmod_nonneg m (show 0≤n.tmod m+m by omega)
 have h3:=Int.tmod_lt_of_pos (n.tmod m+m) h
 unfold Dl
 omega
theorem KRun.one {S S':Ss} {k:Ky} {vs:List (List UInt8 × Value)} (h:KRun S [k] S' vs):∃word v,KRel S k S' word v∧vs=[(word,v)]:=by
 generalize hk:[k]=ks at h
 cases h with
 | nil=>cases hk
 | @snoc ks' k' S1 S2 vs' word v run rel =>
  cases ks' with
  | nil =>
   simp only[List.nil_append,List.cons.injEq,and_true] at hk
   subst hk
   generalize hn:([]:List Ky)=q at run
   cases run with
   | nil=>exact⟨word,v,rel,rfl⟩
   | snoc run2 rel2=>simp at hn
  | cons z l=>simp at hk
set_option maxRecDepth 100000
def JS (p0 p1:Value) (K:Value→World→Prop):World→Prop :=
 xB 23 p0 fun t2 =>
 xC 8 [] [] 4 fun t20 =>
 xL 23 t2 fun t22 =>
 xC 9 [.const t22] [23] 25 fun t23 =>
 xE t23 0 3 fun t24 =>
 xE t23 1 3 fun t25 =>
 xC 10 [.const t24,.const t25,.const (.int .i64 3)] [3,3,3] 27 fun t28 =>
 xO .eql 27 t28 (.pointer none) fun t30 =>
 xW t30
 (K (.bool false)) <|
 xA 70 fun t9 =>
 xI 70 t9 (.int .i64 1) fun t31 =>
 xS 4 t31 (.bool true) <|
 Loop1 (.int .i64 0) fun t10 next1 =>
 xO .lss 3 t10 (.int .i64 40) fun t33 =>
 xW t33
 (xC 16 [.const t28] [27] 40 fun t37 =>
 xU t37 40 fun t38 =>
 Join0 (fun k2 =>
 OpX Tryz.prog (.convert 3 71 (.const t10)) 71 fun t41 =>
 xO .shr 69 p1 t41 fun t42 =>
 xO .and 69 t42 (.int .u64 1) fun t43 =>
 xO .eql 69 t43 (.int .u64 0) fun t44 =>
 xW t44
 (OpX Tryz.prog (.build 33 #[(0,.const (.int .i64 1)),(3,.const (.string { data:=#[2,99] }))]) 33 fun t46 =>
 xC 11 [.const t28,.const t46] [27,33] 30 fun t47 =>
 Loop2 (.int .i64 0) (.int .i64 9) fun t13 t14 next3 =>
 xO .geq 3 t14 (.int .i64 1) fun t49 =>
 xW t49
 (Join1 (fun k4 =>
 xI 70 t9 t14 fun t53 =>
 xL 4 t53 fun t54 =>
 xN 4 t54 fun t55 =>
 xW t55
 (k4 t14) <|
 k4 t13) fun t13_1 =>
 xO .sub 3 t14 (.int .i64 1) fun t51 =>
 next3 t13_1 t51) <|
 Join1 (fun k5 =>
 xC 12 [.const t47] [30] 34 fun t58 =>
 xO .eql 34 t58 (.int .i64 0) fun t59 =>
 xO .gtr 3 t13 (.int .i64 0) fun t61 =>
 xO .neq 4 t59 t61 fun t62 =>
 xW t62
 (k5 (.bool true)) <|
 xO .gtr 3 t13 (.int .i64 0) fun t65 =>
 xW t65
 (xC 13 [.const t28] [27] 3 fun t68 =>
 xO .neq 3 t68 t13 fun t70 =>
 xW t70
 (k5 (.bool true)) <|
 xO .eql 3 t13 (.int .i64 0) fun t75 =>
 xW t75
 (xC 26 [.const t47,.const (.int .i64 15)] [30,34] 4 fun t78 =>
 xN 4 t78 fun t79 =>
 xW t79
 (k5 (.bool true)) <|
 xC 27 [.const t47] [30] 9 fun t82 =>
 xO .neq 9 t82 (.string { data:=#[119,105,110,100,111,119] }) fun t83 =>
 k5 t83) <|
 k5 (.bool false)) <|
 xO .eql 3 t13 (.int .i64 0) fun t75_1 =>
 xW t75_1
 (xC 26 [.const t47,.const (.int .i64 15)] [30,34] 4 fun t78_1 =>
 xN 4 t78_1 fun t79_1 =>
 xW t79_1
 (k5 (.bool true)) <|
 xC 27 [.const t47] [30] 9 fun t82_1 =>
 xO .neq 9 t82_1 (.string { data:=#[119,105,110,100,111,119] }) fun t83_1 =>
 k5 t83_1) <|
 k5 (.bool false)) fun t86 =>
 xW t86
 (K (.bool false)) <|
 xO .gtr 3 t13 (.int .i64 0) fun t89 =>
 xI 70 t9 t13 fun t90 =>
 xS 4 t90 t89 <|
 k2) <|
 xC 13 [.const t28] [27] 3 fun t92 =>
 OpX Tryz.prog (.build 33 #[(0,.const (.int .i64 1)),(3,.const (.string { data:=#[2,120] }))]) 33 fun t94 =>
 xC 11 [.const t28,.const t94] [27,33] 30 fun t95 =>
 Join1 (fun k6 =>
 xC 12 [.const t95] [30] 34 fun t97 =>
 xO .eql 34 t97 (.int .i64 0) fun t98 =>
 xO .gtr 3 t38 (.int .i64 1) fun t100 =>
 xO .neq 4 t98 t100 fun t101 =>
 xW t101
 (k6 (.bool true)) <|
 xO .gtr 3 t38 (.int .i64 1) fun t104 =>
 xW t104
 (xC 13 [.const t28] [27] 3 fun t107 =>
 xO .eql 3 t107 t92 fun t109 =>
 k6 t109) <|
 k6 (.bool false)) fun t111 =>
 xW t111
 (K (.bool false)) <|
 xO .eql 3 t38 (.int .i64 1) fun t114 =>
 xI 70 t9 t92 fun t115 =>
 xS 4 t115 t114 <|
 k2) <|
 xC 16 [.const t28] [27] 40 fun t117 =>
 Loop2 (.int .i64 0) (.int .i64 1) fun t18 t19 next7 =>
 xO .leq 3 t19 (.int .i64 9) fun t119 =>
 xW t119
 (Join1 (fun k8 =>
 xI 70 t9 t19 fun t123 =>
 xL 4 t123 fun t124 =>
 xW t124
 (Join1 (fun k9 =>
 xU t117 40 fun t127 =>
 xO .geq 3 t18 t127 fun t128 =>
 xW t128
 (k9 (.bool true)) <|
 xI 40 t117 t18 fun t132 =>
 xL 3 t132 fun t133 =>
 xO .neq 3 t133 t19 fun t135 =>
 k9 t135) fun t136 =>
 xW t136
 (K (.bool false)) <|
 xO .add 3 t18 (.int .i64 1) fun t138 =>
 k8 t138) <|
 k8 t18) fun t18_1 =>
 xO .add 3 t19 (.int .i64 1) fun t121 =>
 next7 t18_1 t121) <|
 xU t117 40 fun t141 =>
 xO .neq 3 t18 t141 fun t142 =>
 xW t142
 (K (.bool false)) <|
 xO .add 3 t10 (.int .i64 1) fun t35 =>
 next1 t35) <|
 K t20
theorem XL (p0 p1:Value):Lk 7 #[p0,p1] (JS p0 p1):=lk [p0,p1] [(24,[10]),(35,[]),(47,[13,14]),(54,[13]),(64,[86]),(77,[111]),(92,[18,19]),(99,[18]),(106,[136])] Tryz.func7
def NA (K:Value→World→Prop):World→Prop :=
 xC 10 [.const (.int .i64 9),.const (.int .i64 4),.const (.int .i64 5)] [3,3,3] 27 fun t4 =>
 OpX Tryz.prog (.build 33 #[(0,.const (.int .i64 1)),(3,.const (.string { data:=#[2,37] }))]) 33 fun t6 =>
 xC 11 [.const t4,.const t6] [27,33] 30 fun t7 =>
 xC 14 [.const t4,.const (.int .i64 1)] [27,3] 37 fun t9 =>
 Join1 (fun k1 =>
 xC 12 [.const t7] [30] 34 fun t11 =>
 xO .eql 34 t11 (.int .i64 0) fun t12 =>
 xW t12
 (xU t9 37 fun t15 =>
 xO .eql 3 t15 (.int .i64 2) fun t16 =>
 xW t16
 (xI 37 t9 (.int .i64 0) fun t20 =>
 xF 51 t20 1 fun t21 =>
 xF 49 t21 2 fun t22 =>
 xL 3 t22 fun t23 =>
 xO .eql 3 t23 (.int .i64 4) fun t24 =>
 xW t24
 (xI 37 t9 (.int .i64 1) fun t28 =>
 xF 51 t28 1 fun t29 =>
 xF 49 t29 0 fun t30 =>
 xL 3 t30 fun t31 =>
 xO .eql 3 t31 (.int .i64 5) fun t32 =>
 xW t32
 (xI 37 t9 (.int .i64 1) fun t36 =>
 xF 51 t36 1 fun t37 =>
 xF 49 t37 3 fun t38 =>
 xL 3 t38 fun t39 =>
 xO .eql 3 t39 (.int .i64 3) fun t40 =>
 k1 t40) <|
 k1 (.bool false)) <|
 k1 (.bool false)) <|
 k1 (.bool false)) <|
 k1 (.bool false)) fun t0 =>
 K t0
theorem YF:Lk 8 #[] (NA):=lk [] [(9,[0])] Tryz.func8
theorem Zn:Ad Tryz.prog 8:=bd Tryz.func8
def Lj (p0:Value) (K:Value→World→Prop):World→Prop :=
 xB 23 p0 fun t1 =>
 Aj <|
 qF 23 t1 0 fun t4 =>
 qL 3 t4 fun t5 =>
 qP .rem 3 t5 (.int .i64 40) fun t6 =>
 qP .add 3 t6 (.int .i64 40) fun t7 =>
 qP .rem 3 t7 (.int .i64 40) fun t8 =>
 qP .add 3 (.int .i64 1) t8 fun t9 =>
 qF 23 t1 1 fun t10 =>
 qL 3 t10 fun t11 =>
 qP .rem 3 t11 (.int .i64 19) fun t12 =>
 qP .add 3 t12 (.int .i64 19) fun t13 =>
 qP .rem 3 t13 (.int .i64 19) fun t14 =>
 qP .add 3 (.int .i64 2) t14 fun t15 =>
 K (.tuple #[t9,t15])
theorem YK (p0:Value):Lk 9 #[p0] (Lj p0):=lk [p0] [] Tryz.func9
theorem Qc:Ad Tryz.prog 9:=bd Tryz.func9
theorem XJ (w:World) (x y:Int):Calls Tryz.prog 9 #[.agg #[.int .i64 x,.int .i64 y]] w
  (Ac fun v w'=>v=.tuple #[.int .i64 (Dl x 40 1),.int .i64 (Dl y 19 2)]∧Chg [] w w'):=by
 have b1:=F1 x 40 (by omega)
 have b2:=F1 y 19 (by omega)
 have b3:=F1 (x.tmod 40+40) 40 (by omega)
 have b4:=F1 (y.tmod 19+19) 19 (by omega)
 apply YK
 intro K hK
 unfold Lj
 simp -dsimp (disch:=first|omega|(simp only[go_sem,seval];try omega))only[go_sem,seval]
 exact hK _ _ ⟨rfl,(AE _ _).drew⟩
theorem IL (w:World):Calls Tryz.prog 12 #[.nilIface] w (Ac fun v w'=>v=.int .i64 0∧Chg [] w w'):=by
 apply KV
 intro K hK
 unfold IJ
 simp -dsimp (disch:=first|omega|(simp only[go_sem,seval];try omega))only[go_sem,seval]
 refine Join1.cut (fun v w'=>v=.bool false∧Chg [] w w') ?_ ?_
 ·simp -dsimp (disch:=first|omega|(simp only[go_sem,seval];try omega))only[go_sem,seval]
  exact AE _ _
 ·rintro v w1 ⟨rfl,hc⟩
  simp -dsimp (disch:=first|omega|(simp only[go_sem,seval];try omega))only[go_sem,seval]
  exact hK _ _ ⟨rfl,hc⟩
theorem DRel.key1 {S:Ss} {e:Ev} {S':Ss} {v:Value} {w':World} (h:DRel S e S' v w') (hl:e.s.length≤2000) (hk:e.kind=1) {k:Ky} {c p:Bool} (hks:Bv S.cop S.pre e.s=⟨c,p,[k],[]⟩) :
  ∃word v0,KRel { S with cop:=c,pre:=p } k S' word v0∧(v0=.nilIface→v=.nilIface)∧(∀c,v0=Ax c→∃b b2,v=.iface 109 (.pointer (some ⟨b,0,none⟩))∧w'.heap[b]?=some (.cells #[.iface 112 (.pointer (some ⟨b2,0,none⟩)),.int .i64 0] 111)∧w'.heap[b2]?=some (.cells #[Ax c,.string (Aq word)] 114)):=by
 cases h with
 | keys vs h1 h2 run h3 h4 =>
  rw[hks] at run
  obtain⟨word,v0,rel,rfl⟩:=run.one
  exact⟨word,v0,rel,fun e=>h3 (by simp [e]),fun c e=>h4 word c (by rw[e])⟩
 | long h=>omega
 | outN _ h=>omega
 | outY _ _ _ _ _ h=>omega
 | sizeA _ h=>omega
 | sizeN _ h=>omega
 | sizeY _ _ h=>omega
 | kind _ h=>exact absurd hk h
theorem V8 (w:World):Calls Tryz.prog 8 #[] w (Ac fun v w'=>v=.bool true∧Chg [] w w'):=by
 apply YF
 intro K hK
 unfold NA
 refine OpX.call J9 rfl (Calls.ret (Kj w 9 4 5) ?_)
 rintro v w1 (⟨hno,-⟩|⟨-,s,S,rfl,A1,ok1,fr,hc1⟩)
 ·exact absurd ⟨by decide,by decide,by decide,by decide⟩ hno
 simp -dsimp (disch:=first|omega|(simp only[go_sem,seval];try omega))only[go_sem,seval]
 obtain⟨V,hw,hn,hact,t,hroot⟩:=fr.wins
 refine OpX.call G7 rfl (Calls.ret (Hu A1 ok1 hc1.size (by decide) ⟨1,0,0,[2,37],0,0⟩) ?_)
 rintro v w2 ⟨S',A2,ok2,T2,rel⟩
 have hc2:Chg [] w w2:=T2.base hc1 A1.lo
 have hks:Bv S.cop S.pre [2,37]=⟨false,false,[⟨2,0,[]⟩],[]⟩:=by rw[fr.cop,fr.pre];rfl
 have hR0:=(ok1.win V (by rw[hw];simp)).2.1
 have hfin:v=.nilIface∧∃W',S'.get 1=some W'∧W'.L.root.panes W'.L.R=[(1,⟨0,0,4,3⟩),(V.L.newest+1,⟨5,0,4,3⟩)]:=by
  obtain⟨word,v0,rel,hv,-⟩:=rel.key1 (by decide) rfl hks
  obtain⟨W,hg,hcur,hd⟩:=rel.k2 rfl
  have hWV:W=V:=by
   have:=(Ss.get_mem hg).1
   rw[show({ S with cop:=false,pre:=false }:Ss).wins=S.wins from rfl,hw] at this
   simpa using this
  subst hWV
  rcases hd with ⟨e0,hcop,W',nb,n1,n2,R,hall,hn',hL,hwins⟩|hd
  ·refine⟨hv e0,W',?_,?_⟩
   ·unfold Ss.get
    rw[hwins]
    show(AX S.wins W').find? _=_
    rw[hw]
    unfold AX
    simp [Wn.ent,hn',hn]
   ·rw[hroot] at hall
    simp only[Mt.all,List.mem_singleton,Prod.mk.injEq,Mt.pane.injEq] at hall
    obtain⟨⟨rfl,-⟩,rfl⟩:=hall
    rw[hL]
    unfold BW
    rw[hroot,hR0,fr.w,fr.h,hact]
    dsimp only
    rw[Mt.put_self (by rfl)]
    rfl
  ·exfalso
   rcases hd with hd|⟨nb,R,hR,hlt⟩
   ·rw[hroot] at hd
    simp [Mt.ids] at hd
   ·rw[hroot] at hR
    simp only[Mt.all,List.mem_singleton,Prod.mk.injEq] at hR
    obtain⟨-,rfl⟩:=hR
    rw[hR0,fr.w] at hlt
    simp [Rc.len] at hlt
 obtain⟨rfl,W',hg',hp⟩:=hfin
 refine OpX.call W3 rfl (Calls.ret (VX A2 hg' (ok2.win W' (Ss.get_mem hg').1).1) ?_)
 rintro v w3 ⟨ho,hc3⟩
 rw[hp] at ho
 obtain⟨a,cap,rfl,-,hs,-,-⟩:=ho.form
 have hc03:=hc2.trans0 hc3
 refine Join1.cut (fun v w'=>v=.bool true∧Chg [] w w') ?_ (fun v w' h=>hK _ _ h)
 refine OpX.call E8 rfl (Calls.ret (IL w3) ?_)
 rintro v w4 ⟨rfl,hc4⟩
 have hc04:=hc03.trans0 hc4
 obtain⟨b0,o0,e0,hb0,hcell0⟩:=(hs.chg0 hc4).get (m:=5) (fun _=>rfl) (i:=0) (x:=(1,⟨0,0,4,3⟩)) rfl
 obtain⟨b1,o1,e1,hb1,hcell1⟩:=(hs.chg0 hc4).get (m:=5) (fun _=>rfl) (i:=1) (x:=(V.L.newest+1,⟨5,0,4,3⟩)) rfl
 subst e0
 simp only[Option.some.injEq,Addr.mk.injEq,and_true] at e1
 obtain⟨rfl,rfl⟩:=e1
 have f0:Av w4.heap[b0]? (o0+0*5+3)=some (.int .i64 4):=Cc hcell0 3 (by omega)
 have f1:Av w4.heap[b0]? (o0+1*5+1)=some (.int .i64 5):=Cc hcell1 1 (by omega)
 have f3:Av w4.heap[b0]? (o0+1*5+4)=some (.int .i64 3):=Cc hcell1 4 (by omega)
 simp -dsimp (disch:=first|omega|(simp only[go_sem,seval];try omega))only[go_sem,seval,f0,f1,f3]
 exact hc04
end Go.Proofs.YtelplojmbjnplaaGreatDoor
namespace Go.Proofs.YtelplojmbjnplaaGreatDoor
open Lyc Go Go.Joins Go.ChangeShapes Go.WideShapes Go.ChangeAt Go.RowKit Go.Deep
set_option maxRecDepth 100000
theorem own:ownKnob Tryz.prog.godebug=none:=by kernel_rfl
theorem Ya:laidOutB Tryz.prog=true:=by kernel_rfl
noncomputable def Oy (os:Os):World :=
 let w0:=World.holding Tryz.prog os ⟨#[],#[],[]⟩
 { w0 with heap:=w0.heap.modify ((Tryz.prog.globalNamed "errors.errorType").getD 0) fun
   | .cells _ t frozen=>.cells #[.iface 207 (.agg #[typeHandle Tryz.prog 30])] t frozen
   | o=>o }
theorem S8 (os:Os) (args:Array Value):laidMetH Tryz.prog Rows.sessionTurnsRow.laid ((Oy os).forCall (fun _ _=>0) ⟨#[],args,[]⟩).memory :=
 laidMetH_of_parts (laidMet_nil _ _) (by kernel_rfl)
theorem SP {H:Type} {enc:TypeId × Value→H} {w:World} {base b0:Nat} {spare:Nat→Bool} {held:Bool} {v:Value} {d:DataW H} {p:List MemPlace} (hv:Value.okWide Tryz.prog w .any b0 23 v) (h:DataW.Trod enc Tryz.prog w base spare held 23 v d p):∃x y:Int,v=.agg #[.int .i64 x,.int .i64 y]:=by
 obtain⟨x0,x1,y0,y1,n,rfl,-,-,t0,t1⟩:=open_agg2 Tryz.underlying23 (by kernel_rfl) (by kernel_rfl) hv h
 obtain⟨k0,e0,-,-⟩:=DataW.trod_int Tryz.underlying3 t0
 obtain⟨k1,e1,-,-⟩:=DataW.trod_int Tryz.underlying3 t1
 cases e0;cases e1
 exact⟨k0,k1,rfl⟩
end Go.Proofs.YtelplojmbjnplaaGreatDoor
namespace Lyc
open Go
section
variable {P:Program}
theorem Qq (t:TypeId) (g:Nat) (ty:TypeId) (K:Value→World→Prop) (w:World):OpX P (.load t (.global g)) ty K w=OpX P (.load t (.const (.pointer (some ⟨g,0,none⟩)))) ty K w:=by
 have h:∀ρ,BB ρ→(execOp ρ (An (.load t (.global g)) ty))=(execOp ρ (An (.load t (.const (.pointer (some ⟨g,0,none⟩)))) ty)):=fun ρ hg=>by simp only[execOp,An,hg.2.1,hg.1]
 apply propext
 exact⟨fun⟨hx⟩=>⟨fun ρ hg=>by rw[←h ρ hg];exact hx ρ hg⟩,fun⟨hx⟩=>⟨fun ρ hg=>by rw[h ρ hg];exact hx ρ hg⟩⟩
theorem OpX.ext {f:FuncId} {l:List Operand} {vs:List Value} {ats:Array TypeId} {ty:TypeId} {K:Value→World→Prop} {w w':World} {v:Value} (hl:Ci l=some vs) (hr:(callFunc f vs.toArray).run P w=.ok (.value v) w') (hk:K v w') :
  OpX P (.call { callee:=.value (.func f),args:=l.toArray,argTypes:=ats }) ty K w:=by
 refine⟨fun ρ hg=>?_⟩
 have:(execOp ρ (An (.call { callee:=.value (.func f),args:=l.toArray,argTypes:=ats }) ty)).run P w=.ok (.value v) w':=by
  simp [execOp,An,resolve,invoke,hg.2.2,Deferred.ofValue,Ea hg hl,hr]
 rw[this]
 exact hk
theorem OpX.inv {t:TypeId} {x recv:Value} {name:String} {f:FuncId} {l:List Operand} {vs:List Value} {ats:Array TypeId} {ty:TypeId} {K:Value→World→Prop} {w w':World} {v:Value} (hl:Ci l=some vs) (hm:(Go.method (P.types.size+Made.depth) t x name).run P w=.ok (f,recv) w)
  (hr:(callFunc f (recv::vs).toArray).run P w=.ok (.value v) w') (hk:K v w') :
  OpX P (.call { callee:=.invoke (.const (.iface t x)) name,args:=l.toArray,argTypes:=ats }) ty K w:=by
 refine⟨fun ρ hg=>?_⟩
 have:(execOp ρ (An (.call { callee:=.invoke (.const (.iface t x)) name,args:=l.toArray,argTypes:=ats }) ty)).run P w=.ok (.value v) w':=by
  simp [execOp,An,resolve,invoke,callMethod,hg.1,Ea hg hl,hm,hr]
 rw[this]
 exact hk
theorem OpX.invC {t:TypeId} {x recv:Value} {name:String} {f:FuncId} {l:List Operand} {vs:List Value} {ats:Array TypeId} {ty:TypeId} {K:Value→World→Prop} {w:World} (hl:Ci l=some vs) (hm:(Go.method (P.types.size+Made.depth) t x name).run P w=.ok (f,recv) w)
  (hb:Ad P f) (h:Calls P f (recv::vs).toArray w (Ac K)) :
  OpX P (.call { callee:=.invoke (.const (.iface t x)) name,args:=l.toArray,argTypes:=ats }) ty K w:=by
 refine⟨fun ρ hg=>?_⟩
 have:(execOp ρ (An (.call { callee:=.invoke (.const (.iface t x)) name,args:=l.toArray,argTypes:=ats }) ty)).run P w=.ok (.enter f (recv::vs).toArray) w:=by
  simp [execOp,An,resolve,invoke,callMethod,hg.1,Ea hg hl,hm,Fs hb]
 rw[this]
 exact h
end
end Lyc
namespace Go.Proofs.YtelplojmbjnplaaGreatDoor
open Lyc Go
set_option maxRecDepth 100000
def Nf (p0 p1:Value) (K:Value→World→Prop):World→Prop :=
 xK .eql 30 p0 fun t9 =>
 xW t9
 (K (.bool false)) <|
 Join0 (fun k1 =>
 xK .eql 20 p1 fun t11 =>
 xW t11
 (OpX Tryz.prog (.makeInterface 9 (.const (.string { data:=#[101,114,114,111,114,115,58,32,116,97,114,103,101,116,32,99,97,110,110,111,116,32,98,101,32,110,105,108] }))) 20 fun t12 =>
 OpX Tryz.prog (.panic (.const t12)) 0 fun _ =>
 k1) <|
 k1) <|
 xC 60 [.const p1] [20] 136 fun t14 =>
 xA 136 fun t5 =>
 xS 136 t5 t14 <|
 xL 136 t5 fun t15 =>
 xC 61 [.const t15] [136] 139 fun t16 =>
 Join0 (fun k2 =>
 Join1 (fun k3 =>
 OpX Tryz.prog (.call { callee:=.invoke (.const t16) "Kind",args:=#[],argTypes:=#[] }) 141 fun t18 =>
 xO .neq 141 t18 (.int .u8 22) fun t19 =>
 xW t19
 (k3 (.bool true)) <|
 xL 136 t5 fun t21 =>
 xC 62 [.const t21] [136] 4 fun t22 =>
 k3 t22) fun t23 =>
 xW t23
 (OpX Tryz.prog (.makeInterface 9 (.const (.string { data:=#[101,114,114,111,114,115,58,32,116,97,114,103,101,116,32,109,117,115,116,32,98,101,32,97,32,110,111,110,45,110,105,108,32,112,111,105,110,116,101,114] }))) 20 fun t24 =>
 OpX Tryz.prog (.panic (.const t24)) 0 fun _ =>
 k2) <|
 k2) <|
 OpX Tryz.prog (.call { callee:=.invoke (.const t16) "Elem",args:=#[],argTypes:=#[] }) 139 fun t26 =>
 Join0 (fun k4 =>
 Join1 (fun k5 =>
 OpX Tryz.prog (.call { callee:=.invoke (.const t26) "Kind",args:=#[],argTypes:=#[] }) 141 fun t28 =>
 xO .neq 141 t28 (.int .u8 20) fun t29 =>
 xW t29
 (OpX Tryz.prog (.load 139 (.global 0)) 139 fun t32 =>
 OpX Tryz.prog (.call { callee:=.invoke (.const t26) "Implements",args:=#[.const t32],argTypes:=#[139] }) 4 fun t33 =>
 xN 4 t33 fun t34 =>
 k5 t34) <|
 k5 (.bool false)) fun t35 =>
 xW t35
 (OpX Tryz.prog (.makeInterface 9 (.const (.string { data:=#[101,114,114,111,114,115,58,32,42,116,97,114,103,101,116,32,109,117,115,116,32,98,101,32,105,110,116,101,114,102,97,99,101,32,111,114,32,105,109,112,108,101,109,101,110,116,32,101,114,114,111,114] }))) 20 fun t36 =>
 OpX Tryz.prog (.panic (.const t36)) 0 fun _ =>
 k4) <|
 k4) <|
 xL 136 t5 fun t39 =>
 xC 63 [.const p0,.const p1,.const t39,.const t26] [30,20,136,139] 4 fun t41 =>
 K t41
theorem Pe (p0 p1:Value):Lk 35 #[p0,p1] (Nf p0 p1):=lk [p0,p1] [(10,[]),(20,[]),(22,[23]),(28,[]),(30,[35])] Tryz.func35
theorem UQ:Ad Tryz.prog 35:=bd Tryz.func35
def JO (p0 p1:Value) (K:Value→World→Prop):World→Prop :=
 Join1 (fun k1 =>
 xK .eql 30 p0 fun t7 =>
 xW t7
 (k1 (.bool true)) <|
 xK .eql 30 p1 fun t10 =>
 k1 t10) fun t11 =>
 xW t11
 (xO .eql 30 p0 p1 fun t14 =>
 K t14) <|
 xC 78 [.const p1] [20] 139 fun t16 =>
 OpX Tryz.prog (.call { callee:=.invoke (.const t16) "Comparable",args:=#[],argTypes:=#[] }) 4 fun t17 =>
 xC 79 [.const p0,.const p1,.const t17] [30,30,4] 4 fun t21 =>
 K t21
theorem Qa (p0 p1:Value):Lk 47 #[p0,p1] (JO p0 p1):=lk [p0,p1] [(4,[11])] Tryz.func47
theorem PL:Ad Tryz.prog 47:=bd Tryz.func47
def NL (p0 p1 p2 p3:Value) (K:Value→World→Prop):World→Prop :=
 xB 136 p2 fun t6 =>
 Loop1 p0 fun t0 next1 =>
 xC 78 [.const t0] [20] 139 fun t17 =>
 OpX Tryz.prog (.call { callee:=.invoke (.const t17) "AssignableTo",args:=#[.const p3],argTypes:=#[139] }) 4 fun t19 =>
 xW t19
 (xL 136 t6 fun t20 =>
 xC 107 [.const t20] [136] 136 fun t21 =>
 xC 60 [.const t0] [20] 136 fun t23 =>
 xC 108 [.const t21,.const t23] [136,136] 0 fun _ =>
 K (.bool true)) <|
 OpX Tryz.prog (.typeAssert (.const t0) 30 211 true) 212 fun t27 =>
 xE t27 0 211 fun t28 =>
 xE t27 1 4 fun t29 =>
 Join1 (fun k2 =>
 xW t29
 (OpX Tryz.prog (.call { callee:=.invoke (.const t28) "As",args:=#[.const p1],argTypes:=#[20] }) 4 fun t34 =>
 k2 t34) <|
 k2 (.bool false)) fun t35 =>
 xW t35
 (K (.bool true)) <|
 OpX Tryz.prog (.typeAssert (.const t0) 30 174 true) 0 fun t37 =>
 xE t37 1 4 fun t38 =>
 xE t37 0 174 fun t39 =>
 xW t38
 (OpX Tryz.prog (.call { callee:=.invoke (.const t39) "Unwrap",args:=#[],argTypes:=#[] }) 30 fun t41 =>
 xK .eql 30 t41 fun t43 =>
 xW t43
 (K (.bool false)) <|
 next1 t41) <|
 OpX Tryz.prog (.typeAssert (.const t0) 30 214 true) 0 fun t44 =>
 xE t44 1 4 fun t45 =>
 xE t44 0 214 fun t46 =>
 xW t45
 (OpX Tryz.prog (.call { callee:=.invoke (.const t46) "Unwrap",args:=#[],argTypes:=#[] }) 116 fun t48 =>
 xU t48 116 fun t49 =>
 Loop1 (.int .i64 0) fun t50 next3 =>
 xO .lss 3 t50 t49 fun t51 =>
 xW t51
 (Join0 (fun k4 =>
 xI 116 t48 t50 fun t52 =>
 xL 30 t52 fun t53 =>
 xK .eql 30 t53 fun t55 =>
 xW t55
 (k4) <|
 xL 136 t6 fun t58 =>
 xC 63 [.const t53,.const p1,.const t58,.const p3] [30,20,136,139] 4 fun t60 =>
 xW t60
 (K (.bool true)) <|
 k4) <|
 xO .add 3 t50 (.int .i64 1) fun t61 =>
 next3 t61) <|
 K (.bool false)) <|
 K (.bool false)
theorem YD (p0 p1 p2 p3:Value):Lk 63 #[p0,p1,p2,p3] (NL p0 p1 p2 p3):=lk [p0,p1,p2,p3] [(3,[0]),(19,[35]),(51,[50]),(59,[])] Tryz.func63
theorem WQ:Ad Tryz.prog 63:=bd Tryz.func63
def M7 (p0 p1 p2:Value) (K:Value→World→Prop):World→Prop :=
 Loop1 p0 fun t0 next1 =>
 Join1 (fun k2 =>
 xW p2
 (xO .eql 30 t0 p1 fun t18 =>
 k2 t18) <|
 k2 (.bool false)) fun t19 =>
 xW t19
 (K (.bool true)) <|
 OpX Tryz.prog (.typeAssert (.const t0) 30 238 true) 239 fun t22 =>
 xE t22 0 238 fun t23 =>
 xE t22 1 4 fun t24 =>
 Join1 (fun k3 =>
 xW t24
 (OpX Tryz.prog (.call { callee:=.invoke (.const t23) "Is",args:=#[.const p1],argTypes:=#[30] }) 4 fun t29 =>
 k3 t29) <|
 k3 (.bool false)) fun t30 =>
 xW t30
 (K (.bool true)) <|
 OpX Tryz.prog (.typeAssert (.const t0) 30 174 true) 0 fun t32 =>
 xE t32 1 4 fun t33 =>
 xE t32 0 174 fun t34 =>
 xW t33
 (OpX Tryz.prog (.call { callee:=.invoke (.const t34) "Unwrap",args:=#[],argTypes:=#[] }) 30 fun t36 =>
 xK .eql 30 t36 fun t38 =>
 xW t38
 (K (.bool false)) <|
 next1 t36) <|
 OpX Tryz.prog (.typeAssert (.const t0) 30 214 true) 0 fun t39 =>
 xE t39 1 4 fun t40 =>
 xE t39 0 214 fun t41 =>
 xW t40
 (OpX Tryz.prog (.call { callee:=.invoke (.const t41) "Unwrap",args:=#[],argTypes:=#[] }) 116 fun t43 =>
 xU t43 116 fun t44 =>
 Loop1 (.int .i64 0) fun t45 next4 =>
 xO .lss 3 t45 t44 fun t46 =>
 xW t46
 (xI 116 t43 t45 fun t47 =>
 xL 30 t47 fun t48 =>
 xC 79 [.const t48,.const p1,.const p2] [30,30,4] 4 fun t52 =>
 xW t52
 (K (.bool true)) <|
 xO .add 3 t45 (.int .i64 1) fun t53 =>
 next4 t53) <|
 K (.bool false)) <|
 K (.bool false)
theorem Rg (p0 p1 p2:Value):Lk 79 #[p0,p1,p2] (M7 p0 p1 p2):=lk [p0,p1,p2] [(3,[0]),(7,[19]),(17,[30]),(49,[45])] Tryz.func79
theorem Xi:Ad Tryz.prog 79:=bd Tryz.func79
def Ms (p0 p1:Value) (K:Value→World→Prop):World→Prop :=
 xU p0 108 fun t12 =>
 xO .eql 3 t12 (.int .i64 0) fun t14 =>
 xW t14
 (K (.string { data:=#[] })) <|
 xO .eql 3 t12 (.int .i64 1) fun t16 =>
 xW t16
 (xI 108 p0 (.int .i64 0) fun t18 =>
 xL 9 t18 fun t19 =>
 K t19) <|
 Join1 (fun k1 =>
 xU p1 9 fun t21 =>
 xO .gtr 3 t21 (.int .i64 0) fun t22 =>
 xW t22
 (Join0 (fun k2 =>
 xU p1 9 fun t24 =>
 xU p0 108 fun t26 =>
 xO .sub 3 t26 (.int .i64 1) fun t27 =>
 xO .quo 3 (.int .i64 9223372036854775807) t27 fun t28 =>
 xO .geq 3 t24 t28 fun t29 =>
 xW t29
 (OpX Tryz.prog (.makeInterface 9 (.const (.string { data:=#[115,116,114,105,110,103,115,58,32,74,111,105,110,32,111,117,116,112,117,116,32,108,101,110,103,116,104,32,111,118,101,114,102,108,111,119] }))) 20 fun t30 =>
 OpX Tryz.prog (.panic (.const t30)) 0 fun _ =>
 k2) <|
 k2) <|
 xU p1 9 fun t33 =>
 xU p0 108 fun t35 =>
 xO .sub 3 t35 (.int .i64 1) fun t36 =>
 xO .mul 3 t33 t36 fun t37 =>
 xO .add 3 (.int .i64 0) t37 fun t38 =>
 k1 t38) <|
 k1 (.int .i64 0)) fun t5 =>
 xU p0 108 fun t40 =>
 Loop2 t5 (.int .i64 0) fun t5_1 t41 next3 =>
 xO .lss 3 t41 t40 fun t42 =>
 xW t42
 (xI 108 p0 t41 fun t43 =>
 xL 9 t43 fun t44 =>
 Join0 (fun k4 =>
 xU t44 9 fun t46 =>
 xO .sub 3 (.int .i64 9223372036854775807) t5_1 fun t48 =>
 xO .gtr 3 t46 t48 fun t49 =>
 xW t49
 (OpX Tryz.prog (.makeInterface 9 (.const (.string { data:=#[115,116,114,105,110,103,115,58,32,74,111,105,110,32,111,117,116,112,117,116,32,108,101,110,103,116,104,32,111,118,101,114,102,108,111,119] }))) 20 fun t50 =>
 OpX Tryz.prog (.panic (.const t50)) 0 fun _ =>
 k4) <|
 k4) <|
 xU t44 9 fun t53 =>
 xO .add 3 t5_1 t53 fun t54 =>
 xO .add 3 t41 (.int .i64 1) fun t55 =>
 next3 t54 t55) <|
 xA 179 fun t8 =>
 xC 80 [.const t8,.const t5_1] [179,3] 0 fun _ =>
 xI 108 p0 (.int .i64 0) fun t59 =>
 xL 9 t59 fun t60 =>
 xC 81 [.const t8,.const t60] [179,9] 180 fun _ =>
 OpX Tryz.prog (.slice 108 (.const p0) (some (.const (.int .i64 1))) none none) 108 fun t63 =>
 xU t63 108 fun t64 =>
 Loop1 (.int .i64 0) fun t65 next5 =>
 xO .lss 3 t65 t64 fun t66 =>
 xW t66
 (xI 108 t63 t65 fun t67 =>
 xL 9 t67 fun t68 =>
 xC 81 [.const t8,.const p1] [179,9] 180 fun _ =>
 xC 81 [.const t8,.const t68] [179,9] 180 fun _ =>
 xO .add 3 t65 (.int .i64 1) fun t73 =>
 next5 t73) <|
 xC 82 [.const t8] [179] 9 fun t74 =>
 K t74
theorem QQ (p0 p1:Value):Lk 49 #[p0,p1] (Ms p0 p1):=lk [p0,p1] [(21,[5]),(25,[]),(37,[5,41]),(48,[]),(66,[65])] Tryz.func49
theorem Y1:Ad Tryz.prog 49:=bd Tryz.func49
end Go.Proofs.YtelplojmbjnplaaGreatDoor
namespace Go.Proofs.YtelplojmbjnplaaGreatDoor
open Lyc Go Go.Extern
set_option maxRecDepth 100000
def Cx (w:World):Prop:=∃o,w.heap[0]?=some o∧Av (some o) 0=some (.iface 207 (.agg #[.pointer (some ⟨2,30,none⟩)]))
theorem Cx.keep {w w':World} {F:List Nat} (h:Cx w) (hc:Chg F w w') (hF:0∉F):Cx w':=by
 obtain⟨o,h1,h2⟩:=h
 exact⟨o,hc.keep h1 hF,h2⟩
theorem Cx.get {w:World} (h:Cx w):Av w.heap[0]? 0=some (.iface 207 (.agg #[.pointer (some ⟨2,30,none⟩)])):=by
 obtain⟨o,h1,h2⟩:=h
 rw[h1,h2]
theorem Cx.lt {w:World} (h:Cx w):0<w.heap.size:=let ⟨_,h1,_⟩:=h;Aa h1
theorem Bx {f:FuncId} {fn:Func} {e:Array Value→Sem Value} {args:Array Value} {w w':World} {v:Value} (hf:Tryz.prog.funcs[f]?=some fn) (hname:(fn.name == "runtime.NumGoroutine")=false)
  (hb:fn.body.isNone=true) (hn:Extern.findNext fn=none) (he:Extern.find fn=some e) (h:(e args).run Tryz.prog w=.ok v w'):(callFunc f args).run Tryz.prog w=.ok (.value v) w':=by
 rw[run_callFunc_extern hf hname hb hn he,h];rfl
theorem Ti (t:Addr) (w:World):(callFunc 60 #[.iface 89 (.pointer (some t))]).run Tryz.prog w
  = .ok (.value (.agg #[.pointer (some ⟨2,89,none⟩),.pointer (some ⟨w.heap.size,0,none⟩),.int .u64 150])) (w.alloc (.cells #[.pointer (some t)] 89)) :=
 Bx (e:=fun args=>ReflectliteValue.unpack (args.getD 0 (.tuple #[]))) Tryz.func60 (by kernel_rfl) (by kernel_rfl) (by kernel_rfl) (by kernel_rfl) (by kernel_rfl)
theorem Vp (c:Int) (w:World):(callFunc 60 #[Ax c]).run Tryz.prog w
  = .ok (.value (.agg #[.pointer (some ⟨2,34,none⟩),.pointer (some ⟨w.heap.size,0,none⟩),.int .u64 130])) (w.alloc (.cells #[.int .i64 c] 34)) :=
 Bx (e:=fun args=>ReflectliteValue.unpack (args.getD 0 (.tuple #[]))) Tryz.func60 (by kernel_rfl) (by kernel_rfl) (by kernel_rfl) (by kernel_rfl) (by kernel_rfl)
theorem Wp (a:Addr) (w:World):(callFunc 61 #[.agg #[.pointer (some ⟨2,89,none⟩),.pointer (some a),.int .u64 150]]).run Tryz.prog w
  = .ok (.value (.iface 207 (.agg #[.pointer (some ⟨2,89,none⟩)]))) w :=
 Bx (e:=ReflectliteValue.methodAny (ReflectliteValue.valueError "reflectlite.Value.Type" 0) (fun t _ _ _=>ReflectliteType.toType t)) Tryz.func61 (by kernel_rfl) (by kernel_rfl) (by kernel_rfl) (by kernel_rfl) (by kernel_rfl)
theorem On (h:Value) (w:World):(Go.method (Tryz.prog.types.size+Made.depth) 207 (.agg #[h]) "Kind").run Tryz.prog w=.ok (256,h) w:=by kernel_rfl
theorem Za (h:Value) (w:World):(Go.method (Tryz.prog.types.size+Made.depth) 207 (.agg #[h]) "Elem").run Tryz.prog w=.ok (274,.agg #[h]) w:=by kernel_rfl
theorem PQ (h:Value) (w:World):(Go.method (Tryz.prog.types.size+Made.depth) 207 (.agg #[h]) "Implements").run Tryz.prog w=.ok (275,.agg #[h]) w:=by kernel_rfl
theorem He (h:Value) (w:World):(Go.method (Tryz.prog.types.size+Made.depth) 207 (.agg #[h]) "AssignableTo").run Tryz.prog w=.ok (272,.agg #[h]) w:=by kernel_rfl
theorem Qd (w:World):(callFunc 256 #[.pointer (some ⟨2,89,none⟩)]).run Tryz.prog w=.ok (.value (.int .u8 22)) w :=
 Bx (e:=ReflectliteType.abiMethod fun t=>do pure (.int .u8 (←Rtype.kind t))) Tryz.func256 (by kernel_rfl) (by kernel_rfl) (by kernel_rfl) (by kernel_rfl) (by kernel_rfl)
theorem Rf (w:World):(callFunc 256 #[.pointer (some ⟨2,34,none⟩)]).run Tryz.prog w=.ok (.value (.int .u8 2)) w :=
 Bx (e:=ReflectliteType.abiMethod fun t=>do pure (.int .u8 (←Rtype.kind t))) Tryz.func256 (by kernel_rfl) (by kernel_rfl) (by kernel_rfl) (by kernel_rfl) (by kernel_rfl)
theorem QP (w:World):(callFunc 274 #[.agg #[.pointer (some ⟨2,89,none⟩)]]).run Tryz.prog w=.ok (.value (.iface 207 (.agg #[.pointer (some ⟨2,34,none⟩)]))) w :=
 Bx (e:=ReflectliteType.method ReflectliteType.elem) Tryz.func274 (by kernel_rfl) (by kernel_rfl) (by kernel_rfl) (by kernel_rfl) (by kernel_rfl)
theorem WG (w:World):(callFunc 275 #[.agg #[.pointer (some ⟨2,34,none⟩)],.iface 207 (.agg #[.pointer (some ⟨2,30,none⟩)])]).run Tryz.prog w=.ok (.value (.bool true)) w :=
 Bx (e:=ReflectliteType.relation "Implements" ReflectliteType.implements_) Tryz.func275 (by kernel_rfl) (by kernel_rfl) (by kernel_rfl) (by kernel_rfl) (by kernel_rfl)
theorem I9 (c:Int) (w:World):(callFunc 78 #[Ax c]).run Tryz.prog w=.ok (.value (.iface 207 (.agg #[.pointer (some ⟨2,34,none⟩)]))) w :=
 Bx (e:=ReflectliteType.typeOf) Tryz.func78 (by kernel_rfl) (by kernel_rfl) (by kernel_rfl) (by kernel_rfl) (by kernel_rfl)
theorem Yw (w:World):(callFunc 272 #[.agg #[.pointer (some ⟨2,34,none⟩)],.iface 207 (.agg #[.pointer (some ⟨2,34,none⟩)])]).run Tryz.prog w=.ok (.value (.bool true)) w :=
 Bx (e:=ReflectliteType.relation "AssignableTo" ReflectliteType.assignableTo) Tryz.func272 (by kernel_rfl) (by kernel_rfl) (by kernel_rfl) (by kernel_rfl) (by kernel_rfl)
theorem rlm (z:Sem Value) (f:TypeId→Addr→Nat→Nat→Sem Value) (v:Value) :
  ReflectliteValue.method z f #[v]=(do match ←ReflectliteValue.parts v with|none=>z|some (t,a,fl)=>f t a fl (fl % 32)):=rfl
theorem rls (v x:Value):ReflectliteValue.set #[v,x]=(do
  let (some (dst,a,fl),some (src,b,_)):=(←ReflectliteValue.parts v,←ReflectliteValue.parts x)
   | unsupported (.noEntry "extern/(internal/reflectlite.Value).Set.zeroValue")
  if fl / ReflectliteValue.flagAddr % 2 == 0 then unsupported (.noEntry "extern/(internal/reflectlite.Value).Set.unaddressable")
  let val ←loadVar src b
  if ←Rtype.directlyAssignable dst src then storeVar dst a val
  else if ←Rtype.implements dst src then
   if(←Rtype.kind src) == 20 then
    match val with
    | .nilIface=>unsupported (.noEntry "extern/reflectlite: a nil value of one interface type handed on as a value of another")
    | _=>storeVar dst a val
   else storeVar dst a (.iface src val)
  else panicString ("reflectlite.Set: value of type "++(←Rtype.spelt src) ++ " is not assignable to type "++(←Rtype.spelt dst))
  pure (.tuple #[])):=rfl
theorem NK (a:Addr) (w:World):(ReflectliteValue.parts (.agg #[.pointer (some ⟨2,89,none⟩),.pointer (some a),.int .u64 150])).run Tryz.prog w=.ok (some (89,a,150)) w:=by kernel_rfl
theorem U9 (a:Addr) (w:World):(ReflectliteValue.parts (.agg #[.pointer (some ⟨2,34,none⟩),.pointer (some a),.int .u64 386])).run Tryz.prog w=.ok (some (34,a,386)) w:=by kernel_rfl
theorem XA (a:Addr) (w:World):(ReflectliteValue.parts (.agg #[.pointer (some ⟨2,34,none⟩),.pointer (some a),.int .u64 130])).run Tryz.prog w=.ok (some (34,a,130)) w:=by kernel_rfl
theorem SY (w:World):(Rtype.elem? 89).run Tryz.prog w=.ok (some 34) w:=by kernel_rfl
theorem mkE (p:Addr) (w:World):(ReflectliteValue.mk 34 p ReflectliteValue.flagAddr).run Tryz.prog w=.ok (.agg #[.pointer (some ⟨2,34,none⟩),.pointer (some p),.int .u64 386]) w:=by kernel_rfl
theorem ZH (w:World):(Rtype.directlyAssignable 34 34).run Tryz.prog w=.ok true w:=by kernel_rfl
theorem Ix {w:World} {b:Nat} {v:Value} {t:TypeId} {fr:Nat × Nat} (h:w.heap[b]?=some (.cells #[v] t fr)):w.cell? ⟨b,0,none⟩=some v:=by
 unfold World.cell?
 rw[h]
 rfl
theorem Yf {a p:Nat} {W:World} (ha:W.heap[a]?=some (.cells #[.pointer (some ⟨p,0,none⟩)] 89)) :
  (callFunc 62 #[.agg #[.pointer (some ⟨2,89,none⟩),.pointer (some ⟨a,0,none⟩),.int .u64 150]]).run Tryz.prog W=.ok (.value (.bool false)) W:=by
 refine Bx (e:=ReflectliteValue.method (ReflectliteValue.valueError "reflectlite.Value.IsNil" 0) ReflectliteValue.isNil) Tryz.func62 (by kernel_rfl) (by kernel_rfl) (by kernel_rfl) (by kernel_rfl) ?_
 rw[rlm]
 simp only[Sem.run_bind,NK,Result.andThen]
 simp [ReflectliteValue.isNil,loadVar,isAgg,underlying,Tryz.underlying89,Ix ha,Result.andThen]
theorem Ww {a p:Nat} {W:World} (ha:W.heap[a]?=some (.cells #[.pointer (some ⟨p,0,none⟩)] 89)) :
  (callFunc 107 #[.agg #[.pointer (some ⟨2,89,none⟩),.pointer (some ⟨a,0,none⟩),.int .u64 150]]).run Tryz.prog W=.ok (.value (.agg #[.pointer (some ⟨2,34,none⟩),.pointer (some ⟨p,0,none⟩),.int .u64 386])) W:=by
 refine Bx (e:=ReflectliteValue.method (ReflectliteValue.valueError "reflectlite.Value.Elem" 0) ReflectliteValue.elem) Tryz.func107 (by kernel_rfl) (by kernel_rfl) (by kernel_rfl) (by kernel_rfl) ?_
 rw[rlm]
 simp only[Sem.run_bind,NK,Result.andThen]
 simp [ReflectliteValue.elem,loadVar,isAgg,underlying,Tryz.underlying89,Ix ha,Result.andThen,SY,mkE]
theorem VG {ta b:Nat} {c n:Int} {W:World} (hb:W.heap[b]?=some (.cells #[.int .i64 c] 34)) (ht:W.heap[ta]?=some (.cells #[.int .i64 n] 34)) :
  (callFunc 108 #[.agg #[.pointer (some ⟨2,34,none⟩),.pointer (some ⟨ta,0,none⟩),.int .u64 386],.agg #[.pointer (some ⟨2,34,none⟩),.pointer (some ⟨b,0,none⟩),.int .u64 130]]).run Tryz.prog W
   = .ok (.value (.tuple #[])) (Ab W ta (.cells #[.int .i64 c] 34)):=by
 refine Bx (e:=ReflectliteValue.set) Tryz.func108 (by kernel_rfl) (by kernel_rfl) (by kernel_rfl) (by kernel_rfl) ?_
 have hp:Az W.heap[ta]? 0 [.int .i64 c]=some (.cells #[.int .i64 c] 34):=by rw[ht];rfl
 rw[rls]
 simp only[Sem.run_bind,U9,XA,Result.andThen]
 simp [ReflectliteValue.flagAddr,loadVar,isAgg,underlying,Tryz.underlying34,Ix hb,Result.andThen,ZH,storeVar,Value.cells,E2 hp rfl,Bh (P:=Tryz.prog) (t:=34) (n:=1) (by kernel_rfl)]
end Go.Proofs.YtelplojmbjnplaaGreatDoor
namespace Go.Proofs.YtelplojmbjnplaaGreatDoor
open Lyc Go Go.Joins Go.ChangeShapes Go.WideShapes Go.ChangeAt Go.RowKit Go.Deep
set_option maxRecDepth 100000
theorem W5:Tryz.prog.globalNamed "errors.errorType"=some 0:=by kernel_rfl
theorem Uj:(Tryz.prog.cutTypes.find? (·.1 == "internal/reflectlite.rtype")).map (·.2)=some 207:=by kernel_rfl
theorem TO:((List.range Tryz.prog.types.size).filter fun t=>Tryz.prog.rowNamed t [101,114,114,111,114])=[30]:=by kernel_rfl
theorem VS:typeHandle Tryz.prog 30=.pointer (some ⟨2,30,none⟩):=by kernel_rfl
theorem WW {W:World} (h:laidMetH Tryz.prog Rows.sessionTurnsRow.laid W):Cx W:=by
 have h':laidMet Tryz.prog [] W∧handlesMet Tryz.prog Rows.sessionTurnsRow.laid W:=h
 obtain⟨name,u,ty,e1,e2,e3,e4,e5⟩:=h'.2 _ (List.mem_singleton.2 rfl)
 have en:name=[101,114,114,111,114]:=(Option.some.inj e1).symm
 subst en
 obtain rfl:=Option.some.inj (Uj.symm.trans e2)
 have hm:ty∈(List.range Tryz.prog.types.size).filter fun t=>Tryz.prog.rowNamed t [101,114,114,111,114]:=List.mem_filter.2 ⟨List.mem_range.2 e3,e4⟩
 rw[TO] at hm
 obtain rfl:=List.mem_singleton.1 hm
 rw[VS] at e5
 have hc:=World.var?_cell W5 e5 0
 have hc:W.cell? ⟨0,0,none⟩=some (.iface 207 (.agg #[.pointer (some ⟨2,30,none⟩)])):=by simpa using hc
 unfold World.cell? at hc
 cases hh:W.heap[0]? with
 | none=>rw[hh] at hc;simp at hc
 | some o =>
  rw[hh] at hc
  refine⟨o,hh,?_⟩
  cases o<;>first|(simp at hc;done)|simpa [Av] using hc
end Go.Proofs.YtelplojmbjnplaaGreatDoor
namespace Go.Proofs.YtelplojmbjnplaaGreatDoor
open Lyc Go
structure Ss.row (S:Ss) (n cur:Nat):Prop where
 ids:∀x:Int,x∈S.wins.map (·.n)↔1≤x∧x≤n
 one:∀W∈S.wins,W.active=1∧∃t,W.L.root=.pane t 1
 cur:S.cur=cur
 pre:S.pre=false
 cop:S.cop=false
def Br (n:Nat):List Int:=(List.range n).map fun i:Nat=>(i:Int)+1
theorem QY (n:Nat):B8 (Br n):=by
 unfold Br B8
 rw[List.pairwise_map]
 exact List.pairwise_lt_range.imp fun h=>by omega
theorem WD {n:Nat} {x:Int}:x∈Br n↔1≤x∧x≤n:=by
 unfold Br
 rw[List.mem_map]
 constructor
 ·rintro⟨i,hi,rfl⟩
  have:=List.mem_range.1 hi
  omega
 ·intro h
  exact⟨(x-1).toNat,List.mem_range.2 (by omega),by omega⟩
theorem Vr:Bv false false [2,99]=⟨false,false,[⟨6,0,[]⟩],[]⟩:=rfl
section
variable {base:Nat} {w w':World} {s:Nat} {S:Ss} {lim:Int}
end
end Go.Proofs.YtelplojmbjnplaaGreatDoor
namespace Go.Proofs.YtelplojmbjnplaaGreatDoor
open Lyc Go Go.Extern
set_option maxRecDepth 100000
theorem BQ {x:Value} {a b ty:TypeId} {ok:Bool} {K:Value→World→Prop} {w:World} {v:Value} (h:(Instr.typeAssert x a b ok).run Tryz.prog w=.ok v w) (hk:K v w):OpX Tryz.prog (.typeAssert (.const x) a b ok) ty K w:=by
 refine Eq.mpr (AW fun ρ hg=>?_) hk
 simp [execOp,An,hg.1,h]
abbrev PLv (b:Nat):Value:=.iface 109 (.pointer (some ⟨b,0,none⟩))
abbrev WOv (b:Nat):Value:=.iface 112 (.pointer (some ⟨b,0,none⟩))
theorem Su (b:Nat) (w:World):(Instr.typeAssert (PLv b) 30 211 true).run Tryz.prog w=.ok (.tuple #[.nilIface,.bool false]) w:=run_typeAssert_lacksB Tryz.underlying211 (by kernel_rfl) (by kernel_rfl) _ _ w
theorem Zq (b:Nat) (w:World):(Instr.typeAssert (WOv b) 30 211 true).run Tryz.prog w=.ok (.tuple #[.nilIface,.bool false]) w:=run_typeAssert_lacksB Tryz.underlying211 (by kernel_rfl) (by kernel_rfl) _ _ w
theorem JG (b:Nat) (w:World):(Instr.typeAssert (PLv b) 30 174 true).run Tryz.prog w=.ok (.tuple #[PLv b,.bool true]) w:=by kernel_rfl
theorem LL (b:Nat) (w:World):(Instr.typeAssert (WOv b) 30 174 true).run Tryz.prog w=.ok (.tuple #[WOv b,.bool true]) w:=by kernel_rfl
theorem TT (b:Nat) (w:World):(Instr.typeAssert (PLv b) 30 238 true).run Tryz.prog w=.ok (.tuple #[.nilIface,.bool false]) w:=run_typeAssert_lacksB Tryz.underlying238 (by kernel_rfl) (by kernel_rfl) _ _ w
theorem VM (b:Nat) (w:World):(Instr.typeAssert (WOv b) 30 238 true).run Tryz.prog w=.ok (.tuple #[.nilIface,.bool false]) w:=run_typeAssert_lacksB Tryz.underlying238 (by kernel_rfl) (by kernel_rfl) _ _ w
theorem VO (b:Nat) (w:World):(Instr.typeAssert (PLv b) 30 109 true).run Tryz.prog w=.ok (.tuple #[.pointer (some ⟨b,0,none⟩),.bool true]) w:=by kernel_rfl
theorem Tf (b:Nat) (w:World):(Instr.typeAssert (WOv b) 30 109 true).run Tryz.prog w=.ok (.tuple #[.pointer none,.bool false]) w:=by kernel_rfl
theorem Yn (c:Int) (w:World):(Instr.typeAssert (Ax c) 30 109 true).run Tryz.prog w=.ok (.tuple #[.pointer none,.bool false]) w:=by kernel_rfl
theorem Xj (b:Nat) (w:World):(Instr.typeAssert (WOv b) 30 112 true).run Tryz.prog w=.ok (.tuple #[.pointer (some ⟨b,0,none⟩),.bool true]) w:=by kernel_rfl
theorem Qo (c:Int) (w:World):(Instr.typeAssert (Ax c) 30 112 true).run Tryz.prog w=.ok (.tuple #[.pointer none,.bool false]) w:=by kernel_rfl
theorem V1 (c:Int) (w:World):(Instr.typeAssert (Ax c) 30 115 true).run Tryz.prog w=.ok (.tuple #[.pointer none,.bool false]) w:=by kernel_rfl
theorem Sj (c:Int) (w:World):(Instr.typeAssert (Ax c) 30 34 true).run Tryz.prog w=.ok (.tuple #[.int .i64 c,.bool true]) w:=by kernel_rfl
theorem Zl (b:Nat) (w:World):(callFunc 78 #[PLv b]).run Tryz.prog w=.ok (.value (.iface 207 (.agg #[.pointer (some ⟨2,109,none⟩)]))) w :=
 Bx (e:=ReflectliteType.typeOf) Tryz.func78 (by kernel_rfl) (by kernel_rfl) (by kernel_rfl) (by kernel_rfl) (by kernel_rfl)
theorem R3 (b:Nat) (w:World):(callFunc 78 #[WOv b]).run Tryz.prog w=.ok (.value (.iface 207 (.agg #[.pointer (some ⟨2,112,none⟩)]))) w :=
 Bx (e:=ReflectliteType.typeOf) Tryz.func78 (by kernel_rfl) (by kernel_rfl) (by kernel_rfl) (by kernel_rfl) (by kernel_rfl)
theorem P8 (w:World):(callFunc 272 #[.agg #[.pointer (some ⟨2,109,none⟩)],.iface 207 (.agg #[.pointer (some ⟨2,34,none⟩)])]).run Tryz.prog w=.ok (.value (.bool false)) w :=
 Bx (e:=ReflectliteType.relation "AssignableTo" ReflectliteType.assignableTo) Tryz.func272 (by kernel_rfl) (by kernel_rfl) (by kernel_rfl) (by kernel_rfl) (by kernel_rfl)
theorem RO (w:World):(callFunc 272 #[.agg #[.pointer (some ⟨2,112,none⟩)],.iface 207 (.agg #[.pointer (some ⟨2,34,none⟩)])]).run Tryz.prog w=.ok (.value (.bool false)) w :=
 Bx (e:=ReflectliteType.relation "AssignableTo" ReflectliteType.assignableTo) Tryz.func272 (by kernel_rfl) (by kernel_rfl) (by kernel_rfl) (by kernel_rfl) (by kernel_rfl)
theorem SH (h:Value) (w:World):(Go.method (Tryz.prog.types.size+Made.depth) 207 (.agg #[h]) "Comparable").run Tryz.prog w=.ok (273,.agg #[h]) w:=by kernel_rfl
theorem LB (b:Nat) (w:World):(Go.method (Tryz.prog.types.size+Made.depth) 109 (.pointer (some ⟨b,0,none⟩)) "Unwrap").run Tryz.prog w=.ok (261,.pointer (some ⟨b,0,none⟩)) w:=by kernel_rfl
theorem Ou (b:Nat) (w:World):(Go.method (Tryz.prog.types.size+Made.depth) 112 (.pointer (some ⟨b,0,none⟩)) "Unwrap").run Tryz.prog w=.ok (263,.pointer (some ⟨b,0,none⟩)) w:=by kernel_rfl
theorem UR (w:World):(callFunc 273 #[.agg #[.pointer (some ⟨2,34,none⟩)]]).run Tryz.prog w=.ok (.value (.bool true)) w :=
 Bx (e:=ReflectliteType.method fun t=>do Rtype.noPackHeld "Comparable" t;pure (.bool (←typeInfo t).comparable)) Tryz.func273 (by kernel_rfl) (by kernel_rfl) (by kernel_rfl) (by kernel_rfl) (by kernel_rfl)
theorem SG (b:Nat):PureBin Tryz.prog .eql 30 (PLv b) (Ax 15) (.bool false):=⟨fun x y w=>by kernel_rfl⟩
theorem R5 (b:Nat):PureBin Tryz.prog .eql 30 (WOv b) (Ax 15) (.bool false):=⟨fun x y w=>by kernel_rfl⟩
theorem Pa:PureBin Tryz.prog .eql 30 (Ax 15) (Ax 15) (.bool true):=⟨fun x y w=>by kernel_rfl⟩
structure Deep (w:World) (b b2:Nat) (c:Int) (word:List UInt8):Prop where
 hP:w.heap[b]?=some (.cells #[WOv b2,.int .i64 0] 111)
 hW:w.heap[b2]?=some (.cells #[Ax c,.string (Aq word)] 114)
theorem Deep.chg0 {w w':World} {b b2:Nat} {c:Int} {word:List UInt8} (h:Deep w b b2 c word) (hc:Chg [] w w'):Deep w' b b2 c word:=⟨hc.keep h.hP (by simp),hc.keep h.hW (by simp)⟩
section
variable {w:World} {b b2:Nat} {c:Int} {word:List UInt8}
theorem Mv (h:Deep w b b2 c word):Calls Tryz.prog 261 #[.pointer (some ⟨b,0,none⟩)] w (Ac fun v w'=>v=WOv b2∧w'=w):=by
 have hP:=h.hP
 apply Zk
 intro K hK
 unfold JV
 simp -dsimp (disch:=first|omega|(simp only[go_sem,seval];try omega))only[go_sem,seval,hP]
 exact hK _ _ ⟨rfl,rfl⟩
theorem NM (h:Deep w b b2 c word):Calls Tryz.prog 263 #[.pointer (some ⟨b2,0,none⟩)] w (Ac fun v w'=>v=Ax c∧w'=w):=by
 have hW:=h.hW
 apply Yx
 intro K hK
 unfold O0
 simp -dsimp (disch:=first|omega|(simp only[go_sem,seval];try omega))only[go_sem,seval,hW]
 exact hK _ _ ⟨rfl,rfl⟩
theorem YZ (h:Deep w b b2 c word) {t:Nat} {n:Int} (ht:w.heap[t]?=some (.cells #[.int .i64 n] 34)) {m0:Nat} (hm:w.heap[m0]?=some (.cells #[.pointer (some ⟨t,0,none⟩)] 89)) :
  Calls Tryz.prog 63 #[PLv b,.iface 89 (.pointer (some ⟨t,0,none⟩)),.agg #[.pointer (some ⟨2,89,none⟩),.pointer (some ⟨m0,0,none⟩),.int .u64 150],.iface 207 (.agg #[.pointer (some ⟨2,34,none⟩)])] w
   (Ac fun v w'=>v=.bool true∧w'.heap[t]?=some (.cells #[.int .i64 c] 34)∧Chg [t] w w'):=by
 apply YD
 intro K hK
 unfold NL
 simp -dsimp (disch:=first|omega|(simp only[go_sem,seval];try omega))only[go_sem,seval]
 refine Dz (F:=Loop1 _ _) fun w1 hw1=>?_
 have hc1:Chg [] w w1:=by rw[hw1];(repeat (first|exact Chg.refl _ _|apply Chg.drew|apply Chg.alloc|(refine Chg.set ?_ _ _ (by first|(left;simp;done)|(right;omega)))))
 have a1:w1.heap[w.heap.size]?=some (.cells #[.pointer (some ⟨2,89,none⟩),.pointer (some ⟨m0,0,none⟩),.int .u64 150] 136):=by rw[hw1];simp -dsimp (disch:=first|omega|(simp only[go_sem,seval];try omega))only[go_sem,seval]
 clear hw1
 have h1:=h.chg0 hc1
 refine Loop1.st (fun q:Value × Nat=>q.1) (fun q w'=>(q=(PLv b,2)∨q=(WOv b2,1)∨q=(Ax c,0))∧w'=w1) (fun q=>q.2) (PLv b,2) rfl ⟨.inl rfl,rfl⟩ ?_
 rintro next ⟨v,k⟩ wi hn ⟨hq,rfl⟩
 rcases hq with hq|hq|hq<;>cases hq
 ·refine OpX.ext rfl (Zl b _) ?_
  refine OpX.inv rfl (He _ _) (P8 _) ?_
  simp -dsimp (disch:=first|omega|(simp only[go_sem,seval];try omega))only[go_sem,seval]
  refine BQ (Su b _) ?_
  simp -dsimp (disch:=first|omega|(simp only[go_sem,seval];try omega))only[go_sem,seval]
  refine Join1.cut (fun v w'=>v=.bool false∧w'=wi) (by simp -dsimp (disch:=first|omega|(simp only[go_sem,seval];try omega))only[go_sem,seval]) ?_
  rintro v w2 ⟨rfl,rfl⟩
  simp -dsimp (disch:=first|omega|(simp only[go_sem,seval];try omega))only[go_sem,seval]
  refine BQ (JG b _) ?_
  simp -dsimp (disch:=first|omega|(simp only[go_sem,seval];try omega))only[go_sem,seval]
  refine OpX.invC rfl (LB b _) MS (Calls.ret (Mv h1) ?_)
  rintro v w3 ⟨rfl,rfl⟩
  simp -dsimp (disch:=first|omega|(simp only[go_sem,seval];try omega))only[go_sem,seval]
  exact hn (WOv b2,1) _ ⟨.inr (.inl rfl),rfl⟩ (by dsimp only;omega)
 ·refine OpX.ext rfl (R3 b2 _) ?_
  refine OpX.inv rfl (He _ _) (RO _) ?_
  simp -dsimp (disch:=first|omega|(simp only[go_sem,seval];try omega))only[go_sem,seval]
  refine BQ (Zq b2 _) ?_
  simp -dsimp (disch:=first|omega|(simp only[go_sem,seval];try omega))only[go_sem,seval]
  refine Join1.cut (fun v w'=>v=.bool false∧w'=wi) (by simp -dsimp (disch:=first|omega|(simp only[go_sem,seval];try omega))only[go_sem,seval]) ?_
  rintro v w2 ⟨rfl,rfl⟩
  simp -dsimp (disch:=first|omega|(simp only[go_sem,seval];try omega))only[go_sem,seval]
  refine BQ (LL b2 _) ?_
  simp -dsimp (disch:=first|omega|(simp only[go_sem,seval];try omega))only[go_sem,seval]
  refine OpX.invC rfl (Ou b2 _) Jk (Calls.ret (NM h1) ?_)
  rintro v w3 ⟨rfl,rfl⟩
  unfold Ax
  simp -dsimp (disch:=first|omega|(simp only[go_sem,seval];try omega))only[go_sem,seval]
  exact hn (Ax c,0) _ ⟨.inr (.inr rfl),rfl⟩ (by dsimp only;omega)
 ·refine OpX.ext rfl (I9 c _) ?_
  refine OpX.inv rfl (He _ _) (Yw _) ?_
  simp -dsimp (disch:=first|omega|(simp only[go_sem,seval];try omega))only[go_sem,seval,a1]
  have hm1:=hc1.keep hm (by simp)
  refine OpX.ext rfl (Ww hm1) ?_
  refine OpX.ext rfl (Vp c _) ?_
  have hc2:=AE wi (.cells #[.int .i64 c] 34)
  have a2:(wi.alloc (.cells #[.int .i64 c] 34)).heap[wi.heap.size]?=some (.cells #[.int .i64 c] 34):=by simp -dsimp (disch:=first|omega|(simp only[go_sem,seval];try omega))only[go_sem,seval]
  have ht2:=hc2.keep (hc1.keep ht (by simp)) (by simp)
  refine OpX.ext rfl (VG a2 ht2) ?_
  refine hK _ _ ⟨rfl,Au _ _ _ _ rfl (Aa ht2),((hc1.trans0 hc2).mono (F':=[t]) (by simp)).set _ _ (.inl (by simp))⟩
theorem QU (h:Deep w b b2 c word) (hL:Cx w) {t:Nat} (ht:w.heap[t]?=some (.cells #[.int .i64 0] 34)) (h0:t≠0) :
  Calls Tryz.prog 35 #[PLv b,.iface 89 (.pointer (some ⟨t,0,none⟩))] w (Ac fun v w'=>v=.bool true∧w'.heap[t]?=some (.cells #[.int .i64 c] 34)∧Chg [t] w w'):=by
 apply Pe
 intro K hK
 unfold Nf
 simp -dsimp (disch:=first|omega|(simp only[go_sem,seval];try omega))only[go_sem,seval]
 refine Join0.cut (fun w'=>w'=w) (by simp -dsimp (disch:=first|omega|(simp only[go_sem,seval];try omega))only[go_sem,seval]) ?_
 rintro w' rfl
 refine OpX.ext rfl (Ti _ _) ?_
 simp -dsimp (disch:=first|omega|(simp only[go_sem,seval];try omega))only[go_sem,seval]
 refine Dz (F:=OpX _ _ _ _) fun w1 hw1=>?_
 have hc1:Chg [] w' w1:=by rw[hw1];(repeat (first|exact Chg.refl _ _|apply Chg.drew|apply Chg.alloc|(refine Chg.set ?_ _ _ (by first|(left;simp;done)|(right;omega)))))
 have a0:w1.heap[w'.heap.size]?=some (.cells #[.pointer (some ⟨t,0,none⟩)] 89):=by rw[hw1];simp -dsimp (disch:=first|omega|(simp only[go_sem,seval];try omega))only[go_sem,seval]
 have a1:w1.heap[w'.heap.size+1]?=some (.cells #[.pointer (some ⟨2,89,none⟩),.pointer (some ⟨w'.heap.size,0,none⟩),.int .u64 150] 136):=by rw[hw1];simp -dsimp (disch:=first|omega|(simp only[go_sem,seval];try omega))only[go_sem,seval]
 clear hw1
 refine OpX.ext rfl (Wp _ _) ?_
 refine Join0.cut (fun w'=>w'=w1) ?_ ?_
 ·refine Join1.cut (fun v w'=>v=.bool false∧w'=w1) ?_ ?_
  ·refine OpX.inv rfl (On _ _) (Qd _) ?_
   simp -dsimp (disch:=first|omega|(simp only[go_sem,seval];try omega))only[go_sem,seval,a1]
   refine OpX.ext rfl (Yf a0) ?_
   exact⟨rfl,rfl⟩
  ·rintro v w2 ⟨rfl,rfl⟩
   simp -dsimp (disch:=first|omega|(simp only[go_sem,seval];try omega))only[go_sem,seval]
 rintro w2 rfl
 refine OpX.inv rfl (Za _ _) (QP _) ?_
 refine Join0.cut (fun w'=>w'=w2) ?_ ?_
 ·refine Join1.cut (fun v w'=>v=.bool false∧w'=w2) ?_ ?_
  ·refine OpX.inv rfl (On _ _) (Rf _) ?_
   have hg:=(hL.keep hc1 (by simp)).get
   simp -dsimp (disch:=first|omega|(simp only[go_sem,seval];try omega))only[go_sem,seval,Qq,hg]
   refine OpX.inv rfl (PQ _ _) (WG _) ?_
   simp -dsimp (disch:=first|omega|(simp only[go_sem,seval];try omega))only[go_sem,seval]
  ·rintro v w3 ⟨rfl,rfl⟩
   simp -dsimp (disch:=first|omega|(simp only[go_sem,seval];try omega))only[go_sem,seval]
 rintro w3 rfl
 simp -dsimp (disch:=first|omega|(simp only[go_sem,seval];try omega))only[go_sem,seval,a1]
 have hh:=YZ (h.chg0 hc1) (hc1.keep ht (by simp)) a0
 refine OpX.call WQ rfl (Calls.ret (hh) ?_)
 rintro v w4 ⟨rfl,h4,hc4⟩
 exact hK _ _ ⟨rfl,h4,(hc1.mono (F':=[t]) (by simp)).trans hc4 (fun x hx=>.inl hx)⟩
theorem Mk (h:Deep w b b2 c word) (hL:Cx w):Calls Tryz.prog 12 #[PLv b] w (Ac fun v w'=>v=.int .i64 c∧Chg [] w w'):=by
 have h0:=hL.lt
 apply KV
 intro K hK
 unfold IJ
 simp -dsimp (disch:=first|omega|(simp only[go_sem,seval];try omega))only[go_sem,seval]
 have hc1:=AE w (.cells #[.int .i64 0] 34)
 have a1:(w.alloc (.cells #[.int .i64 0] 34)).heap[w.heap.size]?=some (.cells #[.int .i64 0] 34):=by simp -dsimp (disch:=first|omega|(simp only[go_sem,seval];try omega))only[go_sem,seval]
 generalize w.alloc (.cells #[.int .i64 0] 34)=w1 at *
 refine Join1.cut (fun v w'=>v=.bool true∧w'.heap[w.heap.size]?=some (.cells #[.int .i64 c] 34)∧Chg [w.heap.size] w1 w') ?_ ?_
 ·simp -dsimp (disch:=first|omega|(simp only[go_sem,seval];try omega))only[go_sem,seval]
  have hh:=QU (h.chg0 hc1) (hL.keep hc1 (by simp)) a1 (by omega)
  refine OpX.call UQ rfl (Calls.ret (hh) ?_)
  rintro v w2 ⟨rfl,h2,hc2⟩
  exact⟨rfl,h2,hc2⟩
 ·rintro v w2 ⟨rfl,a2,hc2⟩
  simp -dsimp (disch:=first|omega|(simp only[go_sem,seval];try omega))only[go_sem,seval,a2]
  exact hK _ _ ⟨rfl,hc1.trans hc2 (by simp)⟩
theorem R8 (h:Deep w b b2 15 word):Calls Tryz.prog 26 #[PLv b,.int .i64 15] w (Ac fun v w'=>v=.bool true∧w'=w):=by
 have hi:Calls Tryz.prog 79 #[PLv b,Ax 15,.bool true] w (Ac fun v w'=>v=.bool true∧w'=w):=by
  apply Rg
  intro K hK
  unfold M7
  refine Loop1.st (fun q:Value × Nat=>q.1) (fun q w'=>(q=(PLv b,2)∨q=(WOv b2,1)∨q=(Ax 15,0))∧w'=w) (fun q=>q.2) (PLv b,2) rfl ⟨.inl rfl,rfl⟩ ?_
  rintro next ⟨v,k⟩ wi hn ⟨hq,rfl⟩
  rcases hq with hq|hq|hq<;>cases hq
  ·refine Join1.cut (fun v w'=>v=.bool false∧w'=wi) ?_ ?_
   ·simp -dsimp (disch:=first|omega|(simp only[go_sem,seval];try omega))only[go_sem,seval]
    rw[(SG b).op]
    exact⟨rfl,rfl⟩
   rintro v w2 ⟨rfl,rfl⟩
   simp -dsimp (disch:=first|omega|(simp only[go_sem,seval];try omega))only[go_sem,seval]
   refine BQ (TT b _) ?_
   simp -dsimp (disch:=first|omega|(simp only[go_sem,seval];try omega))only[go_sem,seval]
   refine Join1.cut (fun v w'=>v=.bool false∧w'=w2) (by simp -dsimp (disch:=first|omega|(simp only[go_sem,seval];try omega))only[go_sem,seval]) ?_
   rintro v w3 ⟨rfl,rfl⟩
   simp -dsimp (disch:=first|omega|(simp only[go_sem,seval];try omega))only[go_sem,seval]
   refine BQ (JG b _) ?_
   simp -dsimp (disch:=first|omega|(simp only[go_sem,seval];try omega))only[go_sem,seval]
   refine OpX.invC rfl (LB b _) MS (Calls.ret (Mv h) ?_)
   rintro v w4 ⟨rfl,rfl⟩
   simp -dsimp (disch:=first|omega|(simp only[go_sem,seval];try omega))only[go_sem,seval]
   exact hn (WOv b2,1) _ ⟨.inr (.inl rfl),rfl⟩ (by dsimp only;omega)
  ·refine Join1.cut (fun v w'=>v=.bool false∧w'=wi) ?_ ?_
   ·simp -dsimp (disch:=first|omega|(simp only[go_sem,seval];try omega))only[go_sem,seval]
    rw[(R5 b2).op]
    exact⟨rfl,rfl⟩
   rintro v w2 ⟨rfl,rfl⟩
   simp -dsimp (disch:=first|omega|(simp only[go_sem,seval];try omega))only[go_sem,seval]
   refine BQ (VM b2 _) ?_
   simp -dsimp (disch:=first|omega|(simp only[go_sem,seval];try omega))only[go_sem,seval]
   refine Join1.cut (fun v w'=>v=.bool false∧w'=w2) (by simp -dsimp (disch:=first|omega|(simp only[go_sem,seval];try omega))only[go_sem,seval]) ?_
   rintro v w3 ⟨rfl,rfl⟩
   simp -dsimp (disch:=first|omega|(simp only[go_sem,seval];try omega))only[go_sem,seval]
   refine BQ (LL b2 _) ?_
   simp -dsimp (disch:=first|omega|(simp only[go_sem,seval];try omega))only[go_sem,seval]
   refine OpX.invC rfl (Ou b2 _) Jk (Calls.ret (NM h) ?_)
   rintro v w4 ⟨rfl,rfl⟩
   unfold Ax
   simp -dsimp (disch:=first|omega|(simp only[go_sem,seval];try omega))only[go_sem,seval]
   exact hn (Ax 15,0) _ ⟨.inr (.inr rfl),rfl⟩ (by dsimp only;omega)
  ·refine Join1.cut (fun v w'=>v=.bool true∧w'=wi) ?_ ?_
   ·simp -dsimp (disch:=first|omega|(simp only[go_sem,seval];try omega))only[go_sem,seval]
    rw[Pa.op]
    exact⟨rfl,rfl⟩
   rintro v w2 ⟨rfl,rfl⟩
   simp -dsimp (disch:=first|omega|(simp only[go_sem,seval];try omega))only[go_sem,seval]
   exact hK _ _ ⟨rfl,rfl⟩
 apply Qn
 intro K hK
 unfold OW
 simp -dsimp (disch:=first|omega|(simp only[go_sem,seval];try omega))only[go_sem,seval]
 have hI:Calls Tryz.prog 47 #[PLv b,Ax 15] w (Ac fun v w'=>v=.bool true∧w'=w):=by
  apply Qa
  intro K hK
  unfold JO
  refine Join1.cut (fun v w'=>v=.bool false∧w'=w) ?_ ?_
  ·unfold Ax
   simp -dsimp (disch:=first|omega|(simp only[go_sem,seval];try omega))only[go_sem,seval]
  rintro v w2 ⟨rfl,rfl⟩
  simp -dsimp (disch:=first|omega|(simp only[go_sem,seval];try omega))only[go_sem,seval]
  refine OpX.ext rfl (I9 15 _) ?_
  refine OpX.inv rfl (SH _ _) (UR _) ?_
  refine OpX.call Xi rfl (Calls.ret (hi) ?_)
  rintro v w3 ⟨rfl,rfl⟩
  exact hK _ _ ⟨rfl,rfl⟩
 unfold Ax at hI
 refine OpX.call PL rfl (Calls.ret (hI) ?_)
 rintro v w3 ⟨rfl,rfl⟩
 exact hK _ _ ⟨rfl,rfl⟩
theorem Xt {a:Option Addr} {e:Option TypeId} (hs:Sx w e bsF a [word]) (cap:Nat) (sep:List UInt8):Calls Tryz.prog 49 #[.slice a 1 cap,.string (Aq sep)] w (Ac fun v w'=>v=.string (Aq word)∧w'=w):=by
 obtain⟨b',o,rfl,hbl,hcell⟩:=hs.get1 (g:=fun n=>.string (Aq n)) (fun _=>rfl) (i:=0) (x:=word) rfl
 rw[Nat.add_zero] at hcell
 apply QQ
 intro K hK
 unfold Ms
 simp -dsimp (disch:=first|omega|(simp only[go_sem,seval];try omega))only[go_sem,seval,hcell]
 exact hK _ _ ⟨rfl,rfl⟩
theorem XO (h:Deep w b b2 c word):Calls Tryz.prog 27 #[PLv b] w (Ac fun v w'=>v=.string (Aq word)∧Chg [] w w'):=by
 apply S5
 intro K hK
 unfold Jd
 refine Join1.cut (fun v w'=>∃a cap e,v=.slice a 1 cap∧Sx w' e bsF a [word]∧Chg [] w w') ?_ ?_
 ·refine Loop2.st (fun q:Value × Value × Nat=>q.1) (fun q=>q.2.1) (fun q w'=>((q=(PLv b,.slice none 0 0,2)∨q=(WOv b2,.slice none 0 0,1))∧w'=w)∨(∃a cap e,q=(Ax c,.slice a 1 cap,0)∧Sx w' e bsF a [word]∧Chg [] w w')) (fun q=>q.2.2) (PLv b,.slice none 0 0,2) rfl rfl (.inl ⟨.inl rfl,rfl⟩) ?_
  rintro next ⟨v,sl,k⟩ wi hn (⟨hq|hq,rfl⟩|⟨a,cap,e,hq,hsx,hci⟩)<;>cases hq
  ·simp -dsimp (disch:=first|omega|(simp only[go_sem,seval];try omega))only[go_sem,seval]
   refine BQ (VO b _) ?_
   have hP:=h.hP
   simp -dsimp (disch:=first|omega|(simp only[go_sem,seval];try omega))only[go_sem,seval,hP]
   exact hn (WOv b2,.slice none 0 0,1) _ (.inl ⟨.inr rfl,rfl⟩) (by dsimp only;omega)
  ·simp -dsimp (disch:=first|omega|(simp only[go_sem,seval];try omega))only[go_sem,seval]
   refine BQ (Tf b2 _) ?_
   simp -dsimp (disch:=first|omega|(simp only[go_sem,seval];try omega))only[go_sem,seval]
   refine BQ (Xj b2 _) ?_
   have hW:=h.hW
   simp -dsimp (disch:=first|omega|(simp only[go_sem,seval];try omega))only[go_sem,seval,hW]
   have hc1:=AE wi (.cells #[.string (Aq word)] 9)
   have hsa:Sx (wi.alloc (.cells #[.string (Aq word)] 9)) (some 9) bsF (some ⟨wi.heap.size,0,none⟩) [word]:=Sx.built (c:=bsF word) (by simp only[bsF];simp -dsimp (disch:=first|omega|(simp only[go_sem,seval];try omega))only[go_sem,seval]) (by simp)
   generalize wi.alloc (.cells #[.string (Aq word)] 9)=w1 at *
   refine BL (l:=[]) SI (fun _=>rfl) (fun _=>rfl) (Ox.nil wi.heap.size w1 _ _ _) hsa rfl (by simp) (by simp) hc1.size ?_
   intro v2 w2 ho2 hc2 hown2
   obtain⟨a2,c2,rfl,-,hs2,-,-⟩:=ho2.form
   have hc02:Chg [] wi w2:=hc1.trans hc2 (by simp [Value.ownBlock])
   have hW2:=hc02.keep hW (by simp)
   simp -dsimp (disch:=first|omega|(simp only[go_sem,seval];try omega))only[go_sem,seval,hW2]
   exact hn (Ax c,.slice a2 1 c2,0) _ (.inr ⟨a2,c2,_,rfl,hs2,hc02⟩) (by dsimp only;omega)
  ·unfold Ax
   simp -dsimp (disch:=first|omega|(simp only[go_sem,seval];try omega))only[go_sem,seval]
   refine BQ (Yn c _) ?_
   simp -dsimp (disch:=first|omega|(simp only[go_sem,seval];try omega))only[go_sem,seval]
   refine BQ (Qo c _) ?_
   simp -dsimp (disch:=first|omega|(simp only[go_sem,seval];try omega))only[go_sem,seval]
   refine BQ (V1 c _) ?_
   simp -dsimp (disch:=first|omega|(simp only[go_sem,seval];try omega))only[go_sem,seval]
   refine BQ (Sj c _) ?_
   simp -dsimp (disch:=first|omega|(simp only[go_sem,seval];try omega))only[go_sem,seval]
   exact⟨a,cap,e,rfl,hsx,hci⟩
 ·rintro v w2 ⟨a,cap,e,rfl,hsx,hc⟩
  rw[show({ data:=#[47] }:ByteArray)=Aq [47] from rfl]
  refine OpX.call Y1 rfl (Calls.ret (Xt hsx cap [47]) ?_)
  rintro v w3 ⟨rfl,rfl⟩
  exact hK _ _ ⟨rfl,hc⟩
end
end Go.Proofs.YtelplojmbjnplaaGreatDoor
