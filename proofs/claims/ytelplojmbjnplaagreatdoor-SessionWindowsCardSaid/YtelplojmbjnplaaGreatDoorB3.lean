/- Helpers of this claim, part 3: engine, translated functions, contracts, plain laws. -/
import Derived.Test.YtelplojmbjnplaaGreatDoorB2
import Derived.Shelf.Small.Strs
import Derived.Shelf.LaysM
import Derived.Shelf.Strconv.Clone
import Derived.Shelf.Strings.Search1
import Derived.Shelf.Sort.Plain
import Derived.Shelf.Bits.Mul64
import Derived.Shelf.Slices.In.SortNone
import Derived.Test.YtelplojmbjnplaaGreatDoorProg
import Derived.Test.YtelplojmbjnplaaGreatDoorB1
import Derived.Laws.BytesString
import Derived.Test.YtelplojmbjnplaaGreatDoorB0
import Derived.Maps.RangeRun
import Derived.Sort.OwnSortedInts
import Derived.LaidEqlPtr
set_option linter.unusedSimpArgs false
set_option linter.unusedVariables false
namespace Go.Proofs.YtelplojmbjnplaaGreatDoor
open Lyc Go
theorem Sy {a:Act'} (hf:a.fits) {i:Nat} (hi:i<8):Bs (a.nums.getD i 0):=by
 refine hf.nums _ ?_
 have hl:a.nums.length=8:=rfl
 rw[List.getD_eq_getElem?_getD,List.getElem?_eq_getElem (by omega)]
 exact List.getElem_mem _
theorem JH {a:Act'} (hf:a.fits) {i:Nat} {Bk:Int} (hl:Bs Bk):Bs (a.num i Bk):=by
 unfold Act'.num
 split
 ·exact hl
 ·have:=Sy hf (i:=i) (by omega)
  unfold Bs at *
  omega
theorem DF (w:World) (a:Act') (i:Nat) (Bk:Int):Calls Tryz.prog 214 #[a.val,.int .i64 i,.int .i64 Bk] w (Ac fun v w'=>v=.int .i64 (a.num i Bk)∧Chg [] w w'):=by
 apply Zr
 intro K hK
 unfold MU
 simp -dsimp (disch:=first|omega|(simp only[go_sem,seval];try omega))only[go_sem,seval]
 have hc:Chg [] w (w.alloc (.cells a.cells.toArray 247)):=(Chg.refl _ _).alloc _
 refine Join1.cut (fun v w'=>v=.bool (decide (8≤i∨a.n≤i))∧w'=(w.alloc (.cells a.cells.toArray 247))) ?_ ?_
 ·simp -dsimp (disch:=first|omega|(simp only[go_sem,seval];try omega))only[go_sem,seval]
  refine BrW.dec (fun h2=>?_) (fun h2=>?_)
  ·omega
  simp -dsimp (disch:=first|omega|(simp only[go_sem,seval];try omega))only[go_sem,seval]
  refine BrW.dec (fun h3=>?_) (fun h3=>?_)
  ·exact⟨congrArg Value.bool (decide_eq_true (.inl (by omega))).symm,rfl⟩
  simp -dsimp (disch:=first|omega|(simp only[go_sem,seval];try omega))only[go_sem,seval]
  exact congrArg Value.bool (decide_eq_decide.2 (by omega))
 rintro v w1 ⟨rfl,rfl⟩
 unfold Act'.num at hK
 refine BrW.dec (fun h2=>?_) (fun h2=>?_)
 ·rw[if_pos h2] at hK
  exact hK _ _ ⟨rfl,hc⟩
 ·rw[if_neg h2] at hK
  have hi:i=0∨i=1∨i=2∨i=3∨i=4∨i=5∨i=6∨i=7:=by omega
  clear h2
  rcases hi with rfl|rfl|rfl|rfl|rfl|rfl|rfl|rfl<;>(simp -dsimp (disch:=first|omega|(simp only[go_sem,seval];try omega))only[go_sem,seval];exact hK _ _ ⟨rfl,hc⟩)
def E7 (S:Scr) (n:Int):Scr:=S.at S.now.x (max ((S.now.y:Int)-n) (if S.top≤S.now.y then(S.top:Int) else 0)).toNat
def EU (S:Scr) (n:Int):Scr:=S.at S.now.x (min ((S.now.y:Int)+n) (if S.now.y+1≤S.fin then(S.fin:Int)-1 else(S.h:Int)-1)).toNat
theorem Um {w:World} {s:Nat} {M:Scm} (h:SAt w s M) (ok:M.S.ok) (a:Act') (hf:a.fits):Calls Tryz.prog 188 #[.pointer (some ⟨s,0,none⟩),a.val] w
  (Ac fun v w'=>v=.bool (M.S.moved a).isSome∧Did w s M w' ((M.S.moved a).getD M.S)):=by
 have hls:=Aa h.hb
 have hlt:=h.lt
 have tl:=h.tl
 have w0:=ok.w0
 have w1b:=ok.w1
 have h0:=ok.h0
 have h1b:=ok.h1
 have nx:=ok.nx
 have ny:=ok.ny
 have tf:=ok.tf
 have fh:=ok.fh
 have n1:=Dy a 0 1
 have n2:=Dy a 1 1
 have n3:=JH hf (i:=1) (Bk:=1) (by unfold Bs;omega)
 unfold Bs at n3
 apply Yo
 intro K hK
 unfold NV
 simp -dsimp (disch:=first|omega|(simp only[go_sem,seval];try omega))only[go_sem,seval]
 have hc1:Chg [] w (w.alloc (.cells a.cells.toArray 247)):=(Chg.refl _ _).alloc _
 have ha1:(w.alloc (.cells a.cells.toArray 247)).heap[w.heap.size]?=some (.cells a.cells.toArray 247):=by simp -dsimp (disch:=first|omega|(simp only[go_sem,seval];try omega))only[go_sem,seval]
 refine OpX.gen fun w1 hw1=>?_
 replace hw1:w1=(w.alloc (.cells a.cells.toArray 247)):=hw1
 rw[←hw1] at hc1 ha1
 clear hw1
 refine OpX.call Dt rfl (Calls.ret (DF _ a 0 1) ?_)
 rintro v w2 ⟨rfl,hc2⟩
 replace ha1:=hc2.keep ha1 (by simp)
 replace hc1:=hc1.trans0 hc2
 clear hc2
 have hla:=Aa ha1
 have hA:=h.chg0 hc1
 have hb:=hA.hb
 have hs2:=hc1.size
 obtain⟨n,hn⟩:∃n,n=min (a.num 0 1) 9999:=⟨_,rfl⟩
 have hn1:1≤n∧n≤9999:=by omega
 simp -dsimp (disch:=first|omega|(simp only[go_sem,seval];try omega))only[go_sem,seval,ha1]
 rw[←hn]
 have hna:w.heap.size∉s::M.blk:=fun hm=>by have:=hlt _ hm;omega
 refine Join0.cut (fun w'=>∃T,Did w2 s M w' T∧M.S.moved a=some T) ?_ ?_
 ·refine Join0.cut (fun w'=>∃M1:Scm,SAt w' s M1∧M1.S.ok∧Chg (s::M.blk) w2 w'∧M1.blk=M.blk∧M.S.moved a=some (EU M1.S n)) ?_ ?_
  ·refine Join0.cut (fun w'=>∃M1:Scm,SAt w' s M1∧M1.S.ok∧Chg (s::M.blk) w2 w'∧M1.blk=M.blk∧M.S.moved a=some (E7 M1.S n)) ?_ ?_
   ·simp -dsimp (disch:=first|omega|(simp only[go_sem,seval];try omega))only[go_sem,seval]
    refine BrW.dec (fun c1=>?_) (fun c1=>?_)
    ·simp -dsimp (disch:=first|omega|(simp only[go_sem,seval];try omega))only[go_sem,seval,hb]
     refine⟨_,hA.set (M.S.at 0 M.S.now.y) rfl rfl tl rfl,(ok.at w0 ny).ok,(Chg.refl _ _).set _ _ (by simp),rfl,?_⟩
     unfold Scr.moved
     dsimp only
     rw[←hn,if_pos c1]
     rfl
    simp -dsimp (disch:=first|omega|(simp only[go_sem,seval];try omega))only[go_sem,seval]
    refine BrW.dec (fun c2=>?_) (fun c2=>?_)
    ·refine⟨_,hA,ok,Chg.refl _ _,rfl,?_⟩
     unfold Scr.moved
     dsimp only
     rw[←hn,if_neg c1,if_pos c2]
     rfl
    simp -dsimp (disch:=first|omega|(simp only[go_sem,seval];try omega))only[go_sem,seval]
    refine BrW.dec (fun c3=>?_) (fun c3=>?_)
    ·simp -dsimp (disch:=first|omega|(simp only[go_sem,seval];try omega))only[go_sem,seval,hb]
     refine⟨_,hA.set (M.S.at 0 M.S.now.y) rfl rfl tl rfl,(ok.at w0 ny).ok,(Chg.refl _ _).set _ _ (by simp),rfl,?_⟩
     unfold Scr.moved
     dsimp only
     rw[←hn,if_neg c1,if_neg c2,if_pos c3]
     rfl
    simp -dsimp (disch:=first|omega|(simp only[go_sem,seval];try omega))only[go_sem,seval]
    refine BrW.dec (fun c4=>?_) (fun c4=>?_)
    ·refine⟨_,hA,ok,Chg.refl _ _,rfl,?_⟩
     unfold Scr.moved
     dsimp only
     rw[←hn,if_neg c1,if_neg c2,if_neg c3,if_pos c4]
     rfl
    simp -dsimp (disch:=first|omega|(simp only[go_sem,seval];try omega))only[go_sem,seval]
    refine BrW.dec (fun c5=>?_) (fun c5=>?_)
    ·simp -dsimp (disch:=first|omega|(simp only[go_sem,seval];try omega))only[go_sem,seval,hb]
     refine OpX.call Dr rfl (Calls.ret (DY (hA.chg0 (Chg.refl _ _).drew) ok (M.S.now.x+n) M.S.now.y) ?_)
     rintro v w3 hd
     refine⟨_,Did.trans (M1:=M) (Chg.refl _ _).drew (fun b hb=>.inl hb) hd,?_⟩
     unfold Scr.moved
     dsimp only
     rw[←hn,if_neg c1,if_neg c2,if_neg c3,if_neg c4,if_pos c5]
    simp -dsimp (disch:=first|omega|(simp only[go_sem,seval];try omega))only[go_sem,seval]
    refine BrW.dec (fun c6=>?_) (fun c6=>?_)
    ·simp -dsimp (disch:=first|omega|(simp only[go_sem,seval];try omega))only[go_sem,seval,hb]
     refine OpX.call Dr rfl (Calls.ret (DY (hA.chg0 (Chg.refl _ _).drew) ok (M.S.now.x-n) M.S.now.y) ?_)
     rintro v w3 hd
     refine⟨_,Did.trans (M1:=M) (Chg.refl _ _).drew (fun b hb=>.inl hb) hd,?_⟩
     unfold Scr.moved
     dsimp only
     rw[←hn,if_neg c1,if_neg c2,if_neg c3,if_neg c4,if_neg c5,if_pos c6]
    refine Join1.cut (fun v w'=>v=.bool (decide (a.r=71∨a.r=96))∧w2=w') ?_ ?_
    ·simp -dsimp (disch:=first|omega|(simp only[go_sem,seval];try omega))only[go_sem,seval]
     refine BrW.dec (fun h4=>?_) (fun h4=>?_)
     ·exact⟨congrArg Value.bool (decide_eq_true (.inl h4)).symm,rfl⟩
     ·simp -dsimp (disch:=first|omega|(simp only[go_sem,seval];try omega))only[go_sem,seval]
      simp [h4]
    rintro v w3 ⟨rfl,rfl⟩
    refine BrW.dec (fun c7=>?_) (fun c7=>?_)
    ·simp -dsimp (disch:=first|omega|(simp only[go_sem,seval];try omega))only[go_sem,seval,hb]
     refine OpX.call Dr rfl (Calls.ret (DY hA ok (n-1) M.S.now.y) ?_)
     rintro v w3 hd
     refine⟨_,hd,?_⟩
     unfold Scr.moved
     dsimp only
     rw[←hn,if_neg c1,if_neg c2,if_neg c3,if_neg c4,if_neg c5,if_neg c6,if_pos c7]
    simp -dsimp (disch:=first|omega|(simp only[go_sem,seval];try omega))only[go_sem,seval]
    refine BrW.dec (fun c8=>?_) (fun c8=>?_)
    ·simp -dsimp (disch:=first|omega|(simp only[go_sem,seval];try omega))only[go_sem,seval,hb]
     refine OpX.call Dr rfl (Calls.ret (DY hA ok M.S.now.x (n-1)) ?_)
     rintro v w3 hd
     refine⟨_,hd,?_⟩
     unfold Scr.moved
     dsimp only
     rw[←hn,if_neg c1,if_neg c2,if_neg c3,if_neg c4,if_neg c5,if_neg c6,if_neg c7,if_pos c8]
    refine Join1.cut (fun v w'=>v=.bool (decide (a.r=72∨a.r=102))∧w2=w') ?_ ?_
    ·simp -dsimp (disch:=first|omega|(simp only[go_sem,seval];try omega))only[go_sem,seval]
     refine BrW.dec (fun h4=>?_) (fun h4=>?_)
     ·exact⟨congrArg Value.bool (decide_eq_true (.inl h4)).symm,rfl⟩
     ·simp -dsimp (disch:=first|omega|(simp only[go_sem,seval];try omega))only[go_sem,seval]
      simp [h4]
    rintro v w3 ⟨rfl,rfl⟩
    refine BrW.dec (fun c9=>?_) (fun c9=>?_)
    ·simp -dsimp (disch:=first|omega|(simp only[go_sem,seval];try omega))only[go_sem,seval,ha1]
     refine OpX.call Dt rfl (Calls.ret (DF _ a 1 1) ?_)
     rintro v w3 ⟨rfl,hc2⟩
     simp -dsimp (disch:=first|omega|(simp only[go_sem,seval];try omega))only[go_sem,seval]
     refine OpX.call Dr rfl (Calls.ret (DY (hA.chg0 hc2) ok (a.num 1 1-1) (n-1)) ?_)
     rintro v w4 hd
     refine⟨_,Did.trans (M1:=M) (hc2.mono (by simp)) (fun b hb=>.inl hb) hd,?_⟩
     unfold Scr.moved
     dsimp only
     rw[←hn,if_neg c1,if_neg c2,if_neg c3,if_neg c4,if_neg c5,if_neg c6,if_neg c7,if_neg c8,if_pos c9]
    simp -dsimp (disch:=first|omega|(simp only[go_sem,seval];try omega))only[go_sem,seval]
    refine BrW.dec (fun c10=>?_) (fun c10=>?_)
    ·simp -dsimp (disch:=first|omega|(simp only[go_sem,seval];try omega))only[go_sem,seval,hb]
     refine OpX.call G9 rfl (Calls.ret (H3 hA) ?_)
     rintro v w3 hd
     refine⟨_,hd,?_⟩
     unfold Scr.moved
     dsimp only
     rw[←hn,if_neg c1,if_neg c2,if_neg c3,if_neg c4,if_neg c5,if_neg c6,if_neg c7,if_neg c8,if_neg c9,if_pos c10]
    have e:M.S.moved a=none:=by
     unfold Scr.moved
     dsimp only
     rw[if_neg c1,if_neg c2,if_neg c3,if_neg c4,if_neg c5,if_neg c6,if_neg c7,if_neg c8,if_neg c9,if_neg c10]
    rw[e] at hK
    exact hK _ _ ⟨rfl,Did.trans (M1:=M) (hc1.mono (by simp)) (fun b hb=>.inl hb) (Did.refl hA)⟩
   ·rintro w3 ⟨M1,hA1,ok1,hcc,hbl,e⟩
    have hb1:=hA1.hb
    have tl1:=hA1.tl
    have ny1:=ok1.ny
    have h1c:=ok1.h1
    have tf1:=ok1.tf
    have fh1:=ok1.fh
    have hl1:=Aa hb1
    obtain⟨L,hL⟩:∃L:Nat,L=if M1.S.top≤M1.S.now.y then M1.S.top else 0:=⟨_,rfl⟩
    have hL2:(L:Int)=if M1.S.top≤M1.S.now.y then(M1.S.top:Int) else 0:=by rw[hL];split<;>rfl
    have hL3:L<M1.S.h:=by rw[hL];split<;>omega
    have hd:∀w4:World,Chg [] w3 w4→∃w5:World,w5=Ab w4 s ({ M1 with S:={ M1.S with now:={ M1.S.now with y:=(max ((M1.S.now.y:Int)-n) (L:Int)).toNat } } }:Scm).obj∧Did w2 s M w5 (E7 M1.S n):=by
     intro w4 hc4
     refine⟨_,rfl,Did.trans hcc (fun b hb=>.inl (by rw[←hbl];exact hb)) (Did.trans (M1:=M1) (hc4.mono (by simp)) (fun b hb=>.inl hb) ?_)⟩
     have:=Did.set (hA1.chg0 hc4) (Chg.refl _ _) (fun b hb=>.inl hb) (E7 M1.S n) rfl rfl tl1 rfl
     unfold E7 at this
     rw[←hL2] at this
     unfold E7
     rw[←hL2]
     exact this
    refine Join1.cut (fun v w'=>v=.int .i64 (L:Int)∧Chg [] w3 w') ?_ ?_
    ·simp -dsimp (disch:=first|omega|(simp only[go_sem,seval];try omega))only[go_sem,seval,hb1]
     refine BrW.dec (fun h4=>?_) (fun h4=>?_)
     ·rw[if_pos (by omega)] at hL
      simp -dsimp (disch:=first|omega|(simp only[go_sem,seval];try omega))only[go_sem,seval,hb1]
      exact⟨by rw[hL],(Chg.refl _ _).drew⟩
     ·rw[if_neg (by omega)] at hL
      exact⟨by rw[hL];rfl,(Chg.refl _ _).drew⟩
    ·rintro v w4 ⟨rfl,hc4⟩
     obtain⟨w5,e5,hd5⟩:=hd w4 hc4
     have hb4:=(hA1.chg0 hc4).hb
     have hl4:=Aa hb4
     have e1:max ((M1.S.now.y:Int)-n) (L:Int)=(((max ((M1.S.now.y:Int)-n) (L:Int)).toNat:Nat):Int):=by omega
     simp -dsimp (disch:=first|omega|(simp only[go_sem,seval];try omega))only[go_sem,seval,hb4]
     rw[e1]
     simp -dsimp (disch:=first|omega|(simp only[go_sem,seval];try omega))only[go_sem,seval,hb4]
     rw[←e5]
     exact⟨_,hd5,e⟩
  ·rintro w3 ⟨M1,hA1,ok1,hcc,hbl,e⟩
   have hb1:=hA1.hb
   have tl1:=hA1.tl
   have ny1:=ok1.ny
   have h1c:=ok1.h1
   have h0c:=ok1.h0
   have tf1:=ok1.tf
   have fh1:=ok1.fh
   have hl1:=Aa hb1
   obtain⟨L,hL⟩:∃L:Nat,L=if M1.S.now.y+1≤M1.S.fin then M1.S.fin-1 else M1.S.h-1:=⟨_,rfl⟩
   have hL2:(L:Int)=if M1.S.now.y+1≤M1.S.fin then(M1.S.fin:Int)-1 else(M1.S.h:Int)-1:=by rw[hL];split<;>omega
   have hL3:L<M1.S.h:=by rw[hL];split<;>omega
   have hd:∀w4:World,Chg [] w3 w4→∃w5:World,w5=Ab w4 s ({ M1 with S:={ M1.S with now:={ M1.S.now with y:=(min ((M1.S.now.y:Int)+n) (L:Int)).toNat } } }:Scm).obj∧Did w2 s M w5 (EU M1.S n):=by
    intro w4 hc4
    refine⟨_,rfl,Did.trans hcc (fun b hb=>.inl (by rw[←hbl];exact hb)) (Did.trans (M1:=M1) (hc4.mono (by simp)) (fun b hb=>.inl hb) ?_)⟩
    have:=Did.set (hA1.chg0 hc4) (Chg.refl _ _) (fun b hb=>.inl hb) (EU M1.S n) rfl rfl tl1 rfl
    unfold EU at this
    rw[←hL2] at this
    unfold EU
    rw[←hL2]
    exact this
   simp -dsimp (disch:=first|omega|(simp only[go_sem,seval];try omega))only[go_sem,seval,hb1]
   refine Join1.cut (fun v w'=>v=.int .i64 (L:Int)∧Chg [] w3 w') ?_ ?_
   ·simp -dsimp (disch:=first|omega|(simp only[go_sem,seval];try omega))only[go_sem,seval,hb1]
    refine BrW.dec (fun h4=>?_) (fun h4=>?_)
    ·rw[if_pos (by omega)] at hL
     simp -dsimp (disch:=first|omega|(simp only[go_sem,seval];try omega))only[go_sem,seval,hb1]
     exact⟨congrArg (Value.int .i64) (by omega),(Chg.refl _ _).drew⟩
    ·rw[if_neg (by omega)] at hL
     exact⟨congrArg (Value.int .i64) (by rw[Ob _ (by omega) (by omega)];omega),(Chg.refl _ _).drew⟩
   ·rintro v w4 ⟨rfl,hc4⟩
    obtain⟨w5,e5,hd5⟩:=hd w4 hc4
    have hb4:=(hA1.chg0 hc4).hb
    have hl4:=Aa hb4
    have e1:min ((M1.S.now.y:Int)+n) (L:Int)=(((min ((M1.S.now.y:Int)+n) (L:Int)).toNat:Nat):Int):=by omega
    simp -dsimp (disch:=first|omega|(simp only[go_sem,seval];try omega))only[go_sem,seval,hb4]
    rw[e1]
    simp -dsimp (disch:=first|omega|(simp only[go_sem,seval];try omega))only[go_sem,seval,hb4]
    rw[←e5]
    exact⟨_,hd5,e⟩
 ·rintro w3 ⟨T,hd,e⟩
  rw[e] at hK
  exact hK _ _ ⟨rfl,Did.trans (M1:=M) (hc1.mono (by simp)) (fun b hb=>.inl hb) hd⟩
theorem VF (S:Scr) (k:Int):(S.wipeRows k).now=S.now:=by
 unfold Scr.wipeRows Scr.clear
 split
 ·exact D3 _
 ·split
  ·exact D3 _
  ·split
   ·exact D3 _
   ·rfl
theorem UZ {w:World} {s:Nat} {M:Scm} (h:SAt w s M) (ok:M.S.ok) {bp bx bn:Nat} {k:Int} (hp:w.heap[bp]?=some (.cells #[.pointer (some ⟨s,0,none⟩)] 155)) (hx:w.heap[bx]?=some (.cells #[.int .i64 M.S.now.x] 3)) (hn:w.heap[bn]?=some (.cells #[.int .i64 k] 3)) :
  H4 (.func (.func 217) #[] #[.pointer (some ⟨bx,0,none⟩),.pointer (some ⟨bn,0,none⟩),.pointer (some ⟨bp,0,none⟩)]) w s M (fun g=>g.shift M.S.now.x 0 k M.S.free):=by
 intro w2 g b o cap hc2 hg hcap hs
 refine Bd.of (us:=[]) (cs:=[_,_,_]) Y3 ?_
 have hp2:=hc2.keep hp (by simp)
 have hx2:=hc2.keep hx (by simp)
 have hn2:=hc2.keep hn (by simp)
 have hA2:=h.chg0 hc2
 have hb2:=hA2.hb
 have hlp:=Aa hp2
 have hlx:=Aa hx2
 have hln:=Aa hn2
 have nx:=ok.nx
 have w1:=ok.w1
 have w1b:=hg.ok.w1
 have h1b:=hg.ok.h1
 apply YE
 intro K hK
 unfold Jl
 simp -dsimp (disch:=first|omega|(simp only[go_sem,seval];try omega))only[go_sem,seval,Gr.val,hx2,hp2,hn2]
 have hc3:Chg [] w2 (((w2.alloc (.cells #[.int .i64 g.w,.int .i64 g.h,.slice (some ⟨b,o,none⟩) g.cs.length cap] 59)).alloc (.cells #[.int .i64 0,.int .i64 0,.slice none 0 0] 59)).drew):=(Cm _ _ _).drew
 have hg3:(((w2.alloc (.cells #[.int .i64 g.w,.int .i64 g.h,.slice (some ⟨b,o,none⟩) g.cs.length cap] 59)).alloc (.cells #[.int .i64 0,.int .i64 0,.slice none 0 0] 59)).drew).heap[w2.heap.size]?=some (.cells #[.int .i64 g.w,.int .i64 g.h,.slice (some ⟨b,o,none⟩) g.cs.length cap] 59):=by simp -dsimp (disch:=first|omega|(simp only[go_sem,seval];try omega))only[go_sem,seval]
 have ho3:(((w2.alloc (.cells #[.int .i64 g.w,.int .i64 g.h,.slice (some ⟨b,o,none⟩) g.cs.length cap] 59)).alloc (.cells #[.int .i64 0,.int .i64 0,.slice none 0 0] 59)).drew).heap[w2.heap.size+1]?=some (.cells #[.int .i64 0,.int .i64 0,.slice none 0 0] 59):=by simp -dsimp (disch:=first|omega|(simp only[go_sem,seval];try omega))only[go_sem,seval]
 have hz3:(w2.alloc (.cells #[.int .i64 g.w,.int .i64 g.h,.slice (some ⟨b,o,none⟩) g.cs.length cap] 59)).heap.size=w2.heap.size+1:=by simp -dsimp (disch:=first|omega|(simp only[go_sem,seval];try omega))only[go_sem,seval]
 rw[hz3]
 generalize (World.alloc _ _).drew=w3 at hc3 hg3 ho3 ⊢
 have hlo:=Aa ho3
 refine OpX.call Fw rfl (Calls.ret (Gi (hA2.chg0 hc3)) ?_)
 rintro v w4 ⟨rfl,hc4⟩
 have hc5:=hc3.trans0 hc4
 have hn4:=hc5.keep hn2 (by simp)
 have hx4:=hc5.keep hx2 (by simp)
 have hg4:=hc4.keep hg3 (by simp)
 have ho4:=hc4.keep ho3 (by simp)
 simp -dsimp (disch:=first|omega|(simp only[go_sem,seval];try omega))only[go_sem,seval,hn4,hx4,hg4]
 refine OpX.call UG rfl (Calls.ret (P9 (X:=M.S.now.x) (Y:=0) (N:=k) hg.ok hg.r (hs.chg0 hc5) cap hcap (FD _) (by omega) (by omega)) ?_)
 rintro v w5 ⟨⟨nb,cap',sp,rfl,q1,q2,q3⟩,hc6⟩
 have ho5:=hc6.keep ho4 (by simp)
 have hc7:=hc5.trans0 hc6
 have hz:=hc5.size
 have hz4:=hc4.size
 have hlo5:=Aa ho5
 have hnb:=Aa q3
 simp -dsimp (disch:=first|omega|(simp only[go_sem,seval];try omega))only[go_sem,seval,Gr.val,ho5]
 refine hK _ _ ⟨⟨nb,cap',sp,rfl,q1,by omega,?_⟩,hc7.set _ _ (.inr (by omega))⟩
 simp -dsimp (disch:=first|omega|(simp only[go_sem,seval];try omega))only[go_sem,seval]
 exact q3
theorem Xp {w:World} {s:Nat} {M:Scm} (h:SAt w s M) (ok:M.S.ok) (a:Act') (hf:a.fits):Calls Tryz.prog 189 #[.pointer (some ⟨s,0,none⟩),a.val] w
  (Ac fun v w'=>v=.bool (M.S.changed a).isSome∧Did w s M w' ((M.S.changed a).getD M.S)):=by
 have hls:=Aa h.hb
 have hlt:=h.lt
 have tl:=h.tl
 have w0:=ok.w0
 have w1b:=ok.w1
 have h0:=ok.h0
 have h1b:=ok.h1
 have nx:=ok.nx
 have ny:=ok.ny
 have tf:=ok.tf
 have fh:=ok.fh
 have n1:=Dy a 0 1
 have n4:=Dy a 1 0
 have n3:=JH hf (i:=1) (Bk:=0) (by unfold Bs;omega)
 unfold Bs at n3
 apply UE
 intro K hK
 unfold NR
 simp -dsimp (disch:=first|omega|(simp only[go_sem,seval];try omega))only[go_sem,seval]
 have hz:(w.alloc (.cells #[.pointer (some ⟨s,0,none⟩)] 155)).heap.size=w.heap.size+1:=by simp -dsimp (disch:=first|omega|(simp only[go_sem,seval];try omega))only[go_sem,seval]
 rw[hz]
 refine OpX.gen fun w1 hw1=>?_
 have hc1:Chg [] w w1:=by rw[hw1];exact Cm _ _ _
 have hp1:w1.heap[w.heap.size]?=some (.cells #[.pointer (some ⟨s,0,none⟩)] 155):=by rw[hw1];simp -dsimp (disch:=first|omega|(simp only[go_sem,seval];try omega))only[go_sem,seval]
 have ha1:w1.heap[w.heap.size+1]?=some (.cells a.cells.toArray 247):=by rw[hw1];simp -dsimp (disch:=first|omega|(simp only[go_sem,seval];try omega))only[go_sem,seval]
 clear hw1 hz
 refine OpX.call Dt rfl (Calls.ret (DF _ a 0 1) ?_)
 rintro v w2 ⟨rfl,hc2⟩
 replace ha1:=hc2.keep ha1 (by simp)
 replace hp1:=hc2.keep hp1 (by simp)
 replace hc1:=hc1.trans0 hc2
 clear hc2
 have hla:=Aa ha1
 have hlp:=Aa hp1
 have hA:=h.chg0 hc1
 have hb:=hA.hb
 have hs2:=hc1.size
 obtain⟨n,hn⟩:∃n,n=min (a.num 0 1) 9999:=⟨_,rfl⟩
 have hn1:1≤n∧n≤9999:=by omega
 simp -dsimp (disch:=first|omega|(simp only[go_sem,seval];try omega))only[go_sem,seval,ha1,hp1,hb]
 rw[←hn]
 have hz:(w2.alloc (.cells #[.int .i64 n] 3)).drew.heap.size=w2.heap.size+1:=by simp -dsimp (disch:=first|omega|(simp only[go_sem,seval];try omega))only[go_sem,seval]
 rw[hz]
 obtain⟨w3,hw3⟩:∃w3,w3=((w2.alloc (.cells #[.int .i64 n] 3)).alloc (.cells #[.int .i64 M.S.now.x] 3)).drew:=⟨_,rfl⟩
 rw[←hw3]
 have hc3:Chg [] w2 w3:=by rw[hw3];exact(Cm _ _ _).drew
 have hn3:w3.heap[w2.heap.size]?=some (.cells #[.int .i64 n] 3):=by rw[hw3];simp -dsimp (disch:=first|omega|(simp only[go_sem,seval];try omega))only[go_sem,seval]
 have hx3:w3.heap[w2.heap.size+1]?=some (.cells #[.int .i64 M.S.now.x] 3):=by rw[hw3];simp -dsimp (disch:=first|omega|(simp only[go_sem,seval];try omega))only[go_sem,seval]
 clear hw3 hz
 replace hp1:=hc3.keep hp1 (by simp)
 replace ha1:=hc3.keep ha1 (by simp)
 replace hA:=hA.chg0 hc3
 replace hb:=hA.hb
 replace hc1:=hc1.trans0 hc3
 have hop:w.heap.size∉s::M.blk:=fun hm=>by have:=hlt _ hm;omega
 have hoa:w.heap.size+1∉s::M.blk:=fun hm=>by have:=hlt _ hm;omega
 have hon:w2.heap.size∉s::M.blk:=fun hm=>by have:=hlt _ hm;omega
 have hox:w2.heap.size+1∉s::M.blk:=fun hm=>by have:=hlt _ hm;omega
 have hlx:=Aa hx3
 clear hc3
 have hAn:∀w',Chg [w2.heap.size] w3 w'→SAt w' s M:=fun w' hc=>hA.chg hc (fun x hx hm=>hon (by rw[←List.mem_singleton.1 hm];exact hx)) (fun r hr b o hb' hne hm=>by
  have h9:=h.row_lt r hr b o hb' hne
  have h8:=List.mem_singleton.1 hm
  omega)
 have base:∀w' T,Did w3 s M w' T→Did w s M w' T:=fun w' T hd=>Did.trans (M1:=M) (hc1.mono (by simp)) (fun b hb=>.inl hb) hd
 refine Join0.cut (fun w'=>∃T,Did w s M w' T∧M.S.changed a=some T) ?_ ?_
 ·refine Join0.cut (fun w'=>∃k:Int,(-9999≤k∧k≤9999)∧Chg [w2.heap.size] w3 w'∧w'.heap[w2.heap.size]?=some (.cells #[.int .i64 k] 3)∧M.S.changed a=some (M.S.line fun g=>g.shift M.S.now.x 0 k M.S.free)) ?_ ?_
  ·refine Join0.cut (fun w'=>∃k:Int,(-9999≤k∧k≤9999)∧Chg [w2.heap.size] w3 w'∧w'.heap[w2.heap.size]?=some (.cells #[.int .i64 k] 3)∧M.S.changed a=some (M.S.shiftRows k)) ?_ ?_
   ·refine Join0.cut (fun w'=>∃T:Scr,Did w3 s M w' T∧T.now=M.S.now∧T.ok∧M.S.changed a=some (T.wipeLine (a.num 0 0))) ?_ ?_
    ·simp -dsimp (disch:=first|omega|(simp only[go_sem,seval];try omega))only[go_sem,seval]
     refine BrW.dec (fun c1=>?_) (fun c1=>?_)
     ·simp -dsimp (disch:=first|omega|(simp only[go_sem,seval];try omega))only[go_sem,seval,ha1]
      have e:M.S.changed a=some ((M.S.wipeRows (a.num 0 0)).wipeLine (a.num 0 0)):=by unfold Scr.changed;dsimp only;rw[if_pos c1]
      refine OpX.call Dt rfl (Calls.ret (DF _ a 0 0) ?_)
      rintro v w4 ⟨rfl,hc4⟩
      have hp4:=hc4.keep hp1 (by simp)
      have hA4:=hA.chg0 hc4
      have hb4:=hA4.hb
      have fin:∀w',Did w4 s M w' (M.S.wipeRows (a.num 0 0))→∃T:Scr,Did w3 s M w' T∧T.now=M.S.now∧T.ok∧M.S.changed a=some (T.wipeLine (a.num 0 0)):=fun w' hd=>⟨_,Did.trans (M1:=M) (hc4.mono (by simp)) (fun b hb=>.inl hb) hd,VF _ _,ok.wipeRows.ok,e⟩
      unfold Scr.wipeRows at fin
      simp -dsimp (disch:=first|omega|(simp only[go_sem,seval];try omega))only[go_sem,seval]
      refine BrW.dec (fun d1=>?_) (fun d1=>?_)
      ·rw[if_pos d1] at fin
       simp -dsimp (disch:=first|omega|(simp only[go_sem,seval];try omega))only[go_sem,seval,hp4,hb4]
       refine OpX.call Hp rfl (Calls.ret (Hd (hA4.chg0 (Chg.refl _ _).drew) ok (M.S.now.y+1) M.S.h (by omega) (by omega)) ?_)
       rintro v w5 hd
       exact fin _ (Did.trans (M1:=M) (Chg.refl _ _).drew (fun b hb=>.inl hb) hd)
      rw[if_neg d1] at fin
      simp -dsimp (disch:=first|omega|(simp only[go_sem,seval];try omega))only[go_sem,seval]
      refine BrW.dec (fun d2=>?_) (fun d2=>?_)
      ·rw[if_pos d2] at fin
       simp -dsimp (disch:=first|omega|(simp only[go_sem,seval];try omega))only[go_sem,seval,hp4,hb4]
       refine OpX.call Hp rfl (Calls.ret (Hd hA4 ok 0 M.S.now.y (by omega) (by omega)) ?_)
       rintro v w5 hd
       exact fin _ hd
      rw[if_neg d2] at fin
      simp -dsimp (disch:=first|omega|(simp only[go_sem,seval];try omega))only[go_sem,seval]
      refine BrW.dec (fun d3=>?_) (fun d3=>?_)
      ·rw[if_pos d3] at fin
       simp -dsimp (disch:=first|omega|(simp only[go_sem,seval];try omega))only[go_sem,seval,hp4,hb4]
       refine OpX.call Hp rfl (Calls.ret (Hd (hA4.chg0 (Chg.refl _ _).drew) ok 0 M.S.h (by omega) (by omega)) ?_)
       rintro v w5 hd
       exact fin _ (Did.trans (M1:=M) (Chg.refl _ _).drew (fun b hb=>.inl hb) hd)
      rw[if_neg d3] at fin
      exact fin _ (Did.refl hA4)
     simp -dsimp (disch:=first|omega|(simp only[go_sem,seval];try omega))only[go_sem,seval]
     refine BrW.dec (fun c2=>?_) (fun c2=>?_)
     ·exact⟨_,Did.refl hA,rfl,ok,by unfold Scr.changed;dsimp only;rw[if_neg c1,if_pos c2]⟩
     simp -dsimp (disch:=first|omega|(simp only[go_sem,seval];try omega))only[go_sem,seval]
     refine BrW.dec (fun c3=>?_) (fun c3=>?_)
     ·simp -dsimp (disch:=first|omega|(simp only[go_sem,seval];try omega))only[go_sem,seval,hn3]
      exact⟨-n,by omega,(Chg.refl _ _).set _ _ (by simp),(by simp -dsimp (disch:=first|omega|(simp only[go_sem,seval];try omega))only[go_sem,seval]),by unfold Scr.changed;dsimp only;rw[if_neg c1,if_neg c2,if_pos c3,hn]⟩
     simp -dsimp (disch:=first|omega|(simp only[go_sem,seval];try omega))only[go_sem,seval]
     refine BrW.dec (fun c4=>?_) (fun c4=>?_)
     ·exact⟨n,by omega,Chg.refl _ _,hn3,by unfold Scr.changed;dsimp only;rw[if_neg c1,if_neg c2,if_neg c3,if_pos c4,hn]⟩
     simp -dsimp (disch:=first|omega|(simp only[go_sem,seval];try omega))only[go_sem,seval]
     refine BrW.dec (fun c5=>?_) (fun c5=>?_)
     ·simp -dsimp (disch:=first|omega|(simp only[go_sem,seval];try omega))only[go_sem,seval,hn3]
      exact⟨-n,by omega,(Chg.refl _ _).set _ _ (by simp),(by simp -dsimp (disch:=first|omega|(simp only[go_sem,seval];try omega))only[go_sem,seval]),by unfold Scr.changed;dsimp only;rw[if_neg c1,if_neg c2,if_neg c3,if_neg c4,if_pos c5,hn]⟩
     simp -dsimp (disch:=first|omega|(simp only[go_sem,seval];try omega))only[go_sem,seval]
     refine BrW.dec (fun c6=>?_) (fun c6=>?_)
     ·exact⟨n,by omega,Chg.refl _ _,hn3,by unfold Scr.changed;dsimp only;rw[if_neg c1,if_neg c2,if_neg c3,if_neg c4,if_neg c5,if_pos c6,hn]⟩
     simp -dsimp (disch:=first|omega|(simp only[go_sem,seval];try omega))only[go_sem,seval]
     refine BrW.dec (fun c7=>?_) (fun c7=>?_)
     ·simp -dsimp (disch:=first|omega|(simp only[go_sem,seval];try omega))only[go_sem,seval,hp1,hx3,hn3]
      refine OpX.call GN rfl (Calls.ret (F6 hA ok M.S.now.x n (by omega) (by omega)) ?_)
      rintro v w4 hd
      exact⟨_,base _ _ hd,by unfold Scr.changed;dsimp only;rw[if_neg c1,if_neg c2,if_neg c3,if_neg c4,if_neg c5,if_neg c6,if_pos c7,hn]⟩
     simp -dsimp (disch:=first|omega|(simp only[go_sem,seval];try omega))only[go_sem,seval]
     refine BrW.dec (fun c8=>?_) (fun c8=>?_)
     ·simp -dsimp (disch:=first|omega|(simp only[go_sem,seval];try omega))only[go_sem,seval,hp1,hn3]
      refine OpX.call Mm rfl (Calls.ret (Ot hA ok n) ?_)
      rintro v w4 hd
      exact⟨_,base _ _ hd,by unfold Scr.changed;dsimp only;rw[if_neg c1,if_neg c2,if_neg c3,if_neg c4,if_neg c5,if_neg c6,if_neg c7,if_pos c8,hn]⟩
     simp -dsimp (disch:=first|omega|(simp only[go_sem,seval];try omega))only[go_sem,seval]
     refine BrW.dec (fun c9=>?_) (fun c9=>?_)
     ·simp -dsimp (disch:=first|omega|(simp only[go_sem,seval];try omega))only[go_sem,seval,hp1,hn3,hb]
      refine OpX.call FA rfl (Calls.ret (GA (hA.chg0 (Chg.refl _ _).drew) ok M.S.top (-n)) ?_)
      rintro v w4 hd
      exact⟨_,base _ _ (Did.trans (M1:=M) (Chg.refl _ _).drew (fun b hb=>.inl hb) hd),by unfold Scr.changed;dsimp only;rw[if_neg c1,if_neg c2,if_neg c3,if_neg c4,if_neg c5,if_neg c6,if_neg c7,if_neg c8,if_pos c9,hn]⟩
     simp -dsimp (disch:=first|omega|(simp only[go_sem,seval];try omega))only[go_sem,seval]
     refine BrW.dec (fun c10=>?_) (fun c10=>?_)
     ·simp -dsimp (disch:=first|omega|(simp only[go_sem,seval];try omega))only[go_sem,seval,hp1,hn3,ha1]
      refine OpX.call Dt rfl (Calls.ret (DF _ a 1 0) ?_)
      rintro v w4 ⟨rfl,hc4⟩
      have hc5:Chg [] w3 w4:=(Chg.refl _ _).drew.trans0 hc4
      have hp4:=hc5.keep hp1 (by simp)
      have hn4:=hc5.keep hn3 (by simp)
      simp -dsimp (disch:=first|omega|(simp only[go_sem,seval];try omega))only[go_sem,seval,hp4,hn4]
      refine OpX.call Un rfl (Calls.ret (YP (hA.chg0 hc5) ok (n-1) (a.num 1 0) (by omega) (by omega) (by omega) (by omega)) ?_)
      rintro v w5 hd
      exact⟨_,base _ _ (Did.trans (M1:=M) (hc5.mono (by simp)) (fun b hb=>.inl hb) hd),by unfold Scr.changed;dsimp only;rw[if_neg c1,if_neg c2,if_neg c3,if_neg c4,if_neg c5,if_neg c6,if_neg c7,if_neg c8,if_neg c9,if_pos c10,hn]⟩
     have e:M.S.changed a=none:=by
      unfold Scr.changed
      dsimp only
      rw[if_neg c1,if_neg c2,if_neg c3,if_neg c4,if_neg c5,if_neg c6,if_neg c7,if_neg c8,if_neg c9,if_neg c10]
     rw[e] at hK
     exact hK _ _ ⟨rfl,Did.trans (M1:=M) (hc1.mono (by simp)) (fun b hb=>.inl hb) (Did.refl hA)⟩
    ·rintro w4 ⟨T,hd,hnw,ok4,e⟩
     have hp4:=hd.keep hp1 hop
     have ha4:=hd.keep ha1 hoa
     have hx4:=hd.keep hx3 hox
     obtain⟨M4,hA4,rfl,hc4,hbl4⟩:=hd
     simp -dsimp (disch:=first|omega|(simp only[go_sem,seval];try omega))only[go_sem,seval,ha4]
     refine OpX.call Dt rfl (Calls.ret (DF _ a 0 0) ?_)
     rintro v w5 ⟨rfl,hc5⟩
     have hp5:=hc5.keep hp4 (by simp)
     have hx5:=hc5.keep hx4 (by simp)
     have hA5:=hA4.chg0 hc5
     have hb5:=hA5.hb
     have w15:=ok4.w1
     have nx5:=ok4.nx
     rw[hnw] at nx5
     have fin:∀w',Did w5 s M4 w' (M4.S.wipeLine (a.num 0 0))→∃T,Did w s M w' T∧M.S.changed a=some T:=fun w' hd=>⟨_,base _ _ (Did.trans hc4 hbl4 (Did.trans (M1:=M4) (hc5.mono (by simp)) (fun b hb=>.inl hb) hd)),e⟩
     unfold Scr.wipeLine at fin
     rw[hnw] at fin
     simp -dsimp (disch:=first|omega|(simp only[go_sem,seval];try omega))only[go_sem,seval]
     refine BrW.dec (fun d1=>?_) (fun d1=>?_)
     ·rw[if_pos d1] at fin
      simp -dsimp (disch:=first|omega|(simp only[go_sem,seval];try omega))only[go_sem,seval,hp5,hb5,hx5]
      refine OpX.call GN rfl (Calls.ret (F6 (hA5.chg0 (Chg.refl _ _).drew) ok4 M.S.now.x M4.S.w (by omega) (by omega)) ?_)
      rintro v w6 hd
      exact fin _ (Did.trans (M1:=M4) (Chg.refl _ _).drew (fun b hb=>.inl hb) hd)
     rw[if_neg d1] at fin
     simp -dsimp (disch:=first|omega|(simp only[go_sem,seval];try omega))only[go_sem,seval]
     refine BrW.dec (fun d2=>?_) (fun d2=>?_)
     ·rw[if_pos d2] at fin
      simp -dsimp (disch:=first|omega|(simp only[go_sem,seval];try omega))only[go_sem,seval,hp5,hb5,hx5]
      refine OpX.call GN rfl (Calls.ret (F6 hA5 ok4 0 (M.S.now.x+1) (by omega) (by omega)) ?_)
      rintro v w6 hd
      exact fin _ hd
     rw[if_neg d2] at fin
     simp -dsimp (disch:=first|omega|(simp only[go_sem,seval];try omega))only[go_sem,seval]
     refine BrW.dec (fun d3=>?_) (fun d3=>?_)
     ·rw[if_pos d3] at fin
      simp -dsimp (disch:=first|omega|(simp only[go_sem,seval];try omega))only[go_sem,seval,hp5,hb5,hx5]
      refine OpX.call GN rfl (Calls.ret (F6 (hA5.chg0 (Chg.refl _ _).drew) ok4 0 M4.S.w (by omega) (by omega)) ?_)
      rintro v w6 hd
      exact fin _ (Did.trans (M1:=M4) (Chg.refl _ _).drew (fun b hb=>.inl hb) hd)
     rw[if_neg d3] at fin
     exact fin _ (Did.refl hA5)
   ·rintro w4 ⟨k,hk,hc4,hn4,e⟩
    have hp4:=hc4.keep hp1 (by simp;omega)
    have hA4:=hAn w4 hc4
    have hb4:=hA4.hb
    have hl4:=Aa hb4
    have hc5:Chg [] w w4:=hc1.trans hc4 (by simp;omega)
    unfold Scr.shiftRows at e
    refine Join1.cut (fun v w'=>v=.bool (decide (M.S.top≤M.S.now.y∧M.S.now.y<M.S.fin))∧w4=w') ?_ ?_
    ·simp -dsimp (disch:=first|omega|(simp only[go_sem,seval];try omega))only[go_sem,seval,hp4,hb4]
     refine BrW.dec (fun d1=>?_) (fun d1=>?_)
     ·simp -dsimp (disch:=first|omega|(simp only[go_sem,seval];try omega))only[go_sem,seval,hp4,hb4]
      exact congrArg Value.bool (decide_eq_decide.2 (by omega))
     ·exact⟨congrArg Value.bool (decide_eq_false (by omega)).symm,rfl⟩
    ·rintro v w5 ⟨rfl,rfl⟩
     refine BrW.dec (fun d1=>?_) (fun d1=>?_)
     ·rw[if_pos d1] at e
      simp -dsimp (disch:=first|omega|(simp only[go_sem,seval];try omega))only[go_sem,seval,hp4,hn4]
      refine OpX.call FA rfl (Calls.ret (GA hA4 ok M.S.now.y (-k)) ?_)
      rintro v w5 hd
      have hp5:=hd.keep hp4 hop
      obtain⟨M5,hA5,hS5,hc6,hbl5⟩:=hd
      have hb5:=hA5.hb
      have tl5:=hA5.tl
      have hl5:=Aa hb5
      simp -dsimp (disch:=first|omega|(simp only[go_sem,seval];try omega))only[go_sem,seval,hp5,hb5]
      have hx5:M5.S.now=M.S.now:=by rw[hS5];exact D3 _
      rw[←hS5,←hx5] at e
      exact⟨_,Did.trans (M1:=M) (hc5.mono (by simp)) (fun b hb=>.inl hb) (Did.trans hc6 hbl5 (Did.set hA5 (Chg.refl _ _) (fun b hb=>.inl hb) _ rfl rfl tl5 rfl)),e⟩
     ·rw[if_neg d1] at e
      exact⟨_,Did.trans (M1:=M) (hc5.mono (by simp)) (fun b hb=>.inl hb) (Did.refl hA4),e⟩
  ·rintro w4 ⟨k,hk,hc4,hn4,e⟩
   have hp4:=hc4.keep hp1 (by simp;omega)
   have hx4:=hc4.keep hx3 (by simp)
   have hA4:=hAn w4 hc4
   simp -dsimp (disch:=first|omega|(simp only[go_sem,seval];try omega))only[go_sem,seval,hp4]
   refine OpX.call HZ rfl (Calls.ret (HC hA4 ok (UZ hA4 ok hp4 hx4 hn4) (fun _ hg=>hg.shift)) ?_)
   rintro v w5 hd
   have hc5:Chg [] w w4:=hc1.trans hc4 (by simp;omega)
   exact⟨_,Did.trans (M1:=M) (hc5.mono (by simp)) (fun b hb=>.inl hb) hd,e⟩
 ·rintro w4 ⟨T,hd,e⟩
  rw[e] at hK
  exact hK _ _ ⟨rfl,hd⟩
end Go.Proofs.YtelplojmbjnplaaGreatDoor
namespace Lyc
open Go
section
variable {P:Program}
theorem QT {t:TypeId} {q:Nat × Nat} (h:A8 P t=some q):∃e,P.underlying t=some (.array q.1 e)∧Ak P e=some q.2:=by
 unfold A8 at h
 cases hu:P.underlying t with
 | none=>rw[hu] at h;simp at h
 | some d =>
  rw[hu] at h
  cases d<;>simp at h
  obtain⟨m,hm,rfl⟩:=h
  exact⟨_,rfl,hm⟩
theorem XX (t ty:TypeId) (b o:Nat) (q:Nat × Nat) (k:IntKind) (i:Int) (h:A8 P t=some q) (h0:0≤i) (h1:i≤q.1):PureRun P (.slice t (.const (.pointer (some ⟨b,o,none⟩))) none (some (.const (.int k i))) none) ty (.slice (some ⟨b,o,none⟩) i.toNat q.1):=by
 obtain⟨e,hu,hs⟩:=QT h
 refine⟨fun ρ hg w=>?_⟩
 simp [execOp,An,hg.1,Instr.sliceAt,Instr.sureAddr,Instr.sliceBounds,Instr.sliceBound,asIntOf,run_underlying hu,Bh hs,h0,h1,Addr.add]
@[go_sem] theorem Z9 (t ty:TypeId) (b o:Nat) (k:IntKind) (i:Int) (K:Value→World→Prop) (w:World) (h0:0≤i) (h1:i≤((A8 P t).getD (0,0)).1):OpX P (.slice t (.const (.pointer (some ⟨b,o,none⟩))) none (some (.const (.int k i))) none) ty K w=OrK (A8 P t) (fun q=>K (.slice (some ⟨b,o,none⟩) i.toNat q.1) w) (OpX P (.slice t (.const (.pointer (some ⟨b,o,none⟩))) none (some (.const (.int k i))) none) ty K w) () :=
 AF (fun q h=>(XX t ty b o q k i h h0 (by rw[h] at h1;exact h1)).op K w) rfl
theorem X8 (t ty:TypeId) (a:Option Addr) (len cap n:Nat) (k k':IntKind) (i q:Int) (h:AI P t=some n) (h0:0≤i) (h1:i≤q) (h2:q≤cap):PureRun P (.slice t (.const (.slice a len cap)) none (some (.const (.int k i))) (some (.const (.int k' q)))) ty (.slice a i.toNat q.toNat):=by
 obtain⟨e,hu,hs⟩:=CY h
 refine⟨fun ρ hg w=>?_⟩
 have h4:0≤q:=by omega
 have h6:i≤max q 0:=by omega
 cases a with
 | none =>
  simp [execOp,An,hg.1,Instr.sliceAt,Instr.slice,Instr.sliceBounds,Instr.sliceBound,asIntOf,run_underlying hu,Bh hs,h0,h2,h4]
  intro hc;omega
 | some a =>
  obtain⟨b,o,sp⟩:=a
  simp [execOp,An,hg.1,Instr.sliceAt,Instr.slice,Instr.sliceBounds,Instr.sliceBound,asIntOf,run_underlying hu,Bh hs,h0,h2,h4,Addr.add]
  intro hc;omega
@[go_sem] theorem fW (t ty:TypeId) (a:Option Addr) (len cap:Nat) (k k':IntKind) (i q:Int) (K:Value→World→Prop) (w:World) (h0:0≤i) (h1:i≤q) (h2:q≤cap):OpX P (.slice t (.const (.slice a len cap)) none (some (.const (.int k i))) (some (.const (.int k' q)))) ty K w=OrK (AI P t) (fun _=>K (.slice a i.toNat q.toNat) w) (OpX P (.slice t (.const (.slice a len cap)) none (some (.const (.int k i))) (some (.const (.int k' q)))) ty K w) () :=
 AF (fun n h=>(X8 t ty a len cap n k k' i q h h0 h1 h2).op K w) rfl
end
theorem JZ (x:Int):IntKind.u8.wrap x=((BitVec.ofInt 8 x).toNat:Int):=by
 rw[BitVec.toNat_ofInt]
 show x % 256=_
 omega
end Lyc
namespace Go.Proofs.YtelplojmbjnplaaGreatDoor
open Lyc Go
theorem Fg (w:World) (n:Int):Calls Tryz.prog 235 #[.int .i64 n] w (Ac fun v w'=>v=.int .u8 (hue n).toNat∧w=w'):=by
 apply QA
 intro K hK
 unfold OC
 simp -dsimp (disch:=first|omega|(simp only[go_sem,seval];try omega))only[go_sem,seval]
 refine hK _ _ ⟨?_,rfl⟩
 rw[JZ]
 rfl
theorem Im (w:World) (n:Int):Calls Tryz.prog 241 #[.int .i64 n] w (Ac fun v w'=>v=.int .i64 (Cp n)∧w=w'):=by
 apply UH
 intro K hK
 unfold KC
 simp -dsimp (disch:=first|omega|(simp only[go_sem,seval];try omega))only[go_sem,seval]
 have e:(min (max n 0) 255).tdiv 43=Cp n:=by unfold Cp;rw[Int.tdiv_eq_ediv_of_nonneg (by omega)]
 have hb:0≤Cp n∧Cp n≤255:=by unfold Cp;omega
 rw[e,Ob _ (by omega) (by omega)]
 exact hK _ _ ⟨rfl,rfl⟩
theorem GV (n:Int):0≤Cp n∧Cp n≤5:=by unfold Cp;omega
theorem Xa (w:World) (r g b:Int):Calls Tryz.prog 236 #[.int .i64 r,.int .i64 g,.int .i64 b] w (Ac fun v w'=>v=.int .u8 (rgb r g b).toNat∧w=w'):=by
 have h1:=GV r
 have h2:=GV g
 have h3:=GV b
 apply Vc
 intro K hK
 unfold Kr
 refine OpX.callV (us:=[]) (cs:=[]) IC rfl (Calls.ret (Im w r) ?_)
 rintro v w1 ⟨rfl,rfl⟩
 simp -dsimp (disch:=first|omega|(simp only[go_sem,seval];try omega))only[go_sem,seval]
 refine OpX.callV (us:=[]) (cs:=[]) IC rfl (Calls.ret (Im w g) ?_)
 rintro v w1 ⟨rfl,rfl⟩
 simp -dsimp (disch:=first|omega|(simp only[go_sem,seval];try omega))only[go_sem,seval]
 refine OpX.callV (us:=[]) (cs:=[]) IC rfl (Calls.ret (Im w b) ?_)
 rintro v w1 ⟨rfl,rfl⟩
 simp -dsimp (disch:=first|omega|(simp only[go_sem,seval];try omega))only[go_sem,seval]
 refine hK _ _ ⟨congrArg (Value.int .u8) ?_,rfl⟩
 unfold rgb
 rw[←JZ,ID _ (by omega) (by omega)]
section
attribute [-go_sem] GF EM
theorem XF (w:World):Calls Tryz.prog 237 #[] w (Ac fun v w'=>v=.agg #[.int .u8 0,.int .u8 1,.int .u8 2,.int .u8 4,.int .u8 8,.int .u8 16,.int .u8 0,.int .u8 32]∧Chg [] w w'):=by
 apply Uh
 intro K hK
 unfold Lt
 simp -dsimp (disch:=first|omega|(simp only[go_sem,seval];try omega))only[go_sem,seval]
 refine OpX.build (c:=#[.int .u8 0,.int .u8 1,.int .u8 2,.int .u8 4,.int .u8 8,.int .u8 16,.int .u8 0,.int .u8 32]) (by kernel_rfl) ?_
 simp -dsimp (disch:=first|omega|(simp only[go_sem,seval];try omega))only[go_sem,seval]
 exact hK _ _ ⟨rfl,(Chg.refl _ _).alloc _⟩
end
def fI (n:Int):List Value:=[.int .i64 n]
def B0 (w:World) (b5:Nat) (l:List Int):Prop:=∃g o cap,w.heap[b5]?=some (.cells #[.slice (some ⟨g,o,none⟩) l.length cap] 40)∧l.length≤cap∧l.length≤8∧g≠b5∧∃e,(e=247∨e=3)∧Sx w (some e) fI (some ⟨g,o,none⟩) l
theorem B0.chg0 {w w':World} {b5:Nat} {l:List Int} (h:B0 w b5 l) (hc:Chg [] w w'):B0 w' b5 l:=by
 obtain⟨g,o,cap,h1,h2,h3,h4,e,he,h5⟩:=h
 exact⟨g,o,cap,hc.keep h1 (by simp),h2,h3,h4,e,he,h5.chg0 hc⟩
theorem B0.low {w w':World} {b b5:Nat} {l:List Int} (h:B0 w b5 l) (hc:Chg [b] w w') (hb:b≠b5) {c:Array Value} {fr:Nat × Nat} (hg:w.heap[b]?=some (.cells c 167 fr)):B0 w' b5 l:=by
 obtain⟨g,o,cap,h1,h2,h3,h4,e,he,h5⟩:=h
 refine⟨g,o,cap,hc.keep h1 (by simp;omega),h2,h3,h4,e,he,h5.chg hc ?_⟩
 intro b' o' ha hne hm
 rw[List.mem_singleton.1 hm] at ha
 rcases he with rfl|rfl
 ·exact h5.ne ha hne hg rfl rfl
 ·exact h5.ne ha hne hg rfl rfl
theorem EA {w:World} {b5:Nat} {l:List Int} (hL:B0 w b5 l) (k:Nat) (hk:k≤8):Calls Tryz.prog 226 #[.int .i64 k,.pointer (some ⟨b5,0,none⟩)] w
  (Ac fun v w'=>(∃g o cap,v=.slice (some ⟨g,o,none⟩) (l.take k).length cap∧g≠b5∧Sx w' none fI (some ⟨g,o,none⟩) (l.take k))∧B0 w' b5 (l.drop k)∧Chg [b5] w w'):=by
 obtain⟨g,o,cap,h1,h2,h3,h4,e5,he5,h5⟩:=hL
 have hl:=Aa h1
 apply Qb
 intro K hK
 unfold Jq
 have e:min (k:Int) (l.length:Int)=((min k l.length:Nat):Int):=by omega
 simp -dsimp (disch:=first|omega|(simp only[go_sem,seval];try omega))only[go_sem,seval,h1,e]
 have hc:Chg [b5] w (Ab w b5 (.cells #[.slice (some ⟨g,slo o cap (min k l.length) 1,none⟩) (l.length-min k l.length) (cap-min k l.length)] 40)):=(Chg.refl _ _).set _ _ (by simp)
 have h5':=h5.chg hc (fun b o' ha hne hm=>by cases ha;exact h4 (List.mem_singleton.1 hm))
 have ht:l.take k=(l.drop 0).take (min k l.length):=by rw[List.drop_zero];exact(List.take_eq_take_min ..).trans (by rfl)
 have hd:l.drop k=(l.drop (min k l.length)).take (l.length-min k l.length):=by
  rcases Nat.le_total k l.length with hkl|hkl
  ·rw[Nat.min_eq_left hkl,List.take_of_length_le (by simp)]
  ·rw[Nat.min_eq_right hkl,List.drop_eq_nil_of_le hkl,List.drop_eq_nil_of_le (Nat.le_refl _)];simp
 refine hK _ _ ⟨⟨g,o,min k l.length,by rw[List.length_take],h4,?_⟩,⟨g,slo o cap (min k l.length) 1,cap-min k l.length,?_,?_,?_,h4,e5,he5,?_⟩,hc⟩
 ·rw[ht]
  exact(h5'.sub (m:=1) (fun _=>rfl) 0 _ _ (.inr (.inr (by simp)))).untag
 ·have:(l.drop k).length=l.length-min k l.length:=by rw[List.length_drop];omega
  rw[this]
  simp -dsimp (disch:=first|omega|(simp only[go_sem,seval];try omega))only[go_sem,seval]
 ·rw[List.length_drop];omega
 ·rw[List.length_drop];omega
 ·rw[hd]
  refine h5'.sub (m:=1) (fun _=>rfl) (min k l.length) _ _ ?_
  unfold slo
  split
  ·left;omega
  ·right;right;rfl
theorem Df {w:World} {g o:Nat} {l:List Int} (h:Sx w none fI (some ⟨g,o,none⟩) l) {i:Nat} {n:Int} (hi:l[i]?=some n):Av w.heap[g]? (o+i)=some (.int .i64 n):=by
 obtain⟨b,o',h1,h2,h3⟩:=h.get1 (g:=fun n=>Value.int .i64 n) (fun _=>rfl) hi
 cases h1;exact h3
def I6 (b5:Nat):Value:=.func (.func 226) #[] #[.pointer (some ⟨b5,0,none⟩)]
theorem Tx {w:World} {b5:Nat} {l:List Int} (hL:B0 w b5 l):Calls Tryz.prog 227 #[I6 b5] w
  (Ac fun v w'=>v=.tuple #[.int .u8 ((AV l).1.getD 0).toNat,.bool (AV l).1.isSome]∧B0 w' b5 (AV l).2∧Chg [b5] w w'):=by
 apply ZG
 intro K hK
 unfold KF
 refine OpX.callV (us:=[]) (cs:=[_]) EH rfl (Calls.ret (EA hL 1 (by omega)) ?_)
 rintro v w1 ⟨⟨g,o,cap,rfl,hg,hs⟩,hL1,hc1⟩
 have last:∀(w2:World) (l2:List Int),Chg [b5] w w2→B0 w2 b5 l2→AV l=(none,[])→OpX Tryz.prog (.call { callee:=.value (.const (I6 b5)),args:=#[.const (.int .i64 8)],argTypes:=#[3] }) 40 (fun _=>K (.tuple #[(.int .u8 0),(.bool false)])) w2:=by
  intro w2 l2 hc2 hL2 e
  have hl2:l2.length≤8:=by obtain⟨_,_,_,_,_,h3,_⟩:=hL2;exact h3
  refine OpX.callV (us:=[]) (cs:=[_]) EH rfl (Calls.ret (EA hL2 8 (by omega)) ?_)
  rintro v w3 ⟨-,hL3,hc3⟩
  rw[List.drop_eq_nil_of_le hl2] at hL3
  refine hK _ _ ⟨by rw[e];rfl,by rw[e];exact hL3,hc2.trans hc3 (by simp)⟩
 rcases l with _|⟨n,l⟩
 ·refine Join0.cut (fun w'=>w1=w') ?_ ?_
  ·refine Join1.cut (fun v w'=>v=.bool false∧w1=w') ?_ ?_
   ·simp -dsimp (disch:=first|omega|(simp only[go_sem,seval];try omega))only[go_sem,seval]
    exact BrW.dec (fun h=>by simp at h) (fun _=>⟨rfl,rfl⟩)
   ·rintro v w2 ⟨rfl,rfl⟩
    simp -dsimp (disch:=first|omega|(simp only[go_sem,seval];try omega))only[go_sem,seval]
  ·rintro w2 rfl
   refine Join0.cut (fun w'=>w1=w') ?_ ?_
   ·refine Join1.cut (fun v w'=>v=.bool false∧w1=w') ?_ ?_
    ·simp -dsimp (disch:=first|omega|(simp only[go_sem,seval];try omega))only[go_sem,seval]
     exact BrW.dec (fun h=>by simp at h) (fun _=>⟨rfl,rfl⟩)
    ·rintro v w2 ⟨rfl,rfl⟩
     simp -dsimp (disch:=first|omega|(simp only[go_sem,seval];try omega))only[go_sem,seval]
   ·rintro w2 rfl
    exact last _ _ hc1 hL1 rfl
 ·have e1:(n::l).take 1=[n]:=rfl
  have e2:(n::l).drop 1=l:=rfl
  rw[e1] at hs ⊢
  rw[e2] at hL1
  have hcell:=Df hs (i:=0) rfl
  simp only[Nat.add_zero] at hcell
  refine Join0.cut (fun w'=>(∃l2,B0 w' b5 l2∧(n≠5→l2=l))∧(n=5→AV (n::l)=(none,[]))∧Chg [b5] w w'∧Sx w' none fI (some ⟨g,o,none⟩) [n]) ?_ ?_
  ·refine Join1.cut (fun v w'=>v=.bool (decide (n=5))∧w1=w') ?_ ?_
   ·simp -dsimp (disch:=first|omega|(simp only[go_sem,seval];try omega))only[go_sem,seval,hcell]
   ·rintro v w2 ⟨rfl,rfl⟩
    refine BrW.dec (fun h5=>?_) (fun h5=>?_)
    ·subst h5
     refine OpX.callV (us:=[]) (cs:=[_]) EH rfl (Calls.ret (EA hL1 1 (by omega)) ?_)
     rintro v w2 ⟨⟨g2,o2,cap2,rfl,hg2,hs2⟩,hL2,hc2⟩
     have hs':=hs.chg hc2 (fun b o' ha hne hm=>by cases ha;exact hg (List.mem_singleton.1 hm))
     have hc3:=hc1.trans hc2 (by simp)
     rcases l with _|⟨m,l⟩
     ·simp -dsimp (disch:=first|omega|(simp only[go_sem,seval];try omega))only[go_sem,seval]
      refine BrW.dec (fun h=>by simp at h) (fun _=>?_)
      exact⟨⟨_,hL2,fun h=>absurd rfl h⟩,fun _=>rfl,hc3,hs'⟩
     ·have e3:(m::l).take 1=[m]:=rfl
      have e4:(m::l).drop 1=l:=rfl
      rw[e3] at hs2 ⊢
      rw[e4] at hL2
      have hcell2:=Df hs2 (i:=0) rfl
      simp only[Nat.add_zero] at hcell2
      simp -dsimp (disch:=first|omega|(simp only[go_sem,seval];try omega))only[go_sem,seval,hcell2]
      refine Join1.cut (fun v w'=>v=.bool (decide (m<0∨255<m))∧w2=w') ?_ ?_
      ·simp -dsimp (disch:=first|omega|(simp only[go_sem,seval];try omega))only[go_sem,seval]
       refine BrW.dec (fun d1=>?_) (fun d1=>?_)
       ·exact⟨congrArg Value.bool (decide_eq_true (.inl d1)).symm,rfl⟩
       ·simp -dsimp (disch:=first|omega|(simp only[go_sem,seval];try omega))only[go_sem,seval]
        exact congrArg Value.bool (decide_eq_decide.2 (by omega))
      ·rintro v w3 ⟨rfl,rfl⟩
       refine BrW.dec (fun d1=>?_) (fun d1=>?_)
       ·have e:AV (5::m::l)=(none,l):=by unfold AV;simp;omega
        rw[e] at hK
        exact hK _ _ ⟨rfl,hL2,hc3⟩
       ·have e:AV (5::m::l)=(some (hue m),l):=by unfold AV;simp;omega
        rw[e] at hK
        refine OpX.call EL rfl (Calls.ret (Fg w2 m) ?_)
        rintro v w3 ⟨rfl,rfl⟩
        exact hK _ _ ⟨rfl,hL2,hc3⟩
    ·exact⟨⟨_,hL1,fun _=>rfl⟩,fun h=>absurd h h5,hc1,hs⟩
  ·rintro w2 ⟨⟨l2,hL2,hl2⟩,h5,hc2,hs2⟩
   have hcell2:=Df hs2 (i:=0) rfl
   simp only[Nat.add_zero] at hcell2
   refine Join0.cut (fun w'=>(∃l2,B0 w' b5 l2)∧AV (n::l)=(none,[])∧Chg [b5] w w') ?_ ?_
   ·refine Join1.cut (fun v w'=>v=.bool (decide (n=2))∧w2=w') ?_ ?_
    ·simp -dsimp (disch:=first|omega|(simp only[go_sem,seval];try omega))only[go_sem,seval,hcell2]
    ·rintro v w3 ⟨rfl,rfl⟩
     refine BrW.dec (fun d1=>?_) (fun d1=>?_)
     ·subst d1
      have:=hl2 (by decide)
      subst this
      refine OpX.callV (us:=[]) (cs:=[_]) EH rfl (Calls.ret (EA hL2 3 (by omega)) ?_)
      rintro v w3 ⟨⟨g3,o3,cap3,rfl,hg3,hs3⟩,hL3,hc3⟩
      have hc4:=hc2.trans hc3 (by simp)
      simp -dsimp (disch:=first|omega|(simp only[go_sem,seval];try omega))only[go_sem,seval]
      refine BrW.dec (fun h=>?_) (fun h=>?_)
      ·rcases l2 with _|⟨r,_|⟨gg,_|⟨bb,l3⟩⟩⟩
       ·simp at h
       ·simp at h
       ·simp at h
       have e3:(r::gg::bb::l3).take 3=[r,gg,bb]:=rfl
       rw[e3] at hs3 ⊢
       have q0:=Df hs3 (i:=0) rfl
       have q1:=Df hs3 (i:=1) rfl
       have q2:=Df hs3 (i:=2) rfl
       simp only[Nat.add_zero] at q0
       have e:AV (2::r::gg::bb::l3)=(some (rgb r gg bb),l3):=rfl
       rw[e] at hK
       simp -dsimp (disch:=first|omega|(simp only[go_sem,seval];try omega))only[go_sem,seval,q0,q1,q2]
       refine OpX.call Uw rfl (Calls.ret (Xa _ r gg bb) ?_)
       rintro v w4 ⟨rfl,rfl⟩
       exact hK _ _ ⟨rfl,hL3.chg0 (Chg.refl _ _).drew,hc4.drew⟩
      ·refine⟨⟨_,hL3⟩,?_,hc4⟩
       rcases l2 with _|⟨r,_|⟨gg,_|⟨bb,l3⟩⟩⟩
       ·rfl
       ·rfl
       ·rfl
       ·simp at h
     ·refine⟨⟨_,hL2⟩,?_,hc2⟩
      by_cases h:n=5
      ·exact h5 h
      ·unfold AV
       split
       ·simp_all
       ·simp_all
       ·rfl
   ·rintro w3 ⟨⟨l3,hL3⟩,e,hc3⟩
    exact last _ _ hc3 hL3 e
def Kg (w:World) (d:Cel) (w':World):Prop:=Chg [] w w'∧w'.heap[w.heap.size]?=some (.cells d.cells.toArray 167)∧w'.heap[w.heap.size+1]?=some (.cells #[.int .i32 0,.int .u8 0,.int .u8 0,.int .u8 0] 167)
theorem ZL (w:World) (c:Cel) (n:Int) (n0:Bs n):Calls Tryz.prog 228 #[c.val,.int .i64 n] w (Ac fun v w'=>v=(E9 c n).val∧Chg [] w w'):=by
 unfold Bs at n0
 apply YB
 intro K hK
 unfold Kp
 simp -dsimp (disch:=first|omega|(simp only[go_sem,seval];try omega))only[go_sem,seval]
 have hc1:Chg [] w ((w.alloc (.cells c.cells.toArray 167)).alloc (.cells #[.int .i32 0,.int .u8 0,.int .u8 0,.int .u8 0] 167)):=Cm _ _ _
 have hz:(w.alloc (.cells #[.int .i32 c.r,.int .u8 c.fg.toNat,.int .u8 c.bg.toNat,.int .u8 c.a.toNat] 167)).heap.size=w.heap.size+1:=by simp -dsimp (disch:=first|omega|(simp only[go_sem,seval];try omega))only[go_sem,seval]
 rw[hz]
 obtain⟨w1,hw1⟩:∃w1,w1=((w.alloc (.cells #[.int .i32 c.r,.int .u8 c.fg.toNat,.int .u8 c.bg.toNat,.int .u8 c.a.toNat] 167)).alloc (.cells #[.int .i32 0,.int .u8 0,.int .u8 0,.int .u8 0] 167)):=⟨_,rfl⟩
 rw[←hw1]
 simp only[Cel.cells] at hc1
 rw[←hw1] at hc1
 have hp1:w1.heap[w.heap.size]?=some (.cells #[.int .i32 c.r,.int .u8 c.fg.toNat,.int .u8 c.bg.toNat,.int .u8 c.a.toNat] 167):=by rw[hw1];simp -dsimp (disch:=first|omega|(simp only[go_sem,seval];try omega))only[go_sem,seval]
 have ho1:w1.heap[w.heap.size+1]?=some (.cells #[.int .i32 0,.int .u8 0,.int .u8 0,.int .u8 0] 167):=by rw[hw1];simp -dsimp (disch:=first|omega|(simp only[go_sem,seval];try omega))only[go_sem,seval]
 clear hw1 hz
 refine OpX.call SA rfl (Calls.ret (XF w1) ?_)
 rintro v w2 ⟨rfl,hc2⟩
 have hl1:=Aa (hc2.keep ho1 (by simp))
 simp -dsimp (disch:=first|omega|(simp only[go_sem,seval];try omega))only[go_sem,seval]
 obtain⟨w3,hw3⟩:∃w3,w3=(w2.alloc (.cells #[.int .u8 0,.int .u8 1,.int .u8 2,.int .u8 4,.int .u8 8,.int .u8 16,.int .u8 0,.int .u8 32] 327)):=⟨_,rfl⟩
 rw[←hw3]
 have hc3:Chg [] w w3:=by rw[hw3];exact(hc1.trans0 hc2).alloc _
 have hp:w3.heap[w.heap.size]?=some (.cells #[.int .i32 c.r,.int .u8 c.fg.toNat,.int .u8 c.bg.toNat,.int .u8 c.a.toNat] 167):=by rw[hw3];exact((Chg.refl [] _).alloc _).keep (hc2.keep hp1 (by simp)) (by simp)
 have ho:w3.heap[w.heap.size+1]?=some (.cells #[.int .i32 0,.int .u8 0,.int .u8 0,.int .u8 0] 167):=by rw[hw3];exact((Chg.refl [] _).alloc _).keep (hc2.keep ho1 (by simp)) (by simp)
 have hq:w3.heap[w2.heap.size]?=some (.cells #[.int .u8 0,.int .u8 1,.int .u8 2,.int .u8 4,.int .u8 8,.int .u8 16,.int .u8 0,.int .u8 32] 327):=by rw[hw3];simp -dsimp (disch:=first|omega|(simp only[go_sem,seval];try omega))only[go_sem,seval]
 have hl3:=Aa ho
 clear hw3 hc1 hc2 hp1 ho1
 obtain⟨D,hD⟩:∃D,D=E9 c n:=⟨_,rfl⟩
 rw[←hD] at hK
 refine Join0.cut (fun w'=>Kg w D w') ?_ ?_
 ·have done:∀(f b a:BitVec 8) (w4:World),(w4=Ab w3 w.heap.size (.cells #[.int .i32 c.r,.int .u8 f.toNat,.int .u8 b.toNat,.int .u8 a.toNat] 167)∨w4=(Ab w3 w.heap.size (.cells #[.int .i32 c.r,.int .u8 f.toNat,.int .u8 b.toNat,.int .u8 a.toNat] 167)).drew)→D=⟨c.r,f,b,a⟩ →
    Kg w D w4:=by
   intro f b a w4 h4 e
   rw[e]
   have hcc:=hc3.set w.heap.size (.cells #[.int .i32 c.r,.int .u8 f.toNat,.int .u8 b.toNat,.int .u8 a.toNat] 167) (.inr (Nat.le_refl _))
   rcases h4 with rfl|rfl
   ·exact⟨hcc,(by simp -dsimp (disch:=first|omega|(simp only[go_sem,seval];try omega))only[go_sem,seval]),(by simp -dsimp (disch:=first|omega|(simp only[go_sem,seval];try omega))only[go_sem,seval,ho])⟩
   ·exact⟨hcc.drew,(by simp -dsimp (disch:=first|omega|(simp only[go_sem,seval];try omega))only[go_sem,seval]),(by simp -dsimp (disch:=first|omega|(simp only[go_sem,seval];try omega))only[go_sem,seval,ho])⟩
  unfold E9 at hD
  simp -dsimp (disch:=first|omega|(simp only[go_sem,seval];try omega))only[go_sem,seval]
  refine BrW.dec (fun d1=>?_) (fun d1=>?_)
  ·rw[if_pos d1] at hD
   simp -dsimp (disch:=first|omega|(simp only[go_sem,seval];try omega))only[go_sem,seval,hp]
   exact done 0 0 0 _ (.inl rfl) hD
  rw[if_neg d1] at hD
  refine Join1.cut (fun v w'=>v=.bool (decide (0<n∧n<8))∧w3=w') ?_ ?_
  ·simp -dsimp (disch:=first|omega|(simp only[go_sem,seval];try omega))only[go_sem,seval]
   refine BrW.dec (fun g1=>?_) (fun g1=>?_)
   ·simp -dsimp (disch:=first|omega|(simp only[go_sem,seval];try omega))only[go_sem,seval]
    exact congrArg Value.bool (decide_eq_decide.2 (by omega))
   ·exact⟨congrArg Value.bool (decide_eq_false (by omega)).symm,rfl⟩
  rintro v w4 ⟨rfl,rfl⟩
  refine BrW.dec (fun d2=>?_) (fun d2=>?_)
  ·rw[if_pos d2] at hD
   have hn:n=1∨n=2∨n=3∨n=4∨n=5∨n=6∨n=7:=by omega
   rcases hn with rfl|rfl|rfl|rfl|rfl|rfl|rfl<;>(simp -dsimp (disch:=first|omega|(simp only[go_sem,seval];try omega))only[go_sem,seval,hp,hq,GS];exact done c.fg c.bg _ _ (.inr rfl) hD)
  rw[if_neg d2] at hD
  simp -dsimp (disch:=first|omega|(simp only[go_sem,seval];try omega))only[go_sem,seval]
  refine BrW.dec (fun d3=>?_) (fun d3=>?_)
  ·rw[if_pos d3] at hD
   simp -dsimp (disch:=first|omega|(simp only[go_sem,seval];try omega))only[go_sem,seval,hp,F4]
   exact done c.fg c.bg _ _ (.inl rfl) hD
  rw[if_neg d3] at hD
  refine Join1.cut (fun v w'=>v=.bool (decide (23≤n∧n≤27))∧w3=w') ?_ ?_
  ·simp -dsimp (disch:=first|omega|(simp only[go_sem,seval];try omega))only[go_sem,seval]
   refine BrW.dec (fun g1=>?_) (fun g1=>?_)
   ·simp -dsimp (disch:=first|omega|(simp only[go_sem,seval];try omega))only[go_sem,seval]
    exact congrArg Value.bool (decide_eq_decide.2 (by omega))
   ·exact⟨congrArg Value.bool (decide_eq_false (by omega)).symm,rfl⟩
  rintro v w4 ⟨rfl,rfl⟩
  refine BrW.dec (fun d4=>?_) (fun d4=>?_)
  ·rw[if_pos d4] at hD
   have hn:n=23∨n=24∨n=25∨n=26∨n=27:=by omega
   rcases hn with rfl|rfl|rfl|rfl|rfl<;>(simp -dsimp (disch:=first|omega|(simp only[go_sem,seval];try omega))only[go_sem,seval,hp,hq,F4];exact done c.fg c.bg _ _ (.inr rfl) hD)
  rw[if_neg d4] at hD
  refine Join1.cut (fun v w'=>v=.bool (decide (30≤n∧n≤37))∧w3=w') ?_ ?_
  ·simp -dsimp (disch:=first|omega|(simp only[go_sem,seval];try omega))only[go_sem,seval]
   refine BrW.dec (fun g1=>?_) (fun g1=>?_)
   ·simp -dsimp (disch:=first|omega|(simp only[go_sem,seval];try omega))only[go_sem,seval]
    exact congrArg Value.bool (decide_eq_decide.2 (by omega))
   ·exact⟨congrArg Value.bool (decide_eq_false (by omega)).symm,rfl⟩
  rintro v w4 ⟨rfl,rfl⟩
  refine BrW.dec (fun d5=>?_) (fun d5=>?_)
  ·rw[if_pos d5] at hD
   simp -dsimp (disch:=first|omega|(simp only[go_sem,seval];try omega))only[go_sem,seval]
   refine OpX.call EL rfl (Calls.ret (Fg _ (n-30)) ?_)
   rintro v w4 ⟨rfl,rfl⟩
   simp -dsimp (disch:=first|omega|(simp only[go_sem,seval];try omega))only[go_sem,seval,hp]
   exact done (hue (n-30)) c.bg c.a _ (.inl rfl) hD
  rw[if_neg d5] at hD
  simp -dsimp (disch:=first|omega|(simp only[go_sem,seval];try omega))only[go_sem,seval]
  refine BrW.dec (fun d6=>?_) (fun d6=>?_)
  ·rw[if_pos d6] at hD
   simp -dsimp (disch:=first|omega|(simp only[go_sem,seval];try omega))only[go_sem,seval,hp]
   exact done 0 c.bg c.a _ (.inl rfl) hD
  rw[if_neg d6] at hD
  refine Join1.cut (fun v w'=>v=.bool (decide (40≤n∧n≤47))∧w3=w') ?_ ?_
  ·simp -dsimp (disch:=first|omega|(simp only[go_sem,seval];try omega))only[go_sem,seval]
   refine BrW.dec (fun g1=>?_) (fun g1=>?_)
   ·simp -dsimp (disch:=first|omega|(simp only[go_sem,seval];try omega))only[go_sem,seval]
    exact congrArg Value.bool (decide_eq_decide.2 (by omega))
   ·exact⟨congrArg Value.bool (decide_eq_false (by omega)).symm,rfl⟩
  rintro v w4 ⟨rfl,rfl⟩
  refine BrW.dec (fun d7=>?_) (fun d7=>?_)
  ·rw[if_pos d7] at hD
   simp -dsimp (disch:=first|omega|(simp only[go_sem,seval];try omega))only[go_sem,seval]
   refine OpX.call EL rfl (Calls.ret (Fg _ (n-40)) ?_)
   rintro v w4 ⟨rfl,rfl⟩
   simp -dsimp (disch:=first|omega|(simp only[go_sem,seval];try omega))only[go_sem,seval,hp]
   exact done c.fg (hue (n-40)) c.a _ (.inl rfl) hD
  rw[if_neg d7] at hD
  simp -dsimp (disch:=first|omega|(simp only[go_sem,seval];try omega))only[go_sem,seval]
  refine BrW.dec (fun d8=>?_) (fun d8=>?_)
  ·rw[if_pos d8] at hD
   simp -dsimp (disch:=first|omega|(simp only[go_sem,seval];try omega))only[go_sem,seval,hp]
   exact done c.fg 0 c.a _ (.inl rfl) hD
  rw[if_neg d8] at hD
  refine Join1.cut (fun v w'=>v=.bool (decide (90≤n∧n≤97))∧w3=w') ?_ ?_
  ·simp -dsimp (disch:=first|omega|(simp only[go_sem,seval];try omega))only[go_sem,seval]
   refine BrW.dec (fun g1=>?_) (fun g1=>?_)
   ·simp -dsimp (disch:=first|omega|(simp only[go_sem,seval];try omega))only[go_sem,seval]
    exact congrArg Value.bool (decide_eq_decide.2 (by omega))
   ·exact⟨congrArg Value.bool (decide_eq_false (by omega)).symm,rfl⟩
  rintro v w4 ⟨rfl,rfl⟩
  refine BrW.dec (fun d9=>?_) (fun d9=>?_)
  ·rw[if_pos d9] at hD
   simp -dsimp (disch:=first|omega|(simp only[go_sem,seval];try omega))only[go_sem,seval]
   refine OpX.call EL rfl (Calls.ret (Fg _ (n-82)) ?_)
   rintro v w4 ⟨rfl,rfl⟩
   simp -dsimp (disch:=first|omega|(simp only[go_sem,seval];try omega))only[go_sem,seval,hp]
   exact done (hue (n-82)) c.bg c.a _ (.inl rfl) hD
  rw[if_neg d9] at hD
  refine Join1.cut (fun v w'=>v=.bool (decide (100≤n∧n≤107))∧w3=w') ?_ ?_
  ·simp -dsimp (disch:=first|omega|(simp only[go_sem,seval];try omega))only[go_sem,seval]
   refine BrW.dec (fun g1=>?_) (fun g1=>?_)
   ·simp -dsimp (disch:=first|omega|(simp only[go_sem,seval];try omega))only[go_sem,seval]
    exact congrArg Value.bool (decide_eq_decide.2 (by omega))
   ·exact⟨congrArg Value.bool (decide_eq_false (by omega)).symm,rfl⟩
  rintro v w4 ⟨rfl,rfl⟩
  refine BrW.dec (fun d10=>?_) (fun d10=>?_)
  ·rw[if_pos d10] at hD
   simp -dsimp (disch:=first|omega|(simp only[go_sem,seval];try omega))only[go_sem,seval]
   refine OpX.call EL rfl (Calls.ret (Fg _ (n-92)) ?_)
   rintro v w4 ⟨rfl,rfl⟩
   simp -dsimp (disch:=first|omega|(simp only[go_sem,seval];try omega))only[go_sem,seval,hp]
   exact done c.fg (hue (n-92)) c.a _ (.inl rfl) hD
  rw[if_neg d10] at hD
  subst hD
  exact⟨hc3,hp,ho⟩
 ·rintro w4 ⟨hc4,hp4,ho4⟩
  have hl4:=Aa ho4
  simp -dsimp (disch:=first|omega|(simp only[go_sem,seval];try omega))only[go_sem,seval,hp4,ho4]
  exact hK _ _ ⟨rfl,hc4.set _ _ (.inr (by omega))⟩
theorem Zp {l:List Int} {x:Int} (h:x∈(AV l).2):x∈l:=by
 unfold AV at h
 split at h
 ·exact List.mem_cons_of_mem _ (List.mem_cons_of_mem _ h)
 ·exact List.mem_cons_of_mem _ (List.mem_cons_of_mem _ (List.mem_cons_of_mem _ (List.mem_cons_of_mem _ h)))
 ·simp at h
theorem RI {a:Act'} (hf:a.fits):∀x∈a.left,Bs x:=by
 intro x hx
 unfold Act'.left at hx
 dsimp only at hx
 split at hx
 ·simp at hx;subst hx;unfold Bs;omega
 ·exact hf.nums x (List.mem_of_mem_take hx)
def KY (w:World) (b b5:Nat) (R:Cel) (l:List Int) (c:Cel) (w':World):Prop :=
 Chg [] w w'∧w'.heap[b]?=some (.cells c.cells.toArray 167)∧w'.heap[b+2]?=some (.cells #[.int .i32 0,.int .u8 0,.int .u8 0,.int .u8 0] 167)∧B0 w' b5 l∧(∀x∈l,Bs x)∧∃k,l.length≤k∧CS k l c=R
theorem Tw (k:Nat) (c:Cel):CS k [] c=c:=by cases k<;>rfl
theorem RG (w:World) (c:Cel) (a:Act') (hf:a.fits):Calls Tryz.prog 213 #[c.val,a.val] w (Ac fun v w'=>v=(F9 c a).val∧Chg [] w w'):=by
 apply Xw
 intro K hK
 unfold Kk
 simp -dsimp (disch:=first|omega|(simp only[go_sem,seval];try omega))only[go_sem,seval]
 have hz:(w.alloc (.cells #[.int .i32 c.r,.int .u8 c.fg.toNat,.int .u8 c.bg.toNat,.int .u8 c.a.toNat] 167)).heap.size=w.heap.size+1:=by simp -dsimp (disch:=first|omega|(simp only[go_sem,seval];try omega))only[go_sem,seval]
 have hz2:((w.alloc (.cells #[.int .i32 c.r,.int .u8 c.fg.toNat,.int .u8 c.bg.toNat,.int .u8 c.a.toNat] 167)).alloc (.cells a.cells.toArray 247)).heap.size=w.heap.size+2:=by simp -dsimp (disch:=first|omega|(simp only[go_sem,seval];try omega))only[go_sem,seval]
 simp only[Act'.cells] at hz2
 rw[hz2,hz]
 obtain⟨w1,hw1⟩:∃w1,w1=(((w.alloc (.cells c.cells.toArray 167)).alloc (.cells a.cells.toArray 247)).alloc (.cells #[.int .i32 0,.int .u8 0,.int .u8 0,.int .u8 0] 167)):=⟨_,rfl⟩
 have hc1:Chg [] w w1:=by rw[hw1];exact EZ _ _ _ _
 have hp1:w1.heap[w.heap.size]?=some (.cells c.cells.toArray 167):=by rw[hw1];simp -dsimp (disch:=first|omega|(simp only[go_sem,seval];try omega))only[go_sem,seval]
 have ha1:w1.heap[w.heap.size+1]?=some (.cells a.cells.toArray 247):=by rw[hw1];simp -dsimp (disch:=first|omega|(simp only[go_sem,seval];try omega))only[go_sem,seval]
 have ho1:w1.heap[w.heap.size+2]?=some (.cells #[.int .i32 0,.int .u8 0,.int .u8 0,.int .u8 0] 167):=by rw[hw1];simp -dsimp (disch:=first|omega|(simp only[go_sem,seval];try omega))only[go_sem,seval]
 have hl1:=Aa ho1
 simp only[Act'.cells,Cel.cells] at hw1
 rw[←hw1]
 clear hw1 hz hz2
 refine Join1.cut (fun v w'=>v=.bool (decide (a.kind≠4∨a.r≠109∨a.priv≠0∨a.mid≠0))∧w1=w') ?_ ?_
 ·simp -dsimp (disch:=first|omega|(simp only[go_sem,seval];try omega))only[go_sem,seval,ha1]
  refine BrW.dec (fun g1=>?_) (fun g1=>?_)
  ·exact⟨congrArg Value.bool (decide_eq_true (.inl g1)).symm,rfl⟩
  simp -dsimp (disch:=first|omega|(simp only[go_sem,seval];try omega))only[go_sem,seval,ha1]
  refine BrW.dec (fun g2=>?_) (fun g2=>?_)
  ·exact⟨congrArg Value.bool (decide_eq_true (.inr (.inl g2))).symm,rfl⟩
  simp -dsimp (disch:=first|omega|(simp only[go_sem,seval];try omega))only[go_sem,seval,ha1]
  refine BrW.dec (fun g3=>?_) (fun g3=>?_)
  ·exact⟨congrArg Value.bool (decide_eq_true (.inr (.inr (.inl g3)))).symm,rfl⟩
  simp -dsimp (disch:=first|omega|(simp only[go_sem,seval];try omega))only[go_sem,seval,ha1]
  refine congrArg Value.bool (decide_eq_decide.2 ⟨fun h=>.inr (.inr (.inr h)),fun h=>?_⟩)
  rcases h with h|h|h|h
  ·exact absurd h g1
  ·exact absurd h g2
  ·exact absurd h g3
  ·exact h
 rintro v w2 ⟨rfl,rfl⟩
 unfold F9 at hK
 refine BrW.dec (fun d1=>?_) (fun d1=>?_)
 ·rw[if_pos d1] at hK
  simp -dsimp (disch:=first|omega|(simp only[go_sem,seval];try omega))only[go_sem,seval,hp1,ho1]
  exact hK _ _ ⟨rfl,hc1.set _ _ (.inr (by omega))⟩
 rw[if_neg d1] at hK
 obtain⟨R,hR⟩:∃R,R=CS 9 a.left c:=⟨_,rfl⟩
 rw[←hR] at hK
 simp -dsimp (disch:=first|omega|(simp only[go_sem,seval];try omega))only[go_sem,seval,ha1]
 refine Join0.cut (fun w'=>KY w w.heap.size w1.heap.size R a.left c w') ?_ ?_
 ·obtain⟨n,hn⟩:∃n,n=(min (max a.n 0) 8).toNat:=⟨_,rfl⟩
  have hn8:n≤8:=by omega
  rw[←hn]
  obtain⟨w2,hw2⟩:∃w2,w2=w1.alloc (.cells #[.slice (some ⟨w.heap.size+1,5,none⟩) n 8] 40):=⟨_,rfl⟩
  have hc2:Chg [] w1 w2:=by rw[hw2];exact AE _ _
  have h52:w2.heap[w1.heap.size]?=some (.cells #[.slice (some ⟨w.heap.size+1,5,none⟩) n 8] 40):=by rw[hw2];simp -dsimp (disch:=first|omega|(simp only[go_sem,seval];try omega))only[go_sem,seval]
  have hl52:=Aa h52
  have ha2:=hc2.keep ha1 (by simp)
  have hsx:Sx w2 (some 247) fI (some ⟨w.heap.size+1,5,none⟩) (a.nums.take n):=by
   have h0:Sx w2 (some 247) fI (some ⟨w.heap.size+1,5,none⟩) a.nums:=⟨fun _=>⟨w.heap.size+1,5,_,_,_,a.cells.take 5,[],rfl,ha2,by simp [BR],rfl,rfl⟩⟩
   have:=h0.sub (m:=1) (fun _=>rfl) 0 n (some ⟨w.heap.size+1,5,none⟩) (.inr (.inr rfl))
   simpa using this
  have hlen:(a.nums.take n).length=n:=by rw[List.length_take,show a.nums.length=8 from rfl];omega
  rw[←hw2]
  have hp2:=hc2.keep hp1 (by simp)
  have ho2:=hc2.keep ho1 (by simp)
  clear hw2
  simp -dsimp (disch:=first|omega|(simp only[go_sem,seval];try omega))only[go_sem,seval,h52]
  refine BrW.dec (fun d2=>?_) (fun d2=>?_)
  ·have hleft:a.left=[0]:=by
    unfold Act'.left
    dsimp only
    rw[←hn,if_pos (List.eq_nil_of_length_eq_zero (by omega))]
   simp -dsimp (disch:=first|omega|(simp only[go_sem,seval];try omega))only[go_sem,seval,h52]
   rw[hleft] at hR ⊢
   refine⟨?_,?_,?_,⟨w2.heap.size,0,1,?_,by simp,by simp,Nat.ne_of_gt hl52,3,.inr rfl,?_⟩,by simp [Bs],9,by simp,hR.symm⟩
   ·exact((hc1.trans0 hc2).set w1.heap.size _ (.inr (by omega))).alloc _
   ·simp -dsimp (disch:=first|omega|(simp only[go_sem,seval];try omega))only[go_sem,seval,hp2]
   ·simp -dsimp (disch:=first|omega|(simp only[go_sem,seval];try omega))only[go_sem,seval,ho2]
   ·simp -dsimp (disch:=first|omega|(simp only[go_sem,seval];try omega))only[go_sem,seval]
   ·refine Sx.built (c:=[.int .i64 0]) ?_ rfl
    simp -dsimp (disch:=first|omega|(simp only[go_sem,seval];try omega))only[go_sem,seval]
  ·have hleft:a.left=a.nums.take n:=by
    unfold Act'.left
    dsimp only
    rw[←hn,if_neg (fun h=>d2 (by rw[h] at hlen;simp at hlen;omega))]
   refine⟨hc1.trans0 hc2,hp2,ho2,⟨w.heap.size+1,5,8,?_,?_,?_,by omega,247,.inl rfl,?_⟩,RI hf,9,?_,hR.symm⟩
   ·rw[hleft,hlen];exact h52
   ·rw[hleft,hlen];exact hn8
   ·rw[hleft,hlen];exact hn8
   ·rw[hleft];exact hsx
   ·rw[hleft,hlen];omega
 ·intro w2 hI
  simp -dsimp (disch:=first|omega|(simp only[go_sem,seval];try omega))only[go_sem,seval]
  refine Loop0.st (fun(st:List Int × Cel) w'=>KY w w.heap.size w1.heap.size R st.1 st.2 w') (fun st=>st.1.length) (a.left,c) hI ?_
  clear hI hp1 ha1 ho1 w2
  rintro next ⟨l,c2⟩ w2 hn ⟨hc2,hp2,ho2,hL,hi,k,hk,hR⟩
  dsimp only at hp2 hL hi hk hR
  have hl2:=Aa ho2
  have hL':=hL
  obtain⟨g,o,cap,q1,q2,q3,q4,-⟩:=hL'
  have hl3:=Aa q1
  simp -dsimp (disch:=first|omega|(simp only[go_sem,seval];try omega))only[go_sem,seval,q1]
  refine BrW.dec (fun d2=>?_) (fun d2=>?_)
  ·rcases l with _|⟨n,l⟩
   ·simp at d2
   obtain⟨k,rfl⟩:∃k',k=k'+1:=⟨k-1,by simp at hk;omega⟩
   refine OpX.callV (us:=[]) (cs:=[_]) EH rfl (Calls.ret (EA hL 1 (by omega)) ?_)
   rintro v w3 ⟨⟨g3,o3,cap3,rfl,hg3,hs3⟩,hL3,hc3⟩
   have e1:(n::l).take 1=[n]:=rfl
   have e2:(n::l).drop 1=l:=rfl
   rw[e1] at hs3 ⊢
   rw[e2] at hL3
   have hcell:=Df hs3 (i:=0) rfl
   simp only[Nat.add_zero] at hcell
   have hc4:Chg [] w w3:=hc2.trans hc3 (by simp;omega)
   have hp3:=hc3.keep hp2 (by simp;omega)
   have ho3:=hc3.keep ho2 (by simp;omega)
   have hl4:=Aa ho3
   simp -dsimp (disch:=first|omega|(simp only[go_sem,seval];try omega))only[go_sem,seval,hcell]
   refine Join1.cut (fun v w'=>v=.bool (decide (n=38∨n=48))∧w3=w') ?_ ?_
   ·simp -dsimp (disch:=first|omega|(simp only[go_sem,seval];try omega))only[go_sem,seval]
    refine BrW.dec (fun g1=>?_) (fun g1=>?_)
    ·exact⟨congrArg Value.bool (decide_eq_true (.inl g1)).symm,rfl⟩
    ·simp -dsimp (disch:=first|omega|(simp only[go_sem,seval];try omega))only[go_sem,seval]
     simp [g1]
   rintro v w4 ⟨rfl,rfl⟩
   unfold CS at hR
   refine BrW.dec (fun d3=>?_) (fun d3=>?_)
   ·refine OpX.call Pn rfl (Calls.ret (Tx hL3) ?_)
    rintro v w4 ⟨rfl,hL4,hc5⟩
    have hc6:Chg [] w w4:=hc4.trans hc5 (by simp;omega)
    have hp4:=hc5.keep hp3 (by simp;omega)
    have ho4:=hc5.keep ho3 (by simp;omega)
    have hl5:=Aa ho4
    have hi':∀x∈(AV l).2,Bs x:=fun x hx=>hi x (List.mem_cons_of_mem _ (Zp hx))
    have hlen:=Pp l
    have hlk:(AV l).2.length≤k:=by simp at hk;omega
    have hlt:(AV l).2.length<(n::l).length:=by simp;omega
    have hlt4:w.heap.size<w4.heap.size:=by omega
    obtain⟨q,hq⟩:∃q,q=(AV l).1:=⟨_,rfl⟩
    rw[←hq] at hR ⊢
    have nx:∀(f b:BitVec 8) (w5:World),w5=Ab w4 w.heap.size (.cells #[.int .i32 c2.r,.int .u8 f.toNat,.int .u8 b.toNat,.int .u8 c2.a.toNat] 167)→CS k (AV l).2 ⟨c2.r,f,b,c2.a⟩=R→next w5:=by
     intro f b w5 h5 e
     subst h5
     refine hn ((AV l).2,⟨c2.r,f,b,c2.a⟩) _ ⟨hc6.set _ _ (.inr (Nat.le_refl _)),?_,?_,?_,hi',k,hlk,e⟩ hlt
     ·simp -dsimp (disch:=first|omega|(simp only[go_sem,seval];try omega))only[go_sem,seval]
     ·simp -dsimp (disch:=first|omega|(simp only[go_sem,seval];try omega))only[go_sem,seval,ho4]
     ·exact hL4.low ((Chg.refl [w.heap.size] w4).set _ _ (by simp)) (by omega) hp4
    simp -dsimp (disch:=first|omega|(simp only[go_sem,seval];try omega))only[go_sem,seval]
    rcases q with _|x
    ·refine Join1.cut (fun v w'=>v=.bool false∧w4=w') ?_ ?_
     ·exact BrW.by (fun h=>by simp at h) (fun _=>⟨rfl,rfl⟩)
     rintro v w5 ⟨rfl,rfl⟩
     simp -dsimp (disch:=first|omega|(simp only[go_sem,seval];try omega))only[go_sem,seval]
     refine hn ((AV l).2,c2) _ ⟨hc6,hp4,ho4,hL4,hi',k,hlk,?_⟩ hlt
     rw[←hR]
     split
     ·rfl
     ·split
      ·rfl
      ·omega
    ·refine Join1.cut (fun v w'=>v=.bool (decide (n=38))∧w4=w') ?_ ?_
     ·refine BrW.by (fun _=>?_) (fun h=>by simp at h)
      simp -dsimp (disch:=first|omega|(simp only[go_sem,seval];try omega))only[go_sem,seval]
     rintro v w5 ⟨rfl,rfl⟩
     refine BrW.dec (fun g1=>?_) (fun g1=>?_)
     ·rw[if_pos g1] at hR
      simp -dsimp (disch:=first|omega|(simp only[go_sem,seval];try omega))only[go_sem,seval,hp4]
      exact nx x c2.bg _ rfl hR
     ·rw[if_neg g1,if_pos (by omega)] at hR
      refine BrW.by (fun _=>?_) (fun h=>by simp at h)
      simp -dsimp (disch:=first|omega|(simp only[go_sem,seval];try omega))only[go_sem,seval,hp4]
      exact nx c2.fg x _ rfl hR
   ·rw[if_neg (by omega),if_neg (by omega)] at hR
    simp -dsimp (disch:=first|omega|(simp only[go_sem,seval];try omega))only[go_sem,seval,hp3]
    refine OpX.call UP rfl (Calls.ret (ZL _ c2 n (hi n (by simp))) ?_)
    rintro v w4 ⟨rfl,hc5⟩
    have hp4:=hc5.keep hp3 (by simp)
    have ho4:=hc5.keep ho3 (by simp)
    have hl5:=Aa ho4
    have hc6:=hc4.trans0 hc5
    simp -dsimp (disch:=first|omega|(simp only[go_sem,seval];try omega))only[go_sem,seval,hp4]
    refine hn (l,E9 c2 n) _ ⟨hc6.set _ _ (.inr (Nat.le_refl _)),?_,?_,?_,fun x hx=>hi x (List.mem_cons_of_mem _ hx),k,by simp at hk;exact hk,hR⟩ (by simp)
    ·simp -dsimp (disch:=first|omega|(simp only[go_sem,seval];try omega))only[go_sem,seval]
    ·simp -dsimp (disch:=first|omega|(simp only[go_sem,seval];try omega))only[go_sem,seval,ho4]
    ·exact(hL3.chg0 hc5).low ((Chg.refl [w.heap.size] w4).set _ _ (by simp)) (by omega) hp4
  ·have hl0:l=[]:=by cases l with|nil=>rfl|cons x l=>simp at d2
   subst hl0
   rw[Tw] at hR
   simp -dsimp (disch:=first|omega|(simp only[go_sem,seval];try omega))only[go_sem,seval,hp2,ho2]
   exact hK _ _ ⟨by rw[hR];rfl,hc2.set _ _ (.inr (by omega))⟩
theorem Scm.wTabs (M:Scm) (h:M.S.tabs.length=200):Az (some M.obj) 29 (List.replicate 200 (.bool false))=some ({ M with S:={ M.S with tabs:=List.replicate 200 false } }:Scm).obj:=by
 refine M.put _ 29 _ h (by rw[List.length_replicate];omega) ?_
 have e1:M.cells=M.cells.take 29++(M.S.tabs.map Value.bool++[.bool M.S.wraps,.bool M.S.waits,.bool M.S.shown,M.gv]):=rfl
 have e2:M.cells.drop (29+(List.replicate 200 (Value.bool false)).length)=[.bool M.S.wraps,.bool M.S.waits,.bool M.S.shown,M.gv]:=by
  rw[List.length_replicate,e1,←List.append_assoc]
  exact List.drop_left' (by rw[List.length_append,List.length_map,h];rfl)
 rw[e2]
 unfold Scm.cells Scm.end
 dsimp only
 rw[List.map_replicate]
 rfl
section
attribute [-go_sem] GF EM
theorem X4 {w:World} {s:Nat} {M:Scm} (h:SAt w s M) (ok:M.S.ok) (a:Act') (hf:a.fits):Calls Tryz.prog 187 #[.pointer (some ⟨s,0,none⟩),a.val] w
  (Ac fun v w'=>v=.bool (M.S.set a).isSome∧Did w s M w' ((M.S.set a).getD M.S)):=by
 have hls:=Aa h.hb
 have tl:=h.tl
 have w1b:=ok.w1
 have nx:=ok.nx
 apply QH
 intro K hK
 unfold Jj
 simp -dsimp (disch:=first|omega|(simp only[go_sem,seval];try omega))only[go_sem,seval]
 obtain⟨w1,hw1⟩:∃w1,w1=w.alloc (.cells a.cells.toArray 247):=⟨_,rfl⟩
 have hc1:Chg [] w w1:=by rw[hw1];exact AE _ _
 have ha1:w1.heap[w.heap.size]?=some (.cells a.cells.toArray 247):=by rw[hw1];simp -dsimp (disch:=first|omega|(simp only[go_sem,seval];try omega))only[go_sem,seval]
 simp only[Act'.cells] at hw1
 rw[←hw1]
 clear hw1
 have hla:=Aa ha1
 have hA:=h.chg0 hc1
 have hb:=hA.hb
 have base:∀w' T,Did w1 s M w' T→Did w s M w' T:=fun w' T hd=>Did.trans (M1:=M) (hc1.mono (by simp)) (fun b hb=>.inl hb) hd
 refine Join0.cut (fun w'=>∃T,Did w s M w' T∧M.S.set a=some T) ?_ ?_
 ·simp -dsimp (disch:=first|omega|(simp only[go_sem,seval];try omega))only[go_sem,seval,ha1]
  refine BrW.dec (fun c1=>?_) (fun c1=>?_)
  ·simp -dsimp (disch:=first|omega|(simp only[go_sem,seval];try omega))only[go_sem,seval,ha1,hb]
   refine OpX.call Vf rfl (Calls.ret (RG _ M.S.now.pen a hf) ?_)
   rintro v w2 ⟨rfl,hc2⟩
   have hc3:Chg [] w1 w2:=(Chg.refl _ _).drew.trans0 hc2
   have hA2:=hA.chg0 hc3
   have hb2:=hA2.hb
   have hl2:=Aa hb2
   simp -dsimp (disch:=first|omega|(simp only[go_sem,seval];try omega))only[go_sem,seval,hb2]
   refine⟨_,base _ _ (Did.set hA2 (hc3.mono (by simp)) (fun b hb=>.inl hb) { M.S with now:={ M.S.now with pen:=F9 M.S.now.pen a } } rfl rfl tl rfl),?_⟩
   unfold Scr.set
   rw[if_pos c1]
  simp -dsimp (disch:=first|omega|(simp only[go_sem,seval];try omega))only[go_sem,seval,ha1]
  refine BrW.dec (fun c2=>?_) (fun c2=>?_)
  ·simp -dsimp (disch:=first|omega|(simp only[go_sem,seval];try omega))only[go_sem,seval,ha1]
   refine OpX.call Dt rfl (Calls.ret (DF _ a 0 0) ?_)
   rintro v w2 ⟨rfl,hc2⟩
   have hA2:=hA.chg0 hc2
   have hb2:=hA2.hb
   have hl2:=Aa hb2
   have e:M.S.set a=some (if a.num 0 0=0 then { M.S with tabs:=M.S.tabs.set M.S.now.x false } else if a.num 0 0=3 then { M.S with tabs:=List.replicate 200 false } else M.S):=by
    unfold Scr.set
    rw[if_neg c1,if_pos c2]
   simp -dsimp (disch:=first|omega|(simp only[go_sem,seval];try omega))only[go_sem,seval]
   refine BrW.dec (fun d1=>?_) (fun d1=>?_)
   ·rw[if_pos d1] at e
    simp -dsimp (disch:=first|omega|(simp only[go_sem,seval];try omega))only[go_sem,seval,hb2]
    exact⟨_,base _ _ (Did.set (hA2.chg0 (Chg.refl _ _).drew) (hc2.mono (by simp)).drew (fun b hb=>.inl hb) { M.S with tabs:=M.S.tabs.set M.S.now.x false } rfl rfl (by rw[List.length_set];exact tl) rfl),e⟩
   rw[if_neg d1] at e
   simp -dsimp (disch:=first|omega|(simp only[go_sem,seval];try omega))only[go_sem,seval]
   refine BrW.dec (fun d2=>?_) (fun d2=>?_)
   ·rw[if_pos d2] at e
    refine OpX.build (c:=(List.replicate 200 (.bool false)).toArray) (by kernel_rfl) ?_
    obtain⟨z,hz⟩:∃z,z=(List.replicate 200 (Value.bool false)).toArray:=⟨_,rfl⟩
    rw[←hz]
    simp -dsimp (disch:=first|omega|(simp only[go_sem,seval];try omega))only[go_sem,seval]
    rw[DZ _ _ _ _ _ _ _ (by rw[hz];kernel_rfl) (by rw[hz];kernel_rfl)]
    have hp:Az w2.heap[s]? 29 (Value.agg z).cells.toList=some ({ M with S:={ M.S with tabs:=List.replicate 200 false } }:Scm).obj:=by
     rw[hz,hb2]
     exact M.wTabs tl
    rw[hp,D4]
    exact⟨_,base _ _ (Did.set hA2 (hc2.mono (by simp)) (fun b hb=>.inl hb) { M.S with tabs:=List.replicate 200 false } rfl rfl (by rw[List.length_replicate]) rfl),e⟩
   ·rw[if_neg d2] at e
    exact⟨_,base _ _ (Did.trans (M1:=M) (hc2.mono (by simp)) (fun b hb=>.inl hb) (Did.refl hA2)),e⟩
  simp -dsimp (disch:=first|omega|(simp only[go_sem,seval];try omega))only[go_sem,seval]
  refine BrW.dec (fun c3=>?_) (fun c3=>?_)
  ·simp -dsimp (disch:=first|omega|(simp only[go_sem,seval];try omega))only[go_sem,seval]
   refine OpX.call IB rfl (Calls.ret (Ho hA) ?_)
   rintro v w2 hd
   refine⟨_,base _ _ hd,?_⟩
   unfold Scr.set
   rw[if_neg c1,if_neg c2,if_pos c3]
  have e:M.S.set a=none:=by
   unfold Scr.set
   rw[if_neg c1,if_neg c2,if_neg c3]
  rw[e] at hK
  exact hK _ _ ⟨rfl,base _ _ (Did.refl hA)⟩
 ·rintro w2 ⟨T,hd,e⟩
  rw[e] at hK
  exact hK _ _ ⟨rfl,hd⟩
end
theorem Rs (S:Scr) (l:List Int) (x:Int) (on:Bool):S.modes (l++[x]) on=(S.modes l on).mode x on:=by unfold Scr.modes;rw[List.foldl_append];rfl
theorem UO {w:World} {b:Nat} {a:Act'} (h:w.heap[b]?=some (.cells a.cells.toArray 247)):Sx w none fI (some ⟨b,5,none⟩) a.nums:=⟨fun _=>⟨b,5,_,_,_,a.cells.take 5,[],rfl,h,by simp [BR],rfl,rfl⟩⟩
theorem XC {w:World} {s:Nat} {M:Scm} (h:SAt w s M) (ok:M.S.ok) (a:Act') (hf:a.fits):Calls Tryz.prog 138 #[.pointer (some ⟨s,0,none⟩),a.val] w
  (Ac fun _ w'=>Did w s M w' (M.S.csi a)):=by
 have hls:=Aa h.hb
 have hlt:=h.lt
 have tl:=h.tl
 apply RS
 intro K hK
 unfold OQ
 simp -dsimp (disch:=first|omega|(simp only[go_sem,seval];try omega))only[go_sem,seval]
 obtain⟨w1,hw1⟩:∃w1,w1=w.alloc (.cells a.cells.toArray 247):=⟨_,rfl⟩
 have hc1:Chg [] w w1:=by rw[hw1];exact AE _ _
 have ha1:w1.heap[w.heap.size]?=some (.cells a.cells.toArray 247):=by rw[hw1];simp -dsimp (disch:=first|omega|(simp only[go_sem,seval];try omega))only[go_sem,seval]
 simp only[Act'.cells] at hw1
 rw[←hw1]
 clear hw1
 have hla:=Aa ha1
 have hA:=h.chg0 hc1
 have hoa:w.heap.size∉s::M.blk:=fun hm=>by have:=hlt _ hm;omega
 have base:∀w' T,Did w1 s M w' T→Did w s M w' T:=fun w' T hd=>Did.trans (M1:=M) (hc1.mono (by simp)) (fun b hb=>.inl hb) hd
 obtain⟨C,hC⟩:∃C,C=M.S.csi a:=⟨_,rfl⟩
 rw[←hC] at hK
 unfold Scr.csi at hC
 refine Join1.cut (fun v w'=>v=.bool (decide (a.priv=63∧a.mid=0∧(a.r=104∨a.r=108)))∧w1=w') ?_ ?_
 ·simp -dsimp (disch:=first|omega|(simp only[go_sem,seval];try omega))only[go_sem,seval,ha1]
  refine BrW.dec (fun g1=>?_) (fun g1=>?_)
  ·simp -dsimp (disch:=first|omega|(simp only[go_sem,seval];try omega))only[go_sem,seval,ha1]
   refine BrW.dec (fun g2=>?_) (fun g2=>?_)
   ·simp -dsimp (disch:=first|omega|(simp only[go_sem,seval];try omega))only[go_sem,seval,ha1]
    refine BrW.dec (fun g3=>?_) (fun g3=>?_)
    ·exact⟨congrArg Value.bool (decide_eq_true ⟨g1,g2,.inl g3⟩).symm,rfl⟩
    ·simp -dsimp (disch:=first|omega|(simp only[go_sem,seval];try omega))only[go_sem,seval,ha1]
     exact congrArg Value.bool (decide_eq_decide.2 ⟨fun h=>⟨g1,g2,.inr h⟩,fun h=>h.2.2.resolve_left g3⟩)
   ·exact⟨congrArg Value.bool (decide_eq_false (fun h=>g2 h.2.1)).symm,rfl⟩
  ·exact⟨congrArg Value.bool (decide_eq_false (fun h=>g1 h.1)).symm,rfl⟩
 rintro v w2 ⟨rfl,rfl⟩
 refine BrW.dec (fun d1=>?_) (fun d1=>?_)
 ·rw[if_pos d1] at hC
  obtain⟨n,hn⟩:∃n,n=(min (max a.n 0) 8).toNat:=⟨_,rfl⟩
  have hn8:n≤8:=by omega
  rw[←hn] at hC
  simp -dsimp (disch:=first|omega|(simp only[go_sem,seval];try omega))only[go_sem,seval,ha1]
  rw[←hn]
  refine Loop1.st (fun i:Nat=>.int .i64 (i:Int)) (fun i w'=>i≤n∧Did w1 s M w' (M.S.modes (a.nums.take i) (decide (a.r=104)))) (fun i=>n-i) 0 rfl ⟨by omega,Did.refl hA⟩ ?_
  rintro next i w2 hnx ⟨hi,hd⟩
  have ha2:=hd.keep ha1 hoa
  have hl2:=Aa ha2
  simp -dsimp (disch:=first|omega|(simp only[go_sem,seval];try omega))only[go_sem,seval]
  refine BrW.dec (fun d2=>?_) (fun d2=>?_)
  ·have hi8:i<a.nums.length:=by rw[show a.nums.length=8 from rfl];omega
   have hcell:=Df (UO ha2) (i:=i) (List.getElem?_eq_getElem hi8)
   have hx:=hf.nums _ (List.getElem_mem hi8)
   obtain⟨M2,hA2,hS2,hc2,hbl2⟩:=hd
   have ok2:M2.S.ok:=by rw[hS2];exact ok.modes.ok
   simp -dsimp (disch:=first|omega|(simp only[go_sem,seval];try omega))only[go_sem,seval,hcell]
   simp -dsimp (disch:=first|omega|(simp only[go_sem,seval];try omega))only[go_sem,seval,ha2]
   refine OpX.call PT rfl (Calls.ret (WS hA2 ok2 (a.nums[i]) (decide (a.r=104))) ?_)
   rintro v w3 hd3
   have e1:(i:Int)+1=((i+1:Nat):Int):=by omega
   simp -dsimp (disch:=first|omega|(simp only[go_sem,seval];try omega))only[go_sem,seval,e1]
   refine hnx (i+1) _ ⟨by omega,?_⟩ (by omega)
   rw[Du hi8,Rs,←hS2]
   exact Did.trans hc2 hbl2 hd3
  ·have:i=n:=by omega
   subst this
   exact hK _ _ (base _ _ (by rw[hC];exact hd))
 rw[if_neg d1] at hC
 refine Join1.cut (fun v w'=>v=.bool (decide (a.priv≠0∨a.mid≠0))∧w1=w') ?_ ?_
 ·simp -dsimp (disch:=first|omega|(simp only[go_sem,seval];try omega))only[go_sem,seval,ha1]
  refine BrW.dec (fun g1=>?_) (fun g1=>?_)
  ·exact⟨congrArg Value.bool (decide_eq_true (.inl g1)).symm,rfl⟩
  ·simp -dsimp (disch:=first|omega|(simp only[go_sem,seval];try omega))only[go_sem,seval,ha1]
   refine congrArg Value.bool (decide_eq_decide.2 ⟨fun h=>.inr h,fun h=>?_⟩)
   rcases h with h|h
   ·exact absurd h g1
   ·exact h
 rintro v w2 ⟨rfl,rfl⟩
 refine BrW.dec (fun d2=>?_) (fun d2=>?_)
 ·rw[if_pos d2] at hC
  exact hK _ _ (base _ _ (by rw[hC];exact Did.refl hA))
 rw[if_neg d2] at hC
 simp -dsimp (disch:=first|omega|(simp only[go_sem,seval];try omega))only[go_sem,seval,ha1]
 refine OpX.call RD rfl (Calls.ret (X4 hA ok a hf) ?_)
 rintro v w2 ⟨rfl,hd2⟩
 have ha2:=hd2.keep ha1 hoa
 rcases hs:M.S.set a with _|T
 ·rw[hs] at hd2 hC
  dsimp only[Option.getD] at hd2 hC
  obtain⟨M2,hA2,hS2,hc2,hbl2⟩:=hd2
  have ok2:M2.S.ok:=by rw[hS2];exact ok
  have hz2:=hc2.size
  have hoa2:=F2 hbl2 hoa hla
  rw[←hS2] at hC
  refine BrW.by (fun h=>by simp at h) (fun _=>?_)
  refine Join1.cut (fun v w'=>∃b T,v=.bool b∧Did w1 s M w' T∧C=bif b then T.calm else T) ?_ ?_
  ·simp -dsimp (disch:=first|omega|(simp only[go_sem,seval];try omega))only[go_sem,seval,ha2]
   refine OpX.call QL rfl (Calls.ret (Um hA2 ok2 a hf) ?_)
   rintro v w3 ⟨rfl,hd3⟩
   have ha3:=hd3.keep ha2 hoa2
   rcases hm:M2.S.moved a with _|T
   ·rw[hm] at hd3 hC
    dsimp only[Option.getD] at hd3 hC
    obtain⟨M3,hA3,hS3,hc3,hbl3⟩:=hd3
    have ok3:M3.S.ok:=by rw[hS3];exact ok2
    rw[←hS3] at hC
    refine BrW.by (fun h=>by simp at h) (fun _=>?_)
    simp -dsimp (disch:=first|omega|(simp only[go_sem,seval];try omega))only[go_sem,seval,ha3]
    refine OpX.call S7 rfl (Calls.ret (Xp hA3 ok3 a hf) ?_)
    rintro v w4 ⟨rfl,hd4⟩
    rcases hch:M3.S.changed a with _|T
    ·rw[hch] at hd4 hC
     exact⟨false,_,rfl,Did.trans hc2 hbl2 (Did.trans hc3 hbl3 hd4),hC⟩
    ·rw[hch] at hd4 hC
     exact⟨true,_,rfl,Did.trans hc2 hbl2 (Did.trans hc3 hbl3 hd4),hC⟩
   ·rw[hm] at hd3 hC
    exact BrW.by (fun _=>⟨true,_,rfl,Did.trans hc2 hbl2 hd3,hC⟩) (fun h=>by simp at h)
  ·rintro v w3 ⟨b,T,rfl,hd3,e⟩
   cases b with
   | true =>
    obtain⟨M4,hb4,hS4,tl4,hd4⟩:=hd3.calm
    refine BrW.by (fun _=>?_) (fun h=>by simp at h)
    simp -dsimp (disch:=first|omega|(simp only[go_sem,seval];try omega))only[go_sem,seval,hb4]
    exact hK _ _ (base _ _ (by rw[e];exact hd4))
   | false=>exact BrW.by (fun h=>by simp at h) (fun _=>hK _ _ (base _ _ (by rw[e];exact hd3)))
 ·rw[hs] at hd2 hC
  exact BrW.by (fun _=>hK _ _ (base _ _ (by rw[hC];exact hd2))) (fun h=>by simp at h)
theorem Yb {w:World} {s:Nat} {M:Scm} (h:SAt w s M) (ok:M.S.ok) {e:Option TypeId} {ad:Option Addr} {l:List Act'} (hs:Sx w e Act'.cells ad l) (hfar:∀b o,ad=some ⟨b,o,none⟩→l≠[]→b∉s::M.blk) (cap:Nat) (hl:l.length≤1000000) (hf:∀a∈l,a.fits):Calls Tryz.prog 100 #[.pointer (some ⟨s,0,none⟩),.slice ad l.length cap] w
  (Ac fun _ w'=>Did w s M w' (M.S.acts l)):=by
 have w0:=ok.w0
 apply Vv
 intro K hK
 unfold NG
 refine OpX.call IA rfl (Calls.ret (Hc h w0) ?_)
 rintro v w1 ⟨rfl,rfl⟩
 simp -dsimp (disch:=first|omega|(simp only[go_sem,seval];try omega))only[go_sem,seval]
 refine Loop1.st (fun i:Nat=>.int .i64 (i:Int)) (fun i w'=>i≤l.length∧Did w s M w' (M.S.acts (l.take i))) (fun i=>l.length-i) 0 rfl ⟨by omega,Did.refl h⟩ ?_
 rintro next i w2 hnx ⟨hi,hd⟩
 simp -dsimp (disch:=first|omega|(simp only[go_sem,seval];try omega))only[go_sem,seval]
 refine BrW.dec (fun d2=>?_) (fun d2=>?_)
 ·have hi8:i<l.length:=by omega
  have hne:l≠[]:=by rintro rfl;simp at hi8
  obtain⟨M2,hA2,hS2,hc2,hbl2⟩:=hd
  have ok2:M2.S.ok:=by rw[hS2];exact ok.acts.ok
  have hs2:=hs.chg hc2 hfar
  obtain⟨b,o,rfl,hlb,hag⟩:=hs2.get (m:=13) Act'.len (List.getElem?_eq_getElem hi8)
  have hfa:=hf _ (List.getElem_mem hi8)
  have e2:M.S.acts (l.take (i+1))=M2.S.act l[i]:=by rw[Du hi8,hS2];unfold Scr.acts;rw[List.foldl_append];rfl
  obtain⟨a,ha⟩:∃a,a=l[i]:=⟨_,rfl⟩
  rw[←ha] at hag hfa e2
  have e1:(i:Int)+1=((i+1:Nat):Int):=by omega
  refine Join0.cut (fun w'=>Did w2 s M2 w' (M2.S.act a)) ?_ ?_
  ·simp -dsimp (disch:=first|omega|(simp only[go_sem,seval];try omega))only[go_sem,seval,hag]
   obtain⟨w3,hw3⟩:∃w3,w3=w2.alloc (.cells a.cells.toArray 247):=⟨_,rfl⟩
   have hc3:Chg [] w2 w3:=by rw[hw3];exact AE _ _
   have ha3:w3.heap[w2.heap.size]?=some (.cells a.cells.toArray 247):=by rw[hw3];simp -dsimp (disch:=first|omega|(simp only[go_sem,seval];try omega))only[go_sem,seval]
   simp only[Act'.cells] at hw3
   rw[←hw3]
   clear hw3
   have hA3:=hA2.chg0 hc3
   have base:∀w' T,Did w3 s M2 w' T→Did w2 s M2 w' T:=fun w' T hd=>Did.trans (M1:=M2) (hc3.mono (by simp)) (fun b hb=>.inl hb) hd
   obtain⟨C,hC⟩:∃C,C=M2.S.act a:=⟨_,rfl⟩
   rw[←hC]
   unfold Scr.act at hC
   refine BrW.dec (fun c1=>?_) (fun c1=>?_)
   ·rw[if_pos c1] at hC
    simp -dsimp (disch:=first|omega|(simp only[go_sem,seval];try omega))only[go_sem,seval,ha3]
    refine OpX.call U0 rfl (Calls.ret (Px hA3 ok2 a.r) ?_)
    rintro v w4 hd
    rw[hC];exact base _ _ hd
   rw[if_neg c1] at hC
   simp -dsimp (disch:=first|omega|(simp only[go_sem,seval];try omega))only[go_sem,seval]
   refine BrW.dec (fun c2=>?_) (fun c2=>?_)
   ·rw[if_pos c2] at hC
    simp -dsimp (disch:=first|omega|(simp only[go_sem,seval];try omega))only[go_sem,seval,ha3]
    refine OpX.call Re rfl (Calls.ret (Qs hA3 ok2 a.r) ?_)
    rintro v w4 hd
    rw[hC];exact base _ _ hd
   rw[if_neg c2] at hC
   simp -dsimp (disch:=first|omega|(simp only[go_sem,seval];try omega))only[go_sem,seval]
   refine BrW.dec (fun c3=>?_) (fun c3=>?_)
   ·rw[if_pos c3] at hC
    simp -dsimp (disch:=first|omega|(simp only[go_sem,seval];try omega))only[go_sem,seval,ha3]
    refine BrW.dec (fun c4=>?_) (fun c4=>?_)
    ·rw[if_pos c4] at hC
     simp -dsimp (disch:=first|omega|(simp only[go_sem,seval];try omega))only[go_sem,seval,ha3]
     refine OpX.call Q1 rfl (Calls.ret (P5 hA3 ok2 a.r) ?_)
     rintro v w4 hd
     rw[hC];exact base _ _ hd
    ·rw[if_neg c4] at hC
     rw[hC];exact base _ _ (Did.refl hA3)
   rw[if_neg c3] at hC
   simp -dsimp (disch:=first|omega|(simp only[go_sem,seval];try omega))only[go_sem,seval]
   refine BrW.dec (fun c4=>?_) (fun c4=>?_)
   ·rw[if_pos c4] at hC
    simp -dsimp (disch:=first|omega|(simp only[go_sem,seval];try omega))only[go_sem,seval,ha3]
    refine OpX.call Xo rfl (Calls.ret (XC hA3 ok2 a hfa) ?_)
    rintro v w4 hd
    rw[hC];exact base _ _ hd
   rw[if_neg c4] at hC
   rw[hC];exact base _ _ (Did.refl hA3)
  ·intro w3 hd3
   simp -dsimp (disch:=first|omega|(simp only[go_sem,seval];try omega))only[go_sem,seval,e1]
   refine hnx (i+1) _ ⟨by omega,?_⟩ (by omega)
   rw[e2]
   exact Did.trans hc2 hbl2 hd3
 ·have:i=l.length:=by omega
  subst this
  rw[List.take_length] at hd
  exact hK _ _ hd
def eV:Value:=.agg #[.int .i64 0,.int .i64 0,.slice none 0 0]
def Fh (W H:Nat):List Value :=
 [(.int .i64 W:Value),.int .i64 H]++Be++Be++[(.int .i64 0:Value),.int .i64 0,.int .i32 0,.int .u8 0,.int .u8 0,.int .u8 0,.int .i64 0,.int .i64 0,.int .i32 0,.int .u8 0,.int .u8 0,.int .u8 0,.int .i64 0,.int .i64 0,.int .i64 0,.int .i32 0,.int .u8 0,.int .u8 0,.int .u8 0,.int .i64 0,.int .i64 0]++List.replicate 200 (.bool false)++[.bool false,.bool false,.bool false,.slice none 0 0]
section
attribute [-go_sem] GF EM
theorem Ta (w:World) (W H:Nat) (W0:0<W) (W1:W≤200) (H0:0<H) (H1:H≤60):Calls Tryz.prog 128 #[.int .i64 W,.int .i64 H] w
  (Ac fun v w'=>∃s M,v=.pointer (some ⟨s,0,none⟩)∧SAt w' s M∧M.S=Scr.new W H∧Chg [] w w'∧w.heap.size≤s∧∀b∈M.blk,w.heap.size≤b):=by
 apply PS
 intro K hK
 unfold Ml
 refine OpX.call EG rfl (Calls.ret (EO w W H W0 W1 H0 H1) ?_)
 rintro v w1 ⟨hg,hc1⟩
 obtain⟨nb,cap,rfl,q1,q2,q3,q4⟩:=hg.sx
 simp -dsimp (disch:=first|omega|(simp only[go_sem,seval];try omega))only[go_sem,seval,Gr.val]
 refine OpX.gen fun w2 hw2=>?_
 have hc2:Chg [] w1 w2:=by rw[hw2];exact AE _ _
 clear hw2
 have hfit:=Gr.fit_plain W0 W1 H0 H1
 refine OpX.call DH rfl (Calls.ret (DI hfit.ok (q4.chg0 hc2) cap q1) ?_)
 rintro v w3 ⟨rfl,hc3⟩
 simp -dsimp (disch:=first|omega|(simp only[go_sem,seval];try omega))only[go_sem,seval,hfit.r]
 refine OpX.build (c:=(Fh W H).toArray) (by kernel_rfl) ?_
 rw[SL]
 obtain⟨z,hz⟩:∃z,z=(Value.agg (Fh W H).toArray).cells:=⟨_,rfl⟩
 rw[←hz]
 have hb:(w3.alloc (.cells z 236)).heap[w3.heap.size]?=some (.cells (Fh W H).toArray 236):=by
  rw[hz]
  exact Lyc.heap_alloc_new _ _ _ rfl
 have hc4:Chg [] w w3:=(hc1.trans0 hc2).trans0 hc3
 have hc5:Chg [] w3 (w3.alloc (.cells z 236)):=AE _ _
 have hs5:(w3.alloc (.cells z 236)).heap.size=w3.heap.size+1:=by simp -dsimp (disch:=first|omega|(simp only[go_sem,seval];try omega))only[go_sem,seval]
 have hlen:(Fh W H).length=233:=by unfold Fh;simp only[List.length_append,List.length_replicate,List.length_cons,List.length_nil,Be]
 have hz3:=hc4.size
 clear hz
 refine OpX.call OA rfl (Calls.ret (N9 (W:=W) (H:=H) (rows:=[]) hb hlen rfl rfl rfl W0 W1 H0 H1 (Ox.nil _ _ _ _ _) (by simp)) ?_)
 rintro v w4 ⟨M,hA,hS,hgv,hc6,k1,k2⟩
 refine hK _ _ ⟨w3.heap.size,M,rfl,hA,?_,(hc4.trans0 hc5).trans hc6 (by simp;omega),hz3,?_⟩
 ·rw[hS,ZY];rfl
 ·intro b hb
  simp only[Scm.blk,List.mem_cons] at hb
  rcases hb with rfl|rfl|hb
  ·omega
  ·omega
  ·rw[hgv] at hb;simp [Value.ownBlock] at hb
end
structure SNew (base:Nat) (w:World) (s:Nat) (W H:Nat) (M:Scm):Prop where
 at_:SAt w s M
 ok:M.S.ok
 w:M.S.w=W
 h:M.S.h=H
 gw:∀r∈M.S.gone,r.length=W
 lo:∀x∈s::M.blk,base≤x
theorem SNew.did {base:Nat} {w w':World} {s W H:Nat} {M:Scm} {T:Scr} (h:SNew base w s W H M) (hd:Did w s M w' T) (hn:Nx M.S T) (hb:base≤w.heap.size):∃M',SNew base w' s W H M'∧M'.S=T∧Chg (s::M.blk) w w'∧∀b∈M'.blk,b∈M.blk∨w.heap.size≤b:=by
 obtain⟨M',a,rfl,c,d⟩:=hd
 refine⟨M',⟨a,hn.ok,hn.w.trans h.w,hn.h.trans h.h,fun r hr=>?_,fun x hx=>?_⟩,rfl,c,d⟩
 ·rw[←h.w,←hn.w];exact hn.gw (fun r hr=>by rw[h.w];exact h.gw r hr) r hr
 ·rcases List.mem_cons.1 hx with e|hx
  ·exact h.lo x (by rw[e];simp)
  ·rcases d x hx with hx|hx
   ·exact h.lo x (by simp [hx])
   ·omega
theorem SNew.chg0 {base:Nat} {w w':World} {s W H:Nat} {M:Scm} (h:SNew base w s W H M) (hc:Chg [] w w'):SNew base w' s W H M:=⟨h.at_.chg0 hc,h.ok,h.w,h.h,h.gw,h.lo⟩
theorem Rv (w:World) (W H:Nat) (W0:0<W) (W1:W≤200) (H0:0<H) (H1:H≤60):Calls Tryz.prog 128 #[.int .i64 W,.int .i64 H] w
  (Ac fun v w'=>∃s M,v=.pointer (some ⟨s,0,none⟩)∧SNew w.heap.size w' s W H M∧M.S=Scr.new W H∧Chg [] w w'):=by
 refine(Ta w W H W0 W1 H0 H1).mono fun e w' h=>?_
 cases e with
 | returned v =>
  obtain⟨s,M,rfl,hA,hS,hc,h1,h2⟩:=h
  refine⟨s,M,rfl,⟨hA,by rw[hS];exact Scr.ok_new W0 W1 H0 H1,by rw[hS];rfl,by rw[hS];rfl,by rw[hS];simp [Scr.new],fun x hx=>?_⟩,hS,hc⟩
  rcases List.mem_cons.1 hx with rfl|hx
  ·exact h1
  ·exact h2 x hx
 | _=>exact h.elim
theorem SNew.gone {base:Nat} {w w':World} {s W H:Nat} {M:Scm} (h:SNew base w s W H M) (hA:SAt w' s { M with S:={ M.S with gone:=[] },gv:=.slice none 0 0,rows:=[] }):SNew base w' s W H { M with S:={ M.S with gone:=[] },gv:=.slice none 0 0,rows:=[] }:=by
 refine⟨hA,⟨h.ok.w0,h.ok.w1,h.ok.h0,h.ok.h1,h.ok.g0,h.ok.g1,h.ok.nx,h.ok.ny,h.ok.s0x,h.ok.s0y,h.ok.s1x,h.ok.s1y,h.ok.tf,h.ok.fh,h.ok.tl,by simp,by simp⟩,h.w,h.h,by simp,fun x hx=>?_⟩
 simp only[Scm.blk,Value.ownBlock,Option.toList_none,List.mem_cons,List.not_mem_nil,or_false] at hx
 rcases hx with rfl|rfl|rfl
 ·exact h.lo _ (by simp)
 ·exact h.lo _ (by simp [Scm.blk])
 ·exact h.lo _ (by simp [Scm.blk])
theorem SAt.act_off {w:World} {s:Nat} {M:Scm} (h:SAt w s M) {b0:Nat} {v:Value} {qs:List Act'} (ho:Ox b0 w 247 13 Act'.cells v qs):∀x∈s::M.blk,x∉v.ownBlock.toList:=by
 intro x hx hm
 have hm:v.ownBlock=some x:=by simpa using hm
 simp only[Scm.blk,List.mem_cons] at hx
 rcases hx with rfl|rfl|rfl|hx
 ·have hb:=h.hb
  unfold Scm.obj at hb
  exact ho.off hb rfl hm
 ·exact ho.off h.h0 rfl hm
 ·exact ho.off h.h1 rfl hm
 ·obtain⟨hl,hg⟩:=h.own
  rcases hg with ⟨hv,-⟩|⟨g,cap,cur,hv,-,hg,-⟩
  ·rw[hv] at hx;simp [Value.ownBlock] at hx
  ·rw[hv] at hx;simp [Value.ownBlock] at hx
   subst hx
   exact ho.off hg rfl hm
end Go.Proofs.YtelplojmbjnplaaGreatDoor
namespace Go.Proofs
open Go.Shelf
def Tryz.lays137_ren:Go.Shelf.Ren:=⟨fun|137=>88|217=>130|266=>172|n=>n,fun|9=>9|5=>5|3=>3|n=>n,fun|n=>n⟩
theorem Tryz.lays137:Go.Proofs.Lays.n137 Tryz.prog Tryz.lays137_ren:={
 mixed:=by kernel_rfl
 f137:=Tryz.func88.trans (congrArg some (by kernel_rfl))
 f217:=Tryz.func130.trans (congrArg some (by kernel_rfl))
 f266:=Tryz.func172.trans (congrArg some (by kernel_rfl))
 t3:=Tryz.underlying3
 a3:=Tryz.isAgg3
 z3:=Tryz.sizeOf3
 v3:=Tryz.zeroValue3
 t5:=Tryz.underlying5
 a5:=Tryz.isAgg5
 z5:=Tryz.sizeOf5
 v5:=Tryz.zeroValue5
 t9:=Tryz.underlying9
 a9:=Tryz.isAgg9
 z9:=Tryz.sizeOf9
 v9:=Tryz.zeroValue9 }
open Go.RowKit in
theorem Tryz.strings_IndexByte (s:ByteArray) (c:Int) (w:World) :
  Calls Tryz.prog 88 #[.string s,.int .u8 c] w fun e w'=>e=.returned (.int .i64 (Lib.indexByte s.data.toList c.toNat.toUInt8))∧w'=w:=Any.strings_IndexByte Tryz.lays137 s c w
def Tryz.laysM316_ren:Go.Shelf.Ren:=⟨fun|316=>194|n=>n,fun|9=>9|3=>3|4=>4|37=>47|0=>0|127=>241|5=>5|n=>n,fun|n=>n⟩
theorem Tryz.laysM316:Go.Proofs.LaysM.n316 Tryz.prog Tryz.laysM316_ren:={
 mixed:=by kernel_rfl
 f316:=Tryz.func194.trans (congrArg some (by kernel_rfl))
 t0:=Tryz.underlying0
 a0:=Tryz.isAgg0
 z0:=Tryz.sizeOf0
 v0:=Tryz.zeroValue0
 t3:=Tryz.underlying3
 a3:=Tryz.isAgg3
 z3:=Tryz.sizeOf3
 v3:=Tryz.zeroValue3
 t4:=Tryz.underlying4
 a4:=Tryz.isAgg4
 z4:=Tryz.sizeOf4
 v4:=Tryz.zeroValue4
 t9:=Tryz.underlying9
 a9:=Tryz.isAgg9
 z9:=Tryz.sizeOf9
 v9:=Tryz.zeroValue9
 t37:=Tryz.underlying47
 a37:=Tryz.isAgg47
 z37:=Tryz.sizeOf47
 v37:=Tryz.zeroValue47
 t127:=Tryz.underlying241
 a127:=Tryz.isAgg241
 z127:=Tryz.sizeOf241
 v127:=Tryz.zeroValue241
 t5:=Tryz.underlying5
 a5:=Tryz.isAgg5
 z5:=Tryz.sizeOf5
 v5:=Tryz.zeroValue5
 i0:=by kernel_rfl
 i3:=by kernel_rfl
 i4:=by kernel_rfl
 i5:=by kernel_rfl
 i9:=by kernel_rfl
 i37:=by kernel_rfl
 i127:=by kernel_rfl }
open Go.RowKit in
theorem Tryz.stringslite_Clone (s:ByteArray) (w:World) (hlim:s.size≤281474976710656) :
  Calls Tryz.prog 194 #[.string s] w fun e w'=>e=.returned (.string s)∧Below w.heap.size w w':=Any.stringslite_Clone Tryz.laysM316 s w hlim
def Tryz.lays189_ren:Go.Shelf.Ren:=⟨fun|189=>68|125=>113|257=>112|128=>153|129=>154|294=>144|295=>145|296=>146|297=>147|298=>148|299=>149|216=>150|300=>151|301=>152|328=>197|329=>198|330=>199|331=>200|332=>201|215=>202|343=>222|n=>n,fun|28=>40|3=>3|46=>71|0=>0|51=>268|53=>69|4=>4|183=>261|182=>260|131=>265|5=>5|9=>9|218=>296|222=>300|228=>313|229=>25|n=>n,fun|n=>n⟩
theorem Tryz.lays189:Go.Proofs.Lays.n189 Tryz.prog Tryz.lays189_ren:={
 mixed:=by kernel_rfl
 f125:=Tryz.func113.trans (congrArg some (by kernel_rfl))
 f128:=Tryz.func153.trans (congrArg some (by kernel_rfl))
 f129:=Tryz.func154.trans (congrArg some (by kernel_rfl))
 f189:=Tryz.func68.trans (congrArg some (by kernel_rfl))
 f215:=Tryz.func202.trans (congrArg some (by kernel_rfl))
 f216:=Tryz.func150.trans (congrArg some (by kernel_rfl))
 f257:=Tryz.func112.trans (congrArg some (by kernel_rfl))
 f294:=Tryz.func144.trans (congrArg some (by kernel_rfl))
 f295:=Tryz.func145.trans (congrArg some (by kernel_rfl))
 f296:=Tryz.func146.trans (congrArg some (by kernel_rfl))
 f297:=Tryz.func147.trans (congrArg some (by kernel_rfl))
 f298:=Tryz.func148.trans (congrArg some (by kernel_rfl))
 f299:=Tryz.func149.trans (congrArg some (by kernel_rfl))
 f300:=Tryz.func151.trans (congrArg some (by kernel_rfl))
 f301:=Tryz.func152.trans (congrArg some (by kernel_rfl))
 f328:=Tryz.func197.trans (congrArg some (by kernel_rfl))
 f329:=Tryz.func198.trans (congrArg some (by kernel_rfl))
 f330:=Tryz.func199.trans (congrArg some (by kernel_rfl))
 f331:=Tryz.func200.trans (congrArg some (by kernel_rfl))
 f332:=Tryz.func201.trans (congrArg some (by kernel_rfl))
 f343:=Tryz.func222.trans (congrArg some (by kernel_rfl))
 t0:=Tryz.underlying0
 a0:=Tryz.isAgg0
 z0:=Tryz.sizeOf0
 v0:=Tryz.zeroValue0
 t3:=Tryz.underlying3
 a3:=Tryz.isAgg3
 z3:=Tryz.sizeOf3
 v3:=Tryz.zeroValue3
 t4:=Tryz.underlying4
 a4:=Tryz.isAgg4
 z4:=Tryz.sizeOf4
 v4:=Tryz.zeroValue4
 t5:=Tryz.underlying5
 a5:=Tryz.isAgg5
 z5:=Tryz.sizeOf5
 v5:=Tryz.zeroValue5
 t9:=Tryz.underlying9
 a9:=Tryz.isAgg9
 z9:=Tryz.sizeOf9
 v9:=Tryz.zeroValue9
 t28:=Tryz.underlying40
 a28:=Tryz.isAgg40
 z28:=Tryz.sizeOf40
 v28:=Tryz.zeroValue40
 t46:=Tryz.underlying71
 a46:=Tryz.isAgg71
 z46:=Tryz.sizeOf71
 v46:=Tryz.zeroValue71
 t51:=Tryz.underlying268
 a51:=Tryz.isAgg268
 z51:=Tryz.sizeOf268
 v51:=Tryz.zeroValue268
 t53:=Tryz.underlying69
 a53:=Tryz.isAgg69
 z53:=Tryz.sizeOf69
 v53:=Tryz.zeroValue69
 t131:=Tryz.underlying265
 a131:=Tryz.isAgg265
 z131:=Tryz.sizeOf265
 v131:=Tryz.zeroValue265
 t182:=Tryz.underlying260
 a182:=Tryz.isAgg260
 z182:=Tryz.sizeOf260
 v182:=Tryz.zeroValue260
 t183:=Tryz.underlying261
 a183:=Tryz.isAgg261
 z183:=Tryz.sizeOf261
 v183:=Tryz.zeroValue261
 t218:=Tryz.underlying296
 a218:=Tryz.isAgg296
 z218:=Tryz.sizeOf296
 v218:=Tryz.zeroValue296
 t222:=Tryz.underlying300
 a222:=Tryz.isAgg300
 z222:=Tryz.sizeOf300
 v222:=Tryz.zeroValue300
 t228:=Tryz.underlying313
 a228:=Tryz.isAgg313
 z228:=Tryz.sizeOf313
 v228:=Tryz.zeroValue313
 t229:=Tryz.underlying25
 a229:=Tryz.isAgg25
 z229:=Tryz.sizeOf25
 v229:=Tryz.zeroValue25 }
open Go.Sort Go.RowKit in
theorem Tryz.slices_Sort_int (blk off cap:Nat) (zs:List Int) (w:World) (hH:Holds (Value.int .i64) w blk off zs.toArray) (hblk:blk<w.heap.size) (hsz:zs.length<4611686018427387904) :
  Calls Tryz.prog 68 #[.slice (some ⟨blk,off,none⟩) zs.length cap] w fun e w' =>
   e=.returned (.tuple #[])∧∃n os,w'=grow (putRow (Value.int .i64) (Sort.ahead w n) blk off (zs.mergeSort fun x y=>decide (x≤y)).toArray) os:=Any.slices_Sort_int Tryz.lays189 blk off cap zs w hH hblk hsz
open Go.RowKit Go.Sort in
theorem Tryz.slices_Sort_int_none (p:Option Addr) (cap:Nat) (w:World) :
  Calls Tryz.prog 68 #[.slice p 0 cap] w fun e w'=>e=.returned (.tuple #[])∧w'=w:=Any.slices_Sort_int_none Tryz.lays189 p cap w
end Go.Proofs
namespace Lyc
open Go
section
variable {P:Program}
def Aq (l:List UInt8):ByteArray:=⟨l.toArray⟩
def Cw (b:UInt8):List Value:=[.int .u8 b.toNat]
theorem P0 (b:UInt8):(Cw b).length=1:=rfl
theorem Rz (b:UInt8):AP (Cw b)=true:=rfl
theorem X2 (l:List UInt8):l.flatMap Cw=l.map fun b=>.int .u8 b.toNat:=by
 induction l with
 | nil=>rfl
 | cons b l ih=>simp [Cw,ih]
@[go_sem] theorem Rp (l:List UInt8):(Aq l).size=l.length:=by simp [Aq,ByteArray.size]
@[go_sem] theorem cJ (l:List UInt8):(Aq l).toList=l:=by rw[ByteArray.toList_eq];rfl
@[go_sem] theorem bu (a b:List UInt8):Aq a++Aq b=Aq (a++b):=by
 apply ByteArray.ext
 simp [Aq]
theorem Y6 (l:List UInt8):∀(acc:List UInt8),((l.map fun b:UInt8=>(b.toNat:Int)).foldl (fun(r:ByteArray) n=>r.push (UInt8.ofNat n.toNat)) (Aq acc))=Aq (acc++l):=by
 induction l with
 | nil=>intro acc;simp
 | cons b l ih =>
  intro acc
  simp only[List.map_cons,List.foldl_cons]
  have:(Aq acc).push (UInt8.ofNat ((b.toNat:Int)).toNat)=Aq (acc++[b]):=by
   apply ByteArray.ext
   simp [Aq]
  rw[this,ih];simp
def Hb (P:Program) (t:TypeId):Bool:=match P.underlying t with|some (.slice e)=>(match P.underlying e with|some (.int .u8)=>true|_=>false)|_=>false
theorem TN {t:TypeId} (h:Hb P t=true):∃e,P.underlying t=some (.slice e)∧P.underlying e=some (.int .u8):=by
 unfold Hb at h
 split at h
 ·rename_i e hu
  split at h
  ·rename_i hk;exact⟨e,hu,hk⟩
  ·simp at h
 ·simp at h
theorem V5 {s d ty:TypeId} {a:Option Addr} {l:List UInt8} {c:Nat} {e:Option TypeId} {K:Value→World→Prop} {w:World} (hs:Hb P s=true) (hd:Ag P d=some 3) (h:Sx w e Cw a l) :
  OpX P (.convert s d (.const (.slice a l.length c))) ty K w=K (.string (Aq l)) w:=by
 obtain⟨e0,h1,h2⟩:=TN hs
 refine AW fun ρ hg=>?_
 simp only[execOp,An,hg.1,Sem.run_bind]
 rw[run_convert_bytes_string w s d e0 a l.length c h1 h2 (GC hd)]
 have key:(Conv.bytesToString (.slice a l.length c)).run P w=.ok (.string (Aq l)) w:=by
  cases a with
  | none =>
   have hl:l=[]:=by
    cases l with
    | nil=>rfl
    | cons x l=>obtain⟨b,o,_,_,_,_,_,h,_⟩:=h.at_ (by simp);simp at h
   subst hl
   simp [Conv.bytesToString]
   rfl
  | some ad =>
   have hl:(loadCells ad l.length).run P w=.ok ((l.map fun b:UInt8=>(b.toNat:Int)).map (Value.int .u8)).toArray w:=by
    by_cases hn:l=[]
    ·subst hn;simp [loadCells,loadCellsFrom]
    ·obtain⟨b,o,c',e',fr,pre,post,h3,h4,h5,h6,h7⟩:=h.at_ hn
     cases h3
     have:=run_loadCells_list (P:=P) w ⟨b,o,none⟩ (l.flatMap Cw) (fun j v hj=>by
      rw[CG,cell?_at,h4,h6,CD]
      have hj':=(List.getElem?_eq_some_iff.1 hj).1
      rw[List.getElem?_toArray,List.append_assoc,List.getElem?_append_right (by omega),List.getElem?_append_left (by omega)]
      rw[←hj];congr 1;omega)
     rw[X2] at this
     simpa [Function.comp_def] using this
   rw[run_bytesToString w ad l.length c _ hl]
   have:=Y6 l []
   rw[show(ByteArray.empty)=Aq [] from rfl,this]
   simp
 rw[key]
 rfl
end
end Lyc
namespace Go.Proofs.YtelplojmbjnplaaGreatDoor
open Lyc Go
def Db (r:Int):List Value:=[.int .i32 r]
theorem Y7 (r:Int):(Db r).length=1:=rfl
theorem Yg (r:Int):AP (Db r)=true:=rfl
def asc (r:Int):Prop:=0≤r∧r≤127
instance (r:Int):Decidable (asc r):=by unfold asc;infer_instance
def ar (r:Int):UInt8:=UInt8.ofNat r.toNat
def shown (l:List Cel):List Int:=l.filterMap fun c=>if c.check then(if c.tail then none else some c.r) else some 63
def bJ (l:List Int):List Int:=(l.reverse.dropWhile (· == 32)).reverse
structure Tm where
 s:Nat
 h:Nat
 kept:List UInt8
 E:Esc
@[go_sem] def Tm.obj (T:Tm):Obj:=.cells #[.pointer (some ⟨T.s,0,none⟩),.string (Aq T.kept),.int .i64 T.E.inn,.int .u8 T.E.priv,.int .u8 T.E.mid,.int .i64 T.E.n,.int .i64 (T.E.nums.getD 0 0),.int .i64 (T.E.nums.getD 1 0),.int .i64 (T.E.nums.getD 2 0),.int .i64 (T.E.nums.getD 3 0),.int .i64 (T.E.nums.getD 4 0),.int .i64 (T.E.nums.getD 5 0),.int .i64 (T.E.nums.getD 6 0),.int .i64 (T.E.nums.getD 7 0),.pointer (some ⟨T.h,0,none⟩)] 163
theorem BY {w:World} {t:Nat} (o:Obj) (hl:t<w.heap.size):(Ab w t o).heap[t]?=some o:=Au _ _ _ _ rfl hl
theorem DM {w:World} {t:Nat} {T:Tm} (h:w.heap[t]?=some T.obj):Calls Tryz.prog 190 #[.pointer (some ⟨t,2,none⟩)] w
  (Ac fun _ w'=>w'.heap[t]?=some ({ T with E:=Esc.new }:Tm).obj∧Chg [t] w w'):=by
 have hl:=Aa h
 apply Rl
 intro K hK
 unfold Od
 simp -dsimp (disch:=first|omega|(simp only[go_sem,seval];try omega))only[go_sem,seval,h]
 refine hK _ _ ⟨?_,(Chg.refl _ _).set _ _ (.inl (by simp))⟩
 rw[BY _ hl]
 rfl
def Gf (t:Nat) (T:Tm) (p:Esc × Option Act') (w:World) (v:Value) (w':World):Prop :=
 v=.tuple #[(p.2.getD noA).val,.bool p.2.isSome]∧w'.heap[t]?=some ({ T with E:=p.1 }:Tm).obj∧Chg [t] w w'
structure EscR (t z:Nat) (T:Tm) (p:Esc × Option Act') (w w4:World):Prop where
 a:w4.heap[t]?=some ({ T with E:=p.1 }:Tm).obj
 b:w4.heap[z]?=some (.cells noA.cells.toArray 247)
 c:Chg [t] w w4
 d:p.2=none
theorem Xm {w:World} {t:Nat} {T:Tm} (h:w.heap[t]?=some T.obj) (r:Int):Calls Tryz.prog 191 #[.pointer (some ⟨t,2,none⟩),.int .i32 r] w
  (Ac (Gf t T (T.E.escape r) w)):=by
 have hl:=Aa h
 apply RV
 intro K hK
 unfold JW
 simp -dsimp (disch:=first|omega|(simp only[go_sem,seval];try omega))only[go_sem,seval,h]
 obtain⟨w1,hw1⟩:∃w1,w1=w.alloc (.cells noA.cells.toArray 247):=⟨_,rfl⟩
 have hc1:Chg [] w w1:=by rw[hw1];exact AE _ _
 have ho1:w1.heap[w.heap.size]?=some (.cells noA.cells.toArray 247):=by rw[hw1];simp -dsimp (disch:=first|omega|(simp only[go_sem,seval];try omega))only[go_sem,seval]
 simp only[noA,Act'.cells] at hw1
 rw[←hw1]
 clear hw1
 have h1:=hc1.keep h (by simp)
 have hl1:=Aa h1
 have hlo:=Aa ho1
 obtain⟨p,hp⟩:∃p,p=T.E.escape r:=⟨_,rfl⟩
 rw[←hp] at hK
 unfold Esc.escape at hp
 have fin:∀w4:World,w4.heap[t]?=some ({ T with E:=p.1 }:Tm).obj→w4.heap[w.heap.size]?=some (.cells noA.cells.toArray 247)→Chg [t] w w4→p.2=none →
   OpX Tryz.prog (.build 247 #[]) 247 (fun t76=>xS 247 (.pointer (some ⟨w.heap.size,0,none⟩)) t76 (xD 247 (.pointer (some ⟨w.heap.size,0,none⟩)) fun t4_1=>K (.tuple #[t4_1,.bool false]))) w4:=by
  intro w4 a b c d
  have hl4:=Aa b
  simp -dsimp (disch:=first|omega|(simp only[go_sem,seval];try omega))only[go_sem,seval,b,noA]
  refine hK _ _ ⟨by rw[d];rfl,?_,c.set _ _ (.inr (Nat.le_refl _))⟩
  rw[AZ _ _ _ _ (by omega)]
  exact a
 have chS:∀o:Obj,Chg [t] w (Ab w1 t o):=fun o=>(hc1.mono (by simp)).set _ _ (.inl (by simp))
 have keS:∀o:Obj,(Ab w1 t o).heap[w.heap.size]?=some (.cells noA.cells.toArray 247):=fun o=>by rw[AZ _ _ _ _ (by omega)];exact ho1
 refine Join0.cut (EscR t w.heap.size T p w) ?_ (fun w4 ⟨a,b,c,d⟩=>fin w4 a b c d)
 refine Join1.cut (fun v w'=>v=.bool (decide (r≤47∧T.E.mid=0))∧w'=w1) ?_ ?_
 ·simp -dsimp (disch:=first|omega|(simp only[go_sem,seval];try omega))only[go_sem,seval]
  refine BrW.dec (fun g=>?_) (fun g=>⟨congrArg Value.bool (decide_eq_false (by omega)).symm,rfl⟩)
  simp -dsimp (disch:=first|omega|(simp only[go_sem,seval];try omega))only[go_sem,seval]
  exact congrArg Value.bool (decide_eq_decide.2 ⟨fun h=>⟨g,h⟩,fun h=>h.2⟩)
 rintro v w2 ⟨rfl,rfl⟩
 refine BrW.dec (fun g1=>?_) (fun g1=>?_)
 ·rw[if_pos g1] at hp
  subst hp
  simp -dsimp (disch:=first|omega|(simp only[go_sem,seval];try omega))only[go_sem,seval,h1]
  exact⟨BY _ hl1,keS _,chS _,rfl⟩
 rw[if_neg g1] at hp
 simp -dsimp (disch:=first|omega|(simp only[go_sem,seval];try omega))only[go_sem,seval]
 refine BrW.dec (fun g2=>?_) (fun g2=>?_)
 ·rw[if_pos g2] at hp
  subst hp
  simp -dsimp (disch:=first|omega|(simp only[go_sem,seval];try omega))only[go_sem,seval,h1]
  exact⟨BY _ hl1,keS _,chS _,rfl⟩
 rw[if_neg g2] at hp
 refine Join1.cut (fun v w'=>v=.bool (decide (r=91∧T.E.mid=0))∧w'=w2) ?_ ?_
 ·simp -dsimp (disch:=first|omega|(simp only[go_sem,seval];try omega))only[go_sem,seval]
  refine BrW.dec (fun g=>?_) (fun g=>⟨congrArg Value.bool (decide_eq_false (by omega)).symm,rfl⟩)
  simp -dsimp (disch:=first|omega|(simp only[go_sem,seval];try omega))only[go_sem,seval]
  exact congrArg Value.bool (decide_eq_decide.2 ⟨fun h=>⟨g,h⟩,fun h=>h.2⟩)
 rintro v w3 ⟨rfl,rfl⟩
 refine BrW.dec (fun g3=>?_) (fun g3=>?_)
 ·rw[if_pos g3] at hp
  subst hp
  simp -dsimp (disch:=first|omega|(simp only[go_sem,seval];try omega))only[go_sem,seval,h1]
  exact⟨BY _ hl1,keS _,chS _,rfl⟩
 rw[if_neg g3] at hp
 refine Join1.cut (fun v w'=>v=.bool (decide ((r=80∨r=88∨93≤r∧r≤95)∧T.E.mid=0))∧w'=w3) ?_ ?_
 ·have fa:¬((r=80∨r=88∨93≤r∧r≤95)∧T.E.mid=0)→Value.bool false=Value.bool (decide ((r=80∨r=88∨93≤r∧r≤95)∧T.E.mid=0))∧w3=w3:=fun h=>⟨congrArg Value.bool (decide_eq_false h).symm,rfl⟩
  have md:(r=80∨r=88∨93≤r∧r≤95)→Value.bool (decide (T.E.mid=0))=Value.bool (decide ((r=80∨r=88∨93≤r∧r≤95)∧T.E.mid=0)):=fun h=>congrArg Value.bool (decide_eq_decide.2 ⟨fun k=>⟨h,k⟩,fun k=>k.2⟩)
  simp -dsimp (disch:=first|omega|(simp only[go_sem,seval];try omega))only[go_sem,seval]
  refine BrW.dec (fun g=>?_) (fun g=>?_)
  ·simp -dsimp (disch:=first|omega|(simp only[go_sem,seval];try omega))only[go_sem,seval]
   exact md (by omega)
  simp -dsimp (disch:=first|omega|(simp only[go_sem,seval];try omega))only[go_sem,seval]
  refine BrW.dec (fun g'=>?_) (fun g'=>?_)
  ·simp -dsimp (disch:=first|omega|(simp only[go_sem,seval];try omega))only[go_sem,seval]
   exact md (by omega)
  simp -dsimp (disch:=first|omega|(simp only[go_sem,seval];try omega))only[go_sem,seval]
  refine BrW.dec (fun g4=>?_) (fun g4=>fa (by omega))
  simp -dsimp (disch:=first|omega|(simp only[go_sem,seval];try omega))only[go_sem,seval]
  refine BrW.dec (fun g5=>?_) (fun g5=>fa (by omega))
  simp -dsimp (disch:=first|omega|(simp only[go_sem,seval];try omega))only[go_sem,seval]
  exact md (by omega)
 rintro v w4 ⟨rfl,rfl⟩
 refine BrW.dec (fun g4=>?_) (fun g4=>?_)
 ·rw[if_pos g4] at hp
  subst hp
  simp -dsimp (disch:=first|omega|(simp only[go_sem,seval];try omega))only[go_sem,seval,h1]
  exact⟨BY _ hl1,keS _,chS _,rfl⟩
 rw[if_neg g4] at hp
 refine Join1.cut (fun v w'=>v=.bool (decide (r≤126∧T.E.mid≠255))∧w'=w4) ?_ ?_
 ·simp -dsimp (disch:=first|omega|(simp only[go_sem,seval];try omega))only[go_sem,seval]
  refine BrW.dec (fun g=>?_) (fun g=>⟨congrArg Value.bool (decide_eq_false (by omega)).symm,rfl⟩)
  simp -dsimp (disch:=first|omega|(simp only[go_sem,seval];try omega))only[go_sem,seval]
  exact congrArg Value.bool (decide_eq_decide.2 ⟨fun h=>⟨g,h⟩,fun h=>h.2⟩)
 rintro v w5 ⟨rfl,rfl⟩
 refine BrW.dec (fun g5=>?_) (fun g5=>?_)
 ·rw[if_pos g5] at hp
  subst hp
  refine OpX.call Ek rfl (Calls.ret (DM h1) ?_)
  rintro v w6 ⟨h6,hc6⟩
  have ho6:=hc6.keep ho1 (by simp;omega)
  have hl6:=Aa ho6
  simp -dsimp (disch:=first|omega|(simp only[go_sem,seval];try omega))only[go_sem,seval,ho6,noA]
  refine hK _ _ ⟨rfl,?_,((hc1.mono (by simp)).trans hc6 (by simp)).set _ _ (.inr (Nat.le_refl _))⟩
  rw[AZ _ _ _ _ (by omega)]
  exact h6
 ·rw[if_neg g5] at hp
  subst hp
  refine OpX.call Ek rfl (Calls.ret (DM h1) ?_)
  rintro v w6 ⟨h6,hc6⟩
  exact⟨h6,hc6.keep ho1 (by simp;omega),(hc1.mono (by simp)).trans hc6 (by simp),rfl⟩
set_option maxHeartbeats 1000000 in
theorem PI {w:World} {t:Nat} {T:Tm} (h:w.heap[t]?=some T.obj) (ok:T.E.ok) (r:Int) (hr:A9 r):Calls Tryz.prog 192 #[.pointer (some ⟨t,2,none⟩),.int .i32 r] w
  (Ac (Gf t T (T.E.control r) w)):=by
 have hl:=Aa h
 have hr0:=hr.1
 have hr1:=hr.2
 apply Vh
 intro K hK
 unfold L0
 simp -dsimp (disch:=first|omega|(simp only[go_sem,seval];try omega))only[go_sem,seval]
 obtain⟨w1,hw1⟩:∃w1,w1=w.alloc (.cells noA.cells.toArray 247):=⟨_,rfl⟩
 have hc1:Chg [] w w1:=by rw[hw1];exact AE _ _
 have ho1:w1.heap[w.heap.size]?=some (.cells noA.cells.toArray 247):=by rw[hw1];simp -dsimp (disch:=first|omega|(simp only[go_sem,seval];try omega))only[go_sem,seval]
 simp only[noA,Act'.cells] at hw1
 rw[←hw1]
 clear hw1
 have h1:=hc1.keep h (by simp)
 have hl1:=Aa h1
 have hlo:=Aa ho1
 have hz1:=hc1.size
 obtain⟨p,hp⟩:∃p,p=T.E.control r:=⟨_,rfl⟩
 rw[←hp] at hK
 unfold Esc.control at hp
 have fin:∀w4:World,EscR t w.heap.size T p w w4 →
   OpX Tryz.prog (.build 247 #[]) 247 (fun t76=>xS 247 (.pointer (some ⟨w.heap.size,0,none⟩)) t76 (xD 247 (.pointer (some ⟨w.heap.size,0,none⟩)) fun t4_1=>K (.tuple #[t4_1,.bool false]))) w4:=by
  rintro w4 ⟨a,b,c,d⟩
  have hl4:=Aa b
  simp -dsimp (disch:=first|omega|(simp only[go_sem,seval];try omega))only[go_sem,seval,b,noA]
  refine hK _ _ ⟨by rw[d];rfl,?_,c.set _ _ (.inr (Nat.le_refl _))⟩
  rw[AZ _ _ _ _ (by omega)]
  exact a
 have chS:∀o:Obj,Chg [t] w (Ab w1 t o):=fun o=>(hc1.mono (by simp)).set _ _ (.inl (by simp))
 have keS:∀o:Obj,(Ab w1 t o).heap[w.heap.size]?=some (.cells noA.cells.toArray 247):=fun o=>by rw[AZ _ _ _ _ (by omega)];exact ho1
 refine Join0.cut (EscR t w.heap.size T p w) ?_ (fun w4 hw4=>fin w4 hw4)
 refine Join1.cut (fun v w'=>v=.bool (decide (48≤r∧r≤57∧T.E.mid=0))∧w'=w1) ?_ ?_
 ·simp -dsimp (disch:=first|omega|(simp only[go_sem,seval];try omega))only[go_sem,seval]
  refine BrW.dec (fun g=>?_) (fun g=>⟨congrArg Value.bool (decide_eq_false (by omega)).symm,rfl⟩)
  simp -dsimp (disch:=first|omega|(simp only[go_sem,seval];try omega))only[go_sem,seval]
  refine BrW.dec (fun g'=>?_) (fun g'=>⟨congrArg Value.bool (decide_eq_false (by omega)).symm,rfl⟩)
  simp -dsimp (disch:=first|omega|(simp only[go_sem,seval];try omega))only[go_sem,seval,h1]
  exact congrArg Value.bool (decide_eq_decide.2 ⟨fun h=>⟨g,g',h⟩,fun h=>h.2.2⟩)
 rintro v w2 ⟨rfl,rfl⟩
 refine BrW.dec (fun g1=>?_) (fun g1=>?_)
 ·rw[if_pos g1] at hp
  obtain⟨ts,th,kept,inn,priv,mid,n,nums⟩:=T
  have hlen:nums.length=8:=ok.len
  have hnk:∀x∈nums,0≤x∧x≤9999:=ok.k
  have hn9:n≤9:=ok.n9
  match nums,hlen with
  | [n0,n1,n2,n3,n4,n5,n6,n7],_ =>
  have k0:=hnk n0 (by simp)
  have k1:=hnk n1 (by simp)
  have k2:=hnk n2 (by simp)
  have k3:=hnk n3 (by simp)
  have k4:=hnk n4 (by simp)
  have k5:=hnk n5 (by simp)
  have k6:=hnk n6 (by simp)
  have k7:=hnk n7 (by simp)
  dsimp only at hp
  simp -dsimp (disch:=first|omega|(simp only[go_sem,seval];try omega))only[go_sem,seval,h1]
  refine BrW.dec (fun g2=>?_) (fun g2=>?_)
  ·rw[if_pos g2] at hp
   have hm:max n 1=1∨max n 1=2∨max n 1=3∨max n 1=4∨max n 1=5∨max n 1=6∨max n 1=7∨max n 1=8:=by omega
   rcases hm with hm|hm|hm|hm|hm|hm|hm|hm
   all_goals
    rw[hm] at hp ⊢
    subst hp
    simp only[List.getD_cons_zero,List.getD_cons_succ]
    simp -dsimp (disch:=first|omega|(simp only[go_sem,seval];try omega))only[go_sem,seval]
    exact⟨BY _ hl1,keS _,(chS _).drew,rfl⟩
  ·rw[if_neg g2] at hp
   subst hp
   exact⟨BY _ hl1,keS _,chS _,rfl⟩
 rw[if_neg g1] at hp
 refine Join1.cut (fun v w'=>v=.bool (decide ((r=58∨r=59)∧T.E.mid=0))∧w'=w2) ?_ ?_
 ·simp -dsimp (disch:=first|omega|(simp only[go_sem,seval];try omega))only[go_sem,seval]
  refine BrW.dec (fun g=>?_) (fun g=>?_)
  ·simp -dsimp (disch:=first|omega|(simp only[go_sem,seval];try omega))only[go_sem,seval,h1]
   exact congrArg Value.bool (decide_eq_decide.2 ⟨fun h=>⟨.inl g,h⟩,fun h=>h.2⟩)
  simp -dsimp (disch:=first|omega|(simp only[go_sem,seval];try omega))only[go_sem,seval]
  refine BrW.dec (fun g'=>?_) (fun g'=>⟨congrArg Value.bool (decide_eq_false (by omega)).symm,rfl⟩)
  simp -dsimp (disch:=first|omega|(simp only[go_sem,seval];try omega))only[go_sem,seval,h1]
  exact congrArg Value.bool (decide_eq_decide.2 ⟨fun h=>⟨.inr g',h⟩,fun h=>h.2⟩)
 rintro v w3 ⟨rfl,rfl⟩
 refine BrW.dec (fun g2=>?_) (fun g2=>?_)
 ·rw[if_pos g2] at hp
  subst hp
  have n0:=ok.n0
  have n9:=ok.n9
  simp -dsimp (disch:=first|omega|(simp only[go_sem,seval];try omega))only[go_sem,seval,h1]
  exact⟨BY _ hl1,keS _,chS _,rfl⟩
 rw[if_neg g2] at hp
 refine Join1.cut (fun v w'=>v=.bool (decide (60≤r∧r≤63∧T.E.priv=0∧T.E.mid=0∧T.E.n=0))∧w'=w3) ?_ ?_
 ·have fa:¬(60≤r∧r≤63∧T.E.priv=0∧T.E.mid=0∧T.E.n=0)→Value.bool false=Value.bool (decide (60≤r∧r≤63∧T.E.priv=0∧T.E.mid=0∧T.E.n=0))∧w3=w3:=fun h=>⟨congrArg Value.bool (decide_eq_false h).symm,rfl⟩
  simp -dsimp (disch:=first|omega|(simp only[go_sem,seval];try omega))only[go_sem,seval]
  refine BrW.dec (fun a1=>?_) (fun a1=>fa (by omega))
  simp -dsimp (disch:=first|omega|(simp only[go_sem,seval];try omega))only[go_sem,seval]
  refine BrW.dec (fun a2=>?_) (fun a2=>fa (by omega))
  simp -dsimp (disch:=first|omega|(simp only[go_sem,seval];try omega))only[go_sem,seval,h1]
  refine BrW.dec (fun a3=>?_) (fun a3=>fa (by omega))
  simp -dsimp (disch:=first|omega|(simp only[go_sem,seval];try omega))only[go_sem,seval,h1]
  refine BrW.dec (fun a4=>?_) (fun a4=>fa (by omega))
  simp -dsimp (disch:=first|omega|(simp only[go_sem,seval];try omega))only[go_sem,seval,h1]
  exact congrArg Value.bool (decide_eq_decide.2 ⟨fun h=>⟨a1,a2,a3,a4,h⟩,fun h=>h.2.2.2.2⟩)
 rintro v w4 ⟨rfl,rfl⟩
 refine BrW.dec (fun g3=>?_) (fun g3=>?_)
 ·rw[if_pos g3] at hp
  subst hp
  simp -dsimp (disch:=first|omega|(simp only[go_sem,seval];try omega))only[go_sem,seval,h1]
  exact⟨BY _ hl1,keS _,chS _,rfl⟩
 rw[if_neg g3] at hp
 refine Join1.cut (fun v w'=>v=.bool (decide (r≤47∧T.E.mid=0))∧w'=w4) ?_ ?_
 ·simp -dsimp (disch:=first|omega|(simp only[go_sem,seval];try omega))only[go_sem,seval]
  refine BrW.dec (fun g=>?_) (fun g=>⟨congrArg Value.bool (decide_eq_false (by omega)).symm,rfl⟩)
  simp -dsimp (disch:=first|omega|(simp only[go_sem,seval];try omega))only[go_sem,seval,h1]
  exact congrArg Value.bool (decide_eq_decide.2 ⟨fun h=>⟨g,h⟩,fun h=>h.2⟩)
 rintro v w5 ⟨rfl,rfl⟩
 refine BrW.dec (fun g4=>?_) (fun g4=>?_)
 ·rw[if_pos g4] at hp
  subst hp
  simp -dsimp (disch:=first|omega|(simp only[go_sem,seval];try omega))only[go_sem,seval,h1]
  exact⟨BY _ hl1,keS _,chS _,rfl⟩
 rw[if_neg g4] at hp
 refine Join1.cut (fun v w'=>v=.bool (decide (64≤r∧r≤126))∧w'=w5) ?_ ?_
 ·simp -dsimp (disch:=first|omega|(simp only[go_sem,seval];try omega))only[go_sem,seval]
  refine BrW.dec (fun g=>?_) (fun g=>⟨congrArg Value.bool (decide_eq_false (by omega)).symm,rfl⟩)
  simp -dsimp (disch:=first|omega|(simp only[go_sem,seval];try omega))only[go_sem,seval]
  exact congrArg Value.bool (decide_eq_decide.2 ⟨fun h=>⟨g,h⟩,fun h=>h.2⟩)
 rintro v w6 ⟨rfl,rfl⟩
 refine BrW.dec (fun g5=>?_) (fun g5=>?_)
 ·rw[if_pos g5] at hp
  subst hp
  have n0:=ok.n0
  have n9:=ok.n9
  simp -dsimp (disch:=first|omega|(simp only[go_sem,seval];try omega))only[go_sem,seval]
  refine Join1.cut (fun v w'=>v=.pointer (some ⟨w6.heap.size,0,none⟩)∧w'.heap[w6.heap.size]?=some (.cells (CQ 4 r T.E.priv T.E.mid (min T.E.n 8) T.E.nums).cells.toArray 247)∧Chg [] w6 w') ?_ ?_
  ·simp -dsimp (maxSteps:=4000000) (disch:=first|omega|(simp only[go_sem,seval];try omega))only[go_sem,seval,h1]
   exact⟨rfl,(AE _ _).drew⟩
  rintro v w7 ⟨rfl,hA7,hc7⟩
  have h7:=hc7.keep h1 (by simp)
  have ho7:=hc7.keep ho1 (by simp)
  refine OpX.call Ek rfl (Calls.ret (DM h7) ?_)
  rintro v w8 ⟨h8,hc8⟩
  have ho8:=hc8.keep ho7 (by simp;omega)
  have hA8:=hc8.keep hA7 (by simp;omega)
  have hl8:=Aa ho8
  simp -dsimp (disch:=first|omega|(simp only[go_sem,seval];try omega))only[go_sem,seval,hA8,ho8,noA]
  refine hK _ _ ⟨rfl,?_,(((hc1.trans0 hc7).mono (by simp)).trans hc8 (by simp)).set _ _ (.inr (Nat.le_refl _))⟩
  rw[AZ _ _ _ _ (by omega)]
  exact h8
 ·rw[if_neg g5] at hp
  subst hp
  simp -dsimp (disch:=first|omega|(simp only[go_sem,seval];try omega))only[go_sem,seval,h1]
  exact⟨BY _ hl1,keS _,chS _,rfl⟩
theorem Pu {w:World} {t:Nat} {T:Tm} (h:w.heap[t]?=some T.obj) (ok:T.E.ok) (r:Int) (hr:A9 r):Calls Tryz.prog 139 #[.pointer (some ⟨t,2,none⟩),.int .i32 r] w
  (Ac (Gf t T (T.E.step r) w)):=by
 have hl:=Aa h
 have hr0:=hr.1
 have hr1:=hr.2
 apply PZ
 intro K hK
 unfold NZ
 simp -dsimp (disch:=first|omega|(simp only[go_sem,seval];try omega))only[go_sem,seval]
 obtain⟨w1,hw1⟩:∃w1,w1=w.alloc (.cells noA.cells.toArray 247):=⟨_,rfl⟩
 have hc1:Chg [] w w1:=by rw[hw1];exact AE _ _
 have ho1:w1.heap[w.heap.size]?=some (.cells noA.cells.toArray 247):=by rw[hw1];simp -dsimp (disch:=first|omega|(simp only[go_sem,seval];try omega))only[go_sem,seval]
 simp only[noA,Act'.cells] at hw1
 rw[←hw1]
 clear hw1
 have h1:=hc1.keep h (by simp)
 have hl1:=Aa h1
 have hlo:=Aa ho1
 have hz1:=hc1.size
 obtain⟨p,hp⟩:∃p,p=T.E.step r:=⟨_,rfl⟩
 rw[←hp] at hK
 unfold Esc.step at hp
 have fin:∀w4:World,EscR t w.heap.size T p w w4 →
   OpX Tryz.prog (.build 247 #[]) 247 (fun t76=>xS 247 (.pointer (some ⟨w.heap.size,0,none⟩)) t76 (xD 247 (.pointer (some ⟨w.heap.size,0,none⟩)) fun t4_1=>K (.tuple #[t4_1,.bool false]))) w4:=by
  rintro w4 ⟨a,b,c,d⟩
  have hl4:=Aa b
  simp -dsimp (disch:=first|omega|(simp only[go_sem,seval];try omega))only[go_sem,seval,b,noA]
  refine hK _ _ ⟨by rw[d];rfl,?_,c.set _ _ (.inr (Nat.le_refl _))⟩
  rw[AZ _ _ _ _ (by omega)]
  exact a
 have chS:∀o:Obj,Chg [t] w (Ab w1 t o):=fun o=>(hc1.mono (by simp)).set _ _ (.inl (by simp))
 have keS:∀o:Obj,(Ab w1 t o).heap[w.heap.size]?=some (.cells noA.cells.toArray 247):=fun o=>by rw[AZ _ _ _ _ (by omega)];exact ho1
 have same:p=(T.E,none)→EscR t w.heap.size T p w w1:=fun e=>by subst e;exact⟨h1,ho1,hc1.mono (by simp),rfl⟩
 have tell:∀(a:Act') (w4:World),p=(T.E,some a)→w4.heap[t]?=some T.obj→Chg [t] w w4→K (.tuple #[a.val,.bool true]) w4:=fun a w4 e b c=>hK _ _ ⟨by rw[e];rfl,by rw[e];exact b,c⟩
 have rst:∀(w4:World),(w4.heap[t]?=some ({ T with E:=Esc.new }:Tm).obj∧Chg [t] w1 w4)→p=(Esc.new,none)→EscR t w.heap.size T p w w4:=fun w4 h4 e=>by
  subst e
  exact⟨h4.1,h4.2.keep ho1 (by simp;omega),(hc1.mono (by simp)).trans h4.2 (by simp),rfl⟩
 refine BrW.dec (fun g1=>?_) (fun g1=>?_)
 ·rw[if_pos g1] at hp
  simp -dsimp (disch:=first|omega|(simp only[go_sem,seval];try omega))only[go_sem,seval,h1,ho1,noA]
  refine hK _ _ ⟨by rw[hp];rfl,?_,(chS _).set _ _ (.inr (Nat.le_refl _))⟩
  rw[AZ _ _ _ _ (by omega),BY _ hl1,hp]
  rfl
 rw[if_neg g1] at hp
 refine Join1.cut (fun v w'=>v=.bool (decide (r=24∨r=26))∧w'=w1) ?_ ?_
 ·simp -dsimp (disch:=first|omega|(simp only[go_sem,seval];try omega))only[go_sem,seval]
  refine BrW.dec (fun g=>⟨congrArg Value.bool (decide_eq_true (by omega)).symm,rfl⟩) (fun g=>?_)
  simp -dsimp (disch:=first|omega|(simp only[go_sem,seval];try omega))only[go_sem,seval]
  exact congrArg Value.bool (decide_eq_decide.2 ⟨fun h=>.inr h,fun h=>by omega⟩)
 rintro v w2 ⟨rfl,rfl⟩
 refine BrW.dec (fun g2=>?_) (fun g2=>?_)
 ·rw[if_pos g2] at hp
  refine OpX.call Ek rfl (Calls.ret (DM h1) ?_)
  rintro v w3 h3
  exact fin _ (rst _ h3 hp)
 rw[if_neg g2] at hp
 refine Join1.cut (fun v w'=>v=.bool (decide (r<0∨127≤r∧r≤159∨1114111<r))∧w'=w2) ?_ ?_
 ·have tr:(r<0∨127≤r∧r≤159∨1114111<r)→Value.bool true=Value.bool (decide (r<0∨127≤r∧r≤159∨1114111<r))∧w2=w2:=fun h=>⟨congrArg Value.bool (decide_eq_true h).symm,rfl⟩
  simp -dsimp (disch:=first|omega|(simp only[go_sem,seval];try omega))only[go_sem,seval]
  refine BrW.dec (fun a1=>tr (by omega)) (fun a1=>?_)
  simp -dsimp (disch:=first|omega|(simp only[go_sem,seval];try omega))only[go_sem,seval]
  refine BrW.dec (fun a2=>?_) (fun a2=>?_)
  ·simp -dsimp (disch:=first|omega|(simp only[go_sem,seval];try omega))only[go_sem,seval]
   refine BrW.dec (fun a3=>tr (by omega)) (fun a3=>?_)
   simp -dsimp (disch:=first|omega|(simp only[go_sem,seval];try omega))only[go_sem,seval]
   exact congrArg Value.bool (decide_eq_decide.2 ⟨fun h=>by omega,fun h=>by omega⟩)
  ·simp -dsimp (disch:=first|omega|(simp only[go_sem,seval];try omega))only[go_sem,seval]
   exact congrArg Value.bool (decide_eq_decide.2 ⟨fun h=>by omega,fun h=>by omega⟩)
 rintro v w3 ⟨rfl,rfl⟩
 refine BrW.dec (fun g3=>?_) (fun g3=>?_)
 ·rw[if_pos g3] at hp
  exact fin _ (same hp)
 rw[if_neg g3] at hp
 refine Join1.cut (fun v w'=>v=.bool (decide (r<32∧T.E.inn=4))∧w'=w3) ?_ ?_
 ·simp -dsimp (disch:=first|omega|(simp only[go_sem,seval];try omega))only[go_sem,seval]
  refine BrW.dec (fun g=>?_) (fun g=>⟨congrArg Value.bool (decide_eq_false (by omega)).symm,rfl⟩)
  simp -dsimp (disch:=first|omega|(simp only[go_sem,seval];try omega))only[go_sem,seval,h1]
  exact congrArg Value.bool (decide_eq_decide.2 ⟨fun h=>⟨g,h⟩,fun h=>h.2⟩)
 rintro v w4 ⟨rfl,rfl⟩
 refine BrW.dec (fun g4=>?_) (fun g4=>?_)
 ·rw[if_pos g4] at hp
  refine Join0.cut (EscR t w.heap.size T p w) ?_ (fun w5 hw5=>fin w5 hw5)
  simp -dsimp (disch:=first|omega|(simp only[go_sem,seval];try omega))only[go_sem,seval]
  refine BrW.dec (fun g5=>?_) (fun g5=>?_)
  ·rw[if_pos g5] at hp
   refine OpX.call Ek rfl (Calls.ret (DM h1) ?_)
   rintro v w5 h5
   exact rst _ h5 hp
  ·rw[if_neg g5] at hp
   exact same hp
 rw[if_neg g4] at hp
 simp -dsimp (disch:=first|omega|(simp only[go_sem,seval];try omega))only[go_sem,seval]
 refine BrW.dec (fun g5=>?_) (fun g5=>?_)
 ·rw[if_pos g5] at hp
  simp -dsimp (disch:=first|omega|(simp only[go_sem,seval];try omega))only[go_sem,seval,noA,ho1]
  refine tell (CQ 2 r 0 0 0 DN) _ hp ?_ ((hc1.mono (by simp)).set _ _ (.inr (Nat.le_refl _)))
  rw[AZ _ _ _ _ (by omega)]
  exact h1
 rw[if_neg g5] at hp
 refine Join0.cut (EscR t w.heap.size T p w) ?_ (fun w5 hw5=>fin w5 hw5)
 simp -dsimp (disch:=first|omega|(simp only[go_sem,seval];try omega))only[go_sem,seval,h1]
 refine BrW.dec (fun g6=>?_) (fun g6=>?_)
 ·rw[if_pos g6] at hp
  simp -dsimp (disch:=first|omega|(simp only[go_sem,seval];try omega))only[go_sem,seval,noA,ho1]
  refine tell (CQ 1 r 0 0 0 DN) _ hp ?_ ((hc1.mono (by simp)).set _ _ (.inr (Nat.le_refl _)))
  rw[AZ _ _ _ _ (by omega)]
  exact h1
 rw[if_neg g6] at hp
 have told:∀(q:Esc × Option Act') (w5:World) (v:Value),p=q→Gf t T q w4 v w5→∃a:Act',v=.tuple #[a.val,.bool q.2.isSome]∧K v (Ab w5 w.heap.size (.cells a.cells.toArray 247)):=by
  rintro q w5 v rfl ⟨rfl,b,c⟩
  have hb5:=c.keep ho1 (by simp;omega)
  refine⟨p.2.getD noA,rfl,hK _ _ ⟨rfl,?_,((hc1.mono (by simp)).trans c (by simp)).set _ _ (.inr (Nat.le_refl _))⟩⟩
  rw[AZ _ _ _ _ (by omega)]
  exact b
 simp -dsimp (disch:=first|omega|(simp only[go_sem,seval];try omega))only[go_sem,seval]
 refine BrW.dec (fun g7=>?_) (fun g7=>?_)
 ·rw[if_pos g7] at hp
  refine OpX.call WB rfl (Calls.ret (Xm h1 r) ?_)
  rintro v w5 hs
  have hb5:=hs.2.2.keep ho1 (by simp;omega)
  obtain⟨a,rfl,hk⟩:=told _ w5 v hp hs
  have hl5:=Aa hb5
  simp -dsimp (disch:=first|omega|(simp only[go_sem,seval];try omega))only[go_sem,seval,hb5,noA]
  exact hk
 rw[if_neg g7] at hp
 simp -dsimp (disch:=first|omega|(simp only[go_sem,seval];try omega))only[go_sem,seval]
 refine BrW.dec (fun g8=>?_) (fun g8=>?_)
 ·rw[if_pos g8] at hp
  refine OpX.call Ui rfl (Calls.ret (PI h1 ok r hr) ?_)
  rintro v w5 hs
  have hb5:=hs.2.2.keep ho1 (by simp;omega)
  obtain⟨a,rfl,hk⟩:=told _ w5 v hp hs
  have hl5:=Aa hb5
  simp -dsimp (disch:=first|omega|(simp only[go_sem,seval];try omega))only[go_sem,seval,hb5,noA]
  exact hk
 rw[if_neg g8] at hp
 simp -dsimp (disch:=first|omega|(simp only[go_sem,seval];try omega))only[go_sem,seval]
 refine BrW.dec (fun g9=>?_) (fun g9=>?_)
 ·rw[if_pos g9] at hp
  refine Join1.cut (fun v w'=>v=.bool (decide (64≤r∧r≤126))∧w'=w4) ?_ ?_
  ·simp -dsimp (disch:=first|omega|(simp only[go_sem,seval];try omega))only[go_sem,seval]
   refine BrW.dec (fun g=>?_) (fun g=>⟨congrArg Value.bool (decide_eq_false (by omega)).symm,rfl⟩)
   simp -dsimp (disch:=first|omega|(simp only[go_sem,seval];try omega))only[go_sem,seval]
   exact congrArg Value.bool (decide_eq_decide.2 ⟨fun h=>⟨g,h⟩,fun h=>h.2⟩)
  rintro v w5 ⟨rfl,rfl⟩
  refine BrW.dec (fun g10=>?_) (fun g10=>?_)
  ·rw[if_pos g10] at hp
   refine OpX.call Ek rfl (Calls.ret (DM h1) ?_)
   rintro v w6 h6
   exact rst _ h6 hp
  ·rw[if_neg g10] at hp
   exact same hp
 ·rw[if_neg g9] at hp
  exact same hp
theorem UI {w:World} {t:Nat} {T:Tm} (h:w.heap[t]?=some T.obj) (ok:T.E.ok) {e:Option TypeId} {a:Option Addr} {l:List Int} (hs:Sx w e Db a l) (hp:∀b o,a=some ⟨b,o,none⟩→l≠[]→b≠t) (cap:Nat) (hl:l.length≤1000000) (hr:∀x∈l,A9 x) :
  Calls Tryz.prog 101 #[.pointer (some ⟨t,2,none⟩),.slice a l.length cap] w
  (Ac fun v w'=>Ox w.heap.size w' 247 13 Act'.cells v (T.E.feed l).2∧w'.heap[t]?=some ({ T with E:=(T.E.feed l).1 }:Tm).obj∧Chg [t] w w'):=by
 have hlp:=Aa h
 apply Tn
 intro K hK
 unfold M6
 simp -dsimp (disch:=first|omega|(simp only[go_sem,seval];try omega))only[go_sem,seval]
 refine Loop2.st (fun s:Nat × Value=>s.2) (fun s=>.int .i64 s.1) (fun s w'=>s.1≤l.length∧Ox w.heap.size w' 247 13 Act'.cells s.2 (T.E.feed (l.take s.1)).2∧w'.heap[t]?=some ({ T with E:=(T.E.feed (l.take s.1)).1 }:Tm).obj∧Chg [t] w w') (fun s=>l.length-s.1) (0,.slice none 0 0) rfl rfl ⟨by simp,Ox.nil _ _ _ _ _,h,Chg.refl _ _⟩ ?_
 rintro next ⟨k,v⟩ w' hn ⟨hk,ho,hb',hc⟩
 dsimp only at hk ho hb' ⊢
 simp -dsimp (disch:=first|omega|(simp only[go_sem,seval];try omega))only[go_sem,seval]
 refine BrW.dec (fun h1=>?_) (fun h1=>?_)
 ·have hk':k<l.length:=by omega
  obtain⟨b,o,rfl,hbl,hcell⟩:=(hs.chg hc (fun b o ha hne=>by simp;exact hp b o ha hne)).get1 (g:=fun n=>.int .i32 n) (fun _=>rfl) (List.getElem?_eq_getElem hk')
  have hrr:=hr _ (List.getElem_mem hk')
  obtain⟨okE,-,hlq⟩:=Esc.feed_ok ok (l:=l.take k) (fun x hx=>hr x (List.mem_of_mem_take hx))
  have hlq':(T.E.feed (l.take k)).2.length≤1000000:=by rw[List.length_take] at hlq;omega
  have hfe:T.E.feed (l.take (k+1))=(((T.E.feed (l.take k)).1.step l[k]).1,(T.E.feed (l.take k)).2++((T.E.feed (l.take k)).1.step l[k]).2.toList):=by
   rw[Du hk',Esc.feed_append]
   simp [Esc.feed]
  obtain⟨F,hF⟩:∃F,F=T.E.feed (l.take k):=⟨_,rfl⟩
  rw[←hF] at ho hb' okE hfe hlq'
  obtain⟨p,hpp⟩:∃p,p=F.1.step l[k]:=⟨_,rfl⟩
  rw[←hpp] at hfe
  refine Join1.cut (fun u w2=>Ox w.heap.size w2 247 13 Act'.cells u (F.2++p.2.toList)∧w2.heap[t]?=some ({ T with E:=p.1 }:Tm).obj∧Chg [t] w w2) ?_ ?_
  ·simp -dsimp (disch:=first|omega|(simp only[go_sem,seval];try omega))only[go_sem,seval,hcell]
   refine OpX.call Zi rfl (Calls.ret (Pu hb' okE l[k] hrr) ?_)
   rintro v1 w1 hst
   dsimp only at hst
   rw[←hpp] at hst
   obtain⟨rfl,hb1,hc1⟩:=hst
   have ho1:=ho.low hc1 (by simp;omega)
   have hc01:=hc.trans hc1 (fun x hx=>.inl hx)
   have hz:=hc01.size
   obtain⟨A,hA⟩:∃A,A=p.2.getD noA:=⟨_,rfl⟩
   rw[←hA]
   simp -dsimp (disch:=first|omega|(simp only[go_sem,seval];try omega))only[go_sem,seval]
   obtain⟨w2,hw2⟩:∃w2,w2=Ab (w1.alloc (.cells noA.cells.toArray 247)) w1.heap.size (.cells A.cells.toArray 247):=⟨_,rfl⟩
   have hc2:Chg [] w1 w2:=by rw[hw2];exact(AE _ _).set _ _ (.inr (Nat.le_refl _))
   have hA2:w2.heap[w1.heap.size]?=some (.cells A.cells.toArray 247):=by rw[hw2];exact BY _ (by simp -dsimp (disch:=first|omega|(simp only[go_sem,seval];try omega))only[go_sem,seval];omega)
   simp only[noA,Act'.cells] at hw2
   rw[←hw2]
   clear hw2
   have hb2:=hc2.keep hb1 (by simp)
   have ho2:=ho1.chg0 hc2
   have hz2:=hc2.size
   cases hpo:p.2 with
   | none =>
    refine BrW.by (fun h=>by simp at h) (fun _=>⟨?_,hb2,hc01.trans0 hc2⟩)
    simpa using ho2
   | some A' =>
    rw[hpo] at hA
    have hA':A=A':=hA
    subst hA'
    refine BrW.by (fun _=>?_) (fun h=>by simp at h)
    simp -dsimp (disch:=first|omega|(simp only[go_sem,seval];try omega))only[go_sem,seval,hA2]
    refine BL (l2:=[A]) UD Act'.len Act'.ok (ho2.chg0 (AE _ _)) (Sx.built (c:=A.cells) (by simp -dsimp (disch:=first|omega|(simp only[go_sem,seval];try omega))only[go_sem,seval];rfl) (by simp)) rfl (by simp;omega) (by omega) (by simp -dsimp (disch:=first|omega|(simp only[go_sem,seval];try omega))only[go_sem,seval];omega) ?_
    intro v' w3 ho3 hc3 _
    have hca:Chg v.ownBlock.toList w2 w3:=((Chg.refl _ w2).alloc _).trans hc3 (fun x hx=>.inl hx)
    have hlow:=ho2.own_ge
    exact⟨ho3,hca.keep hb2 (fun hm=>by have:=hlow _ hm;omega),Kl ho2 (Nat.le_refl _) (hc01.trans0 hc2) hca⟩
  ·rintro u w2 ⟨ho2,hb2,hc2⟩
   have e1:(k:Int)+1=((k+1:Nat):Int):=by omega
   (try simp -dsimp (disch:=first|omega|(simp only[go_sem,seval];try omega))only[go_sem,seval,e1])
   refine hn (k+1,u) _ ⟨by dsimp only;omega,?_,?_,hc2⟩ (by dsimp only;omega)
   ·dsimp only;rw[hfe];exact ho2
   ·dsimp only;rw[hfe];exact hb2
 ·have:k=l.length:=by omega
  subst this
  rw[List.take_length] at ho hb'
  exact hK _ _ ⟨ho,hb',hc⟩
theorem Zt (l:List UInt8) (n:Nat):(Aq l)[n]?=l[n]?:=by
 by_cases h:n<l.length
 ·rw[getElem?_pos (Aq l) n (by simpa [Aq,ByteArray.size] using h),List.getElem?_eq_getElem h]
  rfl
 ·rw[getElem?_neg (Aq l) n (by simpa [Aq,ByteArray.size] using h),List.getElem?_eq_none (by omega)]
@[go_sem] theorem dq (l:List UInt8) (i:Int):chL (Aq l) i=if 0≤i then(l[i.toNat]?).map fun b=>Value.int .u8 b.toNat else none:=by
 unfold chL
 rw[Zt]
theorem GW (l:List UInt8) (i j:Nat):(Aq l).extract i j=Aq ((l.drop i).take (j-i)):=by
 apply ByteArray.ext
 simp [Aq,ByteArray.data_extract]
theorem X9 (w:World) (s:List UInt8) (h:s≠[]) (hl:s.length≤1000000):Calls Tryz.prog 193 #[.string (Aq s)] w
  (Ac fun v w'=>v=.tuple #[.int .i32 (first s).1,.int .i64 (first s).2.1,.bool (first s).2.2]∧w'=w):=by
 obtain⟨b,l,rfl⟩:∃b l,s=b::l:=by cases s with|nil=>exact absurd rfl h|cons b l=>exact⟨b,l,rfl⟩
 have hb:=b.toNat_lt
 obtain⟨p,hp⟩:∃p,p=first (b::l):=⟨_,rfl⟩
 rw[←hp]
 unfold first at hp
 simp only[List.getElem?_cons_zero] at hp
 apply XK
 intro K hK
 unfold N2
 simp -dsimp (disch:=first|omega|(simp only[go_sem,seval];try omega))only[go_sem,seval]
 refine Join2.cutK (fun v0 v1 w'=>v0=.int .i32 (C6 b.toNat)∧v1=.int .i64 (Bb b.toNat)∧Bb b.toNat≠0∧¬b.toNat≤127∧w'=w) ?_ ?_
 ·intro k1 hk1
  simp -dsimp (disch:=first|omega|(simp only[go_sem,seval];try omega))only[go_sem,seval]
  refine BrW.dec (fun g=>?_) (fun g=>?_)
  ·rw[if_pos (by omega)] at hp
   subst hp
   simp -dsimp (disch:=first|omega|(simp only[go_sem,seval];try omega))only[go_sem,seval]
   exact hK _ _ ⟨rfl,rfl⟩
  have g':¬b.toNat≤127:=by omega
  rw[if_neg g'] at hp
  refine Join1.cut (fun v w'=>v=.bool (decide (194≤b.toNat∧b.toNat≤223))∧w'=w) ?_ ?_
  ·simp -dsimp (disch:=first|omega|(simp only[go_sem,seval];try omega))only[go_sem,seval]
   refine BrW.dec (fun g=>?_) (fun g=>⟨congrArg Value.bool (decide_eq_false (by omega)).symm,rfl⟩)
   simp -dsimp (disch:=first|omega|(simp only[go_sem,seval];try omega))only[go_sem,seval]
   exact congrArg Value.bool (decide_eq_decide.2 ⟨fun h=>by omega,fun h=>by omega⟩)
  rintro v w1 ⟨rfl,rfl⟩
  refine BrW.dec (fun g1=>?_) (fun g1=>?_)
  ·have hm:Bb b.toNat=1:=by unfold Bb;rw[if_pos g1]
   simp -dsimp (disch:=first|omega|(simp only[go_sem,seval];try omega))only[go_sem,seval]
   refine hk1 _ _ _ ⟨?_,by rw[hm];rfl,by omega,g',rfl⟩
   unfold C6
   rw[hm]
   rfl
  refine Join1.cut (fun v w'=>v=.bool (decide (224≤b.toNat∧b.toNat≤239))∧w'=w1) ?_ ?_
  ·simp -dsimp (disch:=first|omega|(simp only[go_sem,seval];try omega))only[go_sem,seval]
   refine BrW.dec (fun g=>?_) (fun g=>⟨congrArg Value.bool (decide_eq_false (by omega)).symm,rfl⟩)
   simp -dsimp (disch:=first|omega|(simp only[go_sem,seval];try omega))only[go_sem,seval]
   exact congrArg Value.bool (decide_eq_decide.2 ⟨fun h=>by omega,fun h=>by omega⟩)
  rintro v w2 ⟨rfl,rfl⟩
  refine BrW.dec (fun g2=>?_) (fun g2=>?_)
  ·have hm:Bb b.toNat=2:=by unfold Bb;rw[if_neg g1,if_pos g2]
   simp -dsimp (disch:=first|omega|(simp only[go_sem,seval];try omega))only[go_sem,seval]
   refine hk1 _ _ _ ⟨?_,by rw[hm];rfl,by omega,g',rfl⟩
   unfold C6
   rw[hm]
   rfl
  refine Join1.cut (fun v w'=>v=.bool (decide (240≤b.toNat∧b.toNat≤244))∧w'=w2) ?_ ?_
  ·simp -dsimp (disch:=first|omega|(simp only[go_sem,seval];try omega))only[go_sem,seval]
   refine BrW.dec (fun g=>?_) (fun g=>⟨congrArg Value.bool (decide_eq_false (by omega)).symm,rfl⟩)
   simp -dsimp (disch:=first|omega|(simp only[go_sem,seval];try omega))only[go_sem,seval]
   exact congrArg Value.bool (decide_eq_decide.2 ⟨fun h=>by omega,fun h=>by omega⟩)
  rintro v w3 ⟨rfl,rfl⟩
  refine BrW.dec (fun g3=>?_) (fun g3=>?_)
  ·have hm:Bb b.toNat=3:=by unfold Bb;rw[if_neg g1,if_neg g2,if_pos g3]
   simp -dsimp (disch:=first|omega|(simp only[go_sem,seval];try omega))only[go_sem,seval]
   refine hk1 _ _ _ ⟨?_,by rw[hm];rfl,by omega,g',rfl⟩
   unfold C6
   rw[hm]
   rfl
  ·have hm:Bb b.toNat=0:=by unfold Bb;rw[if_neg g1,if_neg g2,if_neg g3]
   rw[if_pos hm] at hp
   subst hp
   exact hK _ _ ⟨rfl,rfl⟩
 rintro v0 v1 w1 ⟨rfl,rfl,hm,h127,rfl⟩
 rw[if_neg h127,if_neg hm] at hp
 refine Join2.cutK (fun v0 v1 w'=>v0=.int .u8 (DV b.toNat)∧v1=.int .u8 (Ee b.toNat)∧w'=w1) ?_ ?_
 ·intro k5 hk5
  unfold DV Ee at hk5
  simp -dsimp (disch:=first|omega|(simp only[go_sem,seval];try omega))only[go_sem,seval]
  refine BrW.dec (fun g=>?_) (fun g=>?_)
  ·exact hk5 _ _ _ ⟨by rw[if_pos (by omega)];rfl,by rw[if_neg (by omega),if_neg (by omega)];rfl,rfl⟩
  simp -dsimp (disch:=first|omega|(simp only[go_sem,seval];try omega))only[go_sem,seval]
  refine BrW.dec (fun g1=>?_) (fun g1=>?_)
  ·exact hk5 _ _ _ ⟨by rw[if_neg (by omega),if_neg (by omega)];rfl,by rw[if_pos (by omega)];rfl,rfl⟩
  simp -dsimp (disch:=first|omega|(simp only[go_sem,seval];try omega))only[go_sem,seval]
  refine BrW.dec (fun g2=>?_) (fun g2=>?_)
  ·exact hk5 _ _ _ ⟨by rw[if_neg (by omega),if_pos (by omega)];rfl,by rw[if_neg (by omega),if_neg (by omega)];rfl,rfl⟩
  simp -dsimp (disch:=first|omega|(simp only[go_sem,seval];try omega))only[go_sem,seval]
  refine BrW.dec (fun g3=>?_) (fun g3=>?_)
  ·exact hk5 _ _ _ ⟨by rw[if_neg (by omega),if_neg (by omega)];rfl,by rw[if_neg (by omega),if_pos (by omega)];rfl,rfl⟩
  ·exact hk5 _ _ _ ⟨by rw[if_neg (by omega),if_neg (by omega)];rfl,by rw[if_neg (by omega),if_neg (by omega)];rfl,rfl⟩
 rintro v2 v3 w2 ⟨rfl,rfl,rfl⟩
 have hm3:Bb b.toNat≤3:=by unfold Bb;split<;>(try split)<;>(try split)<;>omega
 refine Loop4.st (fun q:Int × Nat × Nat × Nat=>.int .i32 q.1) (fun q=>.int .i64 q.2.1) (fun q=>.int .u8 q.2.2.1) (fun q=>.int .u8 q.2.2.2)
  (fun q w'=>w'=w2∧q.2.1≤l.length+1∧q.2.1≤Bb b.toNat+1∧q.2.2.1≤255∧q.2.2.2≤255∧A9 q.1∧p=BF (b::l) (Bb b.toNat+1-q.2.1) q.1 q.2.1 q.2.2.1 q.2.2.2) (fun q=>10-q.2.1)
  (C6 b.toNat,1,DV b.toNat,Ee b.toNat) rfl rfl rfl rfl ⟨rfl,by dsimp only;omega,by dsimp only;omega,by dsimp only;unfold DV;split<;>(try split)<;>omega,by dsimp only;unfold Ee;split<;>(try split)<;>omega,OZ _,hp⟩ ?_
 rintro next ⟨r,n,lo,hi⟩ w3 hn ⟨rfl,hnl,hn1,hlo,hhi,hr,hpq⟩
 dsimp only at hnl hn1 hlo hhi hr hpq ⊢
 simp -dsimp (disch:=first|omega|(simp only[go_sem,seval];try omega))only[go_sem,seval]
 refine BrW.dec (fun g=>?_) (fun g=>?_)
 ·obtain⟨k,hk⟩:∃k,Bb b.toNat+1-n=k+1:=⟨Bb b.toNat-n,by omega⟩
  rw[hk] at hpq
  unfold BF at hpq
  simp -dsimp (disch:=first|omega|(simp only[go_sem,seval];try omega))only[go_sem,seval]
  refine BrW.dec (fun g1=>?_) (fun g1=>?_)
  ·have hnone:(b::l)[n]?=none:=List.getElem?_eq_none (by rw[List.length_cons];omega)
   rw[hnone] at hpq
   subst hpq
   exact hK _ _ ⟨rfl,rfl⟩
  ·have hlt:n<(b::l).length:=by rw[List.length_cons];omega
   obtain⟨c,hc⟩:∃c,(b::l)[n]?=some c:=⟨_,List.getElem?_eq_getElem hlt⟩
   have hcb:=c.toNat_lt
   rw[hc] at hpq
   dsimp only at hpq
   simp -dsimp (disch:=first|omega|(simp only[go_sem,seval];try omega))only[go_sem,seval,hc]
   refine Join1.cut (fun v w'=>v=.bool (decide (c.toNat<lo∨hi<c.toNat))∧w'=w3) ?_ ?_
   ·simp -dsimp (disch:=first|omega|(simp only[go_sem,seval];try omega))only[go_sem,seval]
    refine BrW.dec (fun g=>⟨congrArg Value.bool (decide_eq_true (by omega)).symm,rfl⟩) (fun g=>?_)
    simp -dsimp (disch:=first|omega|(simp only[go_sem,seval];try omega))only[go_sem,seval]
    exact congrArg Value.bool (decide_eq_decide.2 ⟨fun h=>by omega,fun h=>by omega⟩)
   rintro v w4 ⟨rfl,rfl⟩
   refine BrW.dec (fun g2=>?_) (fun g2=>?_)
   ·rw[if_pos g2] at hpq
    subst hpq
    exact hK _ _ ⟨rfl,rfl⟩
   ·rw[if_neg g2] at hpq
    have e1:(n:Int)+1=((n+1:Nat):Int):=by omega
    simp -dsimp (disch:=first|omega|(simp only[go_sem,seval];try omega))only[go_sem,seval,e1]
    refine hn (GI r c,n+1,128,191) _ ⟨rfl,by dsimp only;rw[List.length_cons] at hlt;omega,by dsimp only;omega,by dsimp only;omega,by dsimp only;omega,Jm _ _,?_⟩ (by dsimp only;omega)
    dsimp only
    rw[hpq,show Bb b.toNat+1-(n+1)=k by omega]
 ·have hk:Bb b.toNat+1-n=0:=by omega
  rw[hk] at hpq
  subst hpq
  exact hK _ _ ⟨rfl,rfl⟩
theorem V4 (w:World) (s:List UInt8) (hl:s.length≤1000000):Calls Tryz.prog 140 #[.string (Aq s)] w
  (Ac fun v w'=>∃u,v=.tuple #[u,.string (Aq (dec s).2)]∧Ox w.heap.size w' 21 1 Db u (dec s).1∧Chg [] w w'):=by
 apply Ve
 intro K hK
 unfold LG
 refine Join2.cut (fun v0 v1 w'=>v0=.string (Aq (dec s).2)∧Ox w.heap.size w' 21 1 Db v1 (dec s).1∧Chg [] w w') ?_ ?_
 ·refine Loop2.st (fun q:List UInt8 × Value × List Int=>.string (Aq q.1)) (fun q=>q.2.1) (fun q w'=>q.1.length≤s.length∧Ox w.heap.size w' 21 1 Db q.2.1 q.2.2∧q.2.2.length+q.1.length≤s.length∧dec s=(q.2.2++(dec q.1).1,(dec q.1).2)∧Chg [] w w') (fun q=>q.1.length) (s,.slice none 0 0,[]) rfl rfl ⟨Nat.le_refl _,Ox.nil _ _ _ _ _,by simp,by simp,Chg.refl _ _⟩ ?_
  rintro next ⟨q,u,l⟩ w1 hn ⟨hq,ho,hlq,hd,hc⟩
  dsimp only at hq ho hlq hd ⊢
  simp -dsimp (disch:=first|omega|(simp only[go_sem,seval];try omega))only[go_sem,seval]
  refine BrW.dec (fun g=>?_) (fun g=>?_)
  ·have hne:q≠[]:=by rintro rfl;simp at g
   have hf:=Em q hne
   refine OpX.call Qi rfl (Calls.ret (X9 w1 q hne (by omega)) ?_)
   rintro v w2 ⟨rfl,rfl⟩
   simp -dsimp (disch:=first|omega|(simp only[go_sem,seval];try omega))only[go_sem,seval]
   cases hop:(first q).2.2 with
   | true =>
    refine BrW.by (fun _=>?_) (fun h=>by simp at h)
    rw[E0 hne hop] at hd
    rw[hd]
    exact⟨rfl,by simpa using ho,hc⟩
   | false =>
    refine BrW.by (fun h=>by simp at h) (fun _=>?_)
    rw[EC hne hop] at hd
    have hz:=hc.size
    simp -dsimp (disch:=first|omega|(simp only[go_sem,seval];try omega))only[go_sem,seval]
    refine BL (l2:=[(first q).1]) XE Y7 Yg (ho.chg0 (AE _ _)) (Sx.built (c:=Db (first q).1) (by simp -dsimp (disch:=first|omega|(simp only[go_sem,seval];try omega))only[go_sem,seval];rfl) (by simp)) rfl (by simp;omega) (by omega) (by simp -dsimp (disch:=first|omega|(simp only[go_sem,seval];try omega))only[go_sem,seval];omega) ?_
    intro v' w3 ho3 hc3 _
    have hca:Chg u.ownBlock.toList w2 w3:=((Chg.refl _ w2).alloc _).trans hc3 (fun x hx=>.inl hx)
    simp -dsimp (disch:=first|omega|(simp only[go_sem,seval];try omega))only[go_sem,seval,GW]
    rw[List.take_of_length_le (by rw[List.length_drop];exact Nat.le_refl _)]
    refine hn (q.drop (first q).2.1,v',l++[(first q).1]) _ ⟨by dsimp only;rw[List.length_drop];omega,ho3,by dsimp only;rw[List.length_append,List.length_singleton,List.length_drop];omega,?_,Kl ho (Nat.le_refl _) hc hca⟩ (by dsimp only;rw[List.length_drop];omega)
    dsimp only
    rw[hd]
    simp
  ·have:q=[]:=List.eq_nil_of_length_eq_zero (by omega)
   subst this
   rw[GO] at hd
   rw[hd]
   exact⟨rfl,by simpa using ho,hc⟩
 ·rintro v0 v1 w1 ⟨rfl,ho,hc⟩
  exact hK _ _ ⟨v1,rfl,ho,hc⟩
theorem Zy (w:World) (s:List UInt8) (hl:s.length≤1000000):Calls Tryz.prog 141 #[.string (Aq s)] w
  (Ac fun v w'=>v=.string (Aq s)∧Chg [] w w'):=by
 apply YR
 intro K hK
 unfold MI
 have hc:Calls Tryz.prog 194 #[.string (Aq s)] w (Ac fun v w'=>v=.string (Aq s)∧Chg [] w w'):=by
  refine(Tryz.stringslite_Clone (Aq s) w (by rw[Rp];omega)).mono fun e w' h=>?_
  obtain⟨rfl,hb⟩:=h
  exact⟨rfl,hb.os,hb.tape,hb.output,hb.size,fun b hb' _=>hb.block b hb'⟩
 refine OpX.call SR rfl (Calls.ret (hc) ?_)
 rintro v w1 ⟨rfl,hc1⟩
 exact hK _ _ ⟨rfl,hc1⟩
theorem Qt {w:World} {t:Nat} {T:Tm} (h:w.heap[t]?=some T.obj) (hk:T.kept.length≤4) (s:List UInt8) (hl:s.length≤10000):Calls Tryz.prog 102 #[.pointer (some ⟨t,1,none⟩),.string (Aq s)] w
  (Ac fun v w'=>Ox w.heap.size w' 21 1 Db v (dec (T.kept++s)).1∧w'.heap[t]?=some ({ T with kept:=(dec (T.kept++s)).2 }:Tm).obj∧Chg [t] w w'):=by
 have hl0:=Aa h
 apply Ut
 intro K hK
 unfold Jw
 simp -dsimp (disch:=first|omega|(simp only[go_sem,seval];try omega))only[go_sem,seval,h]
 refine OpX.call SK rfl (Calls.ret (V4 w (T.kept++s) (by rw[List.length_append];omega)) ?_)
 rintro v w1 ⟨u,rfl,ho,hc1⟩
 have hd:=I8 (T.kept++s)
 have h1:=hc1.keep h (by simp)
 simp -dsimp (disch:=first|omega|(simp only[go_sem,seval];try omega))only[go_sem,seval]
 refine OpX.call RW rfl (Calls.ret (Zy w1 _ (by omega)) ?_)
 rintro v w2 ⟨rfl,hc2⟩
 have h2:=hc2.keep h1 (by simp)
 have hl2:=Aa h2
 have ho2:=ho.chg0 hc2
 simp -dsimp (disch:=first|omega|(simp only[go_sem,seval];try omega))only[go_sem,seval,h2]
 refine hK _ _ ⟨ho2.low (F:=[t]) ((Chg.refl _ _).set _ _ (by simp)) (by simp;omega),?_,((hc1.trans0 hc2).mono (by simp)).set _ _ (.inl (by simp))⟩
 rw[BY _ hl2]
 rfl
end Go.Proofs.YtelplojmbjnplaaGreatDoor
namespace Lyc
open Go
section
variable {P:Program} {α:Type}
end
end Lyc
namespace Go.Proofs.YtelplojmbjnplaaGreatDoor
open Lyc Go
def cg (n:Nat) (l:List Cel):List Cel:=l.take n++List.replicate (n-l.length) Cel.blank
structure TmAt (base:Nat) (w:World) (t W H:Nat) (T:Tm) (M:Scm) (G:Hs):Prop where
 hb:w.heap[t]?=some T.obj
 scr:SNew base w T.s W H M
 his:HAt w T.h G
 eok:T.E.ok
 kl:T.kept.length≤4
 dk:dec T.kept=([],T.kept)
 lo:∀x∈t::T.h::G.blk,base≤x
 sep:∀x∈M.gv.ownBlock.toList,x∉G.blk
 far:∀r∈G.all,∀b o,r.a=some ⟨b,o,none⟩→r.cs≠[]→b≠M.b0∧b≠M.b1
 rw:∀l∈G.list,0<l.length∧l.length≤200
section
variable {base:Nat} {w w':World} {t W H:Nat} {T:Tm} {M:Scm} {G:Hs}
theorem BJ {w:World} {x y:Nat} {c c':Array Value} {e e':TypeId} {fr fr':Nat × Nat} (h:w.heap[x]?=some (.cells c e fr)) (h':w.heap[y]?=some (.cells c' e' fr')) (hne:Nat.beq e e'=false):x≠y:=by
 rintro rfl
 rw[h] at h'
 simp only[Option.some.injEq,Obj.cells.injEq] at h'
 rw[h'.2.1,Nat.beq_refl] at hne
 cases hne
theorem SAt.tags {s:Nat} (h:SAt w s M):(∃c fr,w.heap[s]?=some (.cells c 236 fr))∧(∃c fr,w.heap[M.b0]?=some (.cells c 167 fr))∧(∃c fr,w.heap[M.b1]?=some (.cells c 167 fr))∧∀x∈M.gv.ownBlock.toList,∃c fr,w.heap[x]?=some (.cells c 57 fr):=by
 refine⟨⟨_,_,h.hb⟩,⟨_,_,h.h0⟩,⟨_,_,h.h1⟩,fun x hx=>?_⟩
 obtain⟨hl,ho⟩:=h.own
 rcases ho with ⟨hv,-⟩|⟨g,cap,cur,hv,-,hg,-⟩
 ·rw[hv] at hx;simp [Value.ownBlock] at hx
 ·rw[hv] at hx;simp [Value.ownBlock] at hx
  subst hx
  exact⟨_,_,hg⟩
theorem HAt.tag2 {h:Nat} (hh:HAt w h G):(∃c fr,w.heap[h]?=some (.cells c 226 fr))∧∀x∈G.blk,∃c fr,w.heap[x]?=some (.cells c 57 fr):=by
 refine⟨⟨_,_,hh.hb⟩,fun x hx=>?_⟩
 obtain⟨hl,ho⟩:=hh.own
 simp only[Hs.blk] at hx
 rcases ho with ⟨hv,-⟩|⟨g,cap,cur,hv,-,hg,-⟩
 ·rw[hv] at hx;simp [Value.ownBlock] at hx
 ·rw[hv] at hx;simp [Value.ownBlock] at hx
  subst hx
  exact⟨_,_,hg⟩
theorem TmAt.s_h (h:TmAt base w t W H T M G):∀x∈T.s::M.blk,x∉T.h::G.blk:=by
 obtain⟨⟨c1,f1,a1⟩,⟨c2,f2,a2⟩,⟨c3,f3,a3⟩,a4⟩:=h.scr.at_.tags
 obtain⟨⟨c5,f5,a5⟩,a6⟩:=h.his.tag2
 intro x hx hm
 rcases List.mem_cons.1 hm with rfl|hm
 ·simp only[Scm.blk,List.mem_cons] at hx
  rcases hx with e|e|e|hx
  ·exact BJ a1 a5 rfl e.symm
  ·exact BJ a2 a5 rfl e.symm
  ·exact BJ a3 a5 rfl e.symm
  ·obtain⟨c,f,b⟩:=a4 _ hx
   exact BJ b a5 rfl rfl
 ·obtain⟨c7,f7,a7⟩:=a6 x hm
  simp only[Scm.blk,List.mem_cons] at hx
  rcases hx with rfl|rfl|rfl|hx
  ·exact BJ a1 a7 rfl rfl
  ·exact BJ a2 a7 rfl rfl
  ·exact BJ a3 a7 rfl rfl
  ·exact h.sep x hx hm
theorem TmAt.t_s (h:TmAt base w t W H T M G):t∉T.s::M.blk:=by
 obtain⟨⟨c1,f1,a1⟩,⟨c2,f2,a2⟩,⟨c3,f3,a3⟩,a4⟩:=h.scr.at_.tags
 have hb:=h.hb
 unfold Tm.obj at hb
 intro hx
 simp only[Scm.blk,List.mem_cons] at hx
 rcases hx with e|e|e|hx
 ·exact BJ a1 hb rfl e.symm
 ·exact BJ a2 hb rfl e.symm
 ·exact BJ a3 hb rfl e.symm
 ·obtain⟨c,f,b⟩:=a4 _ hx
  exact BJ b hb rfl rfl
theorem TmAt.t_h (h:TmAt base w t W H T M G):t∉T.h::G.blk:=by
 obtain⟨⟨c5,f5,a5⟩,a6⟩:=h.his.tag2
 have hb:=h.hb
 unfold Tm.obj at hb
 intro hx
 rcases List.mem_cons.1 hx with e|hx
 ·exact BJ a5 hb rfl e.symm
 ·obtain⟨c,f,b⟩:=a6 _ hx
  exact BJ b hb rfl rfl
theorem TmAt.rows_s (h:TmAt base w t W H T M G):∀r∈G.all,∀b o,r.a=some ⟨b,o,none⟩→r.cs≠[]→b∉T.s::M.blk:=by
 obtain⟨⟨c1,f1,a1⟩,-,-,a4⟩:=h.scr.at_.tags
 intro r hr b o ha hne hx
 have hs:=h.his.rows r hr
 simp only[Scm.blk,List.mem_cons] at hx
 rcases hx with rfl|rfl|rfl|hx
 ·exact hs.ne ha hne a1 rfl rfl
 ·exact(h.far r hr _ o ha hne).1 rfl
 ·exact(h.far r hr _ o ha hne).2 rfl
 ·obtain⟨c,f,b'⟩:=a4 _ hx
  exact hs.ne ha hne b' rfl rfl
theorem TmAt.chg0 (h:TmAt base w t W H T M G) (hc:Chg [] w w'):TmAt base w' t W H T M G :=
 ⟨hc.keep h.hb (by simp),h.scr.chg0 hc,h.his.chg0 hc,h.eok,h.kl,h.dk,h.lo,h.sep,h.far,h.rw⟩
theorem TmAt.self (h:TmAt base w t W H T M G) (hc:Chg [t] w w') {k:List UInt8} {E:Esc} (hb:w'.heap[t]?=some ({ T with kept:=k,E:=E }:Tm).obj) (ek:E.ok) (kk:k.length≤4) (kd:dec k=([],k)):TmAt base w' t W H { T with kept:=k,E:=E } M G:=by
 have hts:=h.t_s
 have hth:=h.t_h
 have hb0:=h.hb
 unfold Tm.obj at hb0
 have hS:SAt w' T.s M:=h.scr.at_.chg hc (fun x hx hm=>by simp at hm;subst hm;exact hts hx) (fun r hr b o ha hne hm=>by simp at hm;subst hm;exact(h.scr.at_.rows r hr).ne ha hne hb0 rfl rfl)
 refine⟨hb,⟨hS,h.scr.ok,h.scr.w,h.scr.h,h.scr.gw,h.scr.lo⟩,h.his.chg hc (fun x hx hm=>by simp at hm;subst hm;exact hth hx) (fun r hr b o ha hne hm=>by simp at hm;subst hm;exact(h.his.rows r hr).ne ha hne hb0 rfl rfl),ek,kk,kd,h.lo,h.sep,h.far,h.rw⟩
theorem TmAt.did (h:TmAt base w t W H T M G) {S:Scr} (hd:Did w T.s M w' S) (hn:Nx M.S S) (hb:base≤w.heap.size):∃M',TmAt base w' t W H T M' G∧M'.S=S∧Chg (T.s::M.blk) w w'∧∀b∈M'.blk,b∈M.blk∨w.heap.size≤b:=by
 obtain⟨M',hN,hS,hc,hk⟩:=h.scr.did hd hn hb
 have hsh:=h.s_h
 have hlt:=h.his.blk_lt
 have hts:=h.t_s
 refine⟨M',⟨hc.keep h.hb hts,hN,h.his.chg hc (fun x hx hm=>hsh x hm hx) h.rows_s,h.eok,h.kl,h.dk,h.lo,fun x hx hm=>?_,fun r hr b o ha hne=>?_,h.rw⟩,hS,hc,hk⟩
 ·rcases hk x (by simp [Scm.blk,hx]) with h1|h1
  ·exact hsh x (by simp [h1]) (by simp [hm])
  ·have:=hlt x (by simp [hm]);omega
 ·have hbl:=(h.his.rows r hr).lt hne ha
  have hnot:=h.rows_s r hr b o ha hne
  refine⟨fun e=>?_,fun e=>?_⟩
  ·rcases hk M'.b0 (by simp [Scm.blk]) with h1|h1
   ·exact hnot (by rw[e];simp [h1])
   ·omega
  ·rcases hk M'.b1 (by simp [Scm.blk]) with h1|h1
   ·exact hnot (by rw[e];simp [h1])
   ·omega
end
def Ff (t:Nat) (T:Tm) (M:Scm) (G:Hs) (x:Nat):Prop:=x=t∨x=T.s∨x∈M.blk∨x=T.h∨x∈G.blk∨∃r∈G.all,r.cs≠[]∧∃o,r.a=some ⟨x,o,none⟩
theorem TmAt.frame {base:Nat} {w w':World} {t W H:Nat} {T:Tm} {M:Scm} {G:Hs} (h:TmAt base w t W H T M G) (hm:M.rows=[]) {F:List Nat} (hc:Chg F w w') (hF:∀x∈F,¬Ff t T M G x):TmAt base w' t W H T M G:=by
 have hS:SAt w' T.s M:=h.scr.at_.chg hc (fun x hx hf=>hF x hf (by rcases List.mem_cons.1 hx with e|hx;exact .inr (.inl e);exact .inr (.inr (.inl hx)))) (by rw[hm];simp)
 exact⟨hc.keep h.hb (fun hf=>hF t hf (.inl rfl)),⟨hS,h.scr.ok,h.scr.w,h.scr.h,h.scr.gw,h.scr.lo⟩,
  h.his.chg hc (fun x hx hf=>hF x hf (by rcases List.mem_cons.1 hx with e|hx;exact .inr (.inr (.inr (.inl e)));exact .inr (.inr (.inr (.inr (.inl hx)))))) (fun r hr b o ha hne hf=>hF b hf (.inr (.inr (.inr (.inr (.inr ⟨r,hr,hne,o,ha⟩)))))),
  h.eok,h.kl,h.dk,h.lo,h.sep,h.far,h.rw⟩
def B6 (S:Scr) (k:List UInt8) (E:Esc) (s:List UInt8):Scr × List UInt8 × Esc :=
 (S.acts (E.feed (dec (k++s)).1).2,(dec (k++s)).2,(E.feed (dec (k++s)).1).1)
theorem YU (S:Scr) {k:List UInt8} (E:Esc) (hk:dec k=([],k)):B6 S k E []=(S,k,E):=by
 unfold B6
 rw[List.append_nil,hk]
 rfl
theorem SB (S:Scr) (k:List UInt8) (E:Esc) (s t:List UInt8):B6 S k E (s++t)=B6 (B6 S k E s).1 (B6 S k E s).2.1 (B6 S k E s).2.2 t:=by
 unfold B6
 rw[←List.append_assoc,Xn (k++s) t]
 dsimp only
 rw[Esc.feed_append]
 unfold Scr.acts
 rw[List.foldl_append]
def Bz (st:Scr × List UInt8 × Esc) (l:List (List UInt8)):Scr × List UInt8 × Esc:=l.foldl (fun st p=>B6 st.1 st.2.1 st.2.2 p) st
def bsF (l:List UInt8):List Value:=[.string (Aq l)]
theorem WN {α:Type} (l:List α) (h:¬(0:Int)<(l.length:Int)):l=[]:=List.eq_nil_of_length_eq_zero (by omega)
theorem Yd {room:Nat} {l:List (List Cel)} {x y:List Cel} (h:y∈CR room l x):y∈l∨y=x:=by
 unfold CR at h
 split at h
 ·exact .inl h
 split at h
 ·rcases List.mem_append.1 h with h|h
  ·exact .inl h
  ·exact .inr (by simpa using h)
 ·rcases List.mem_append.1 h with h|h
  ·exact .inl (List.mem_of_mem_tail h)
  ·exact .inr (by simpa using h)
theorem OF {room:Nat}:∀{xs l:List (List Cel)} {y:List Cel},y∈Ec room l xs→y∈l∨∃x∈xs,y=AN x
 | [],l,y,h=>.inl h
 | x::xs,l,y,h=>by
  unfold Ec at h
  rw[List.foldl_cons] at h
  rcases OF (xs:=xs) h with h|⟨z,hz,e⟩
  ·rcases Yd h with h|h
   ·exact .inl h
   ·exact .inr ⟨x,by simp,h⟩
  ·exact .inr ⟨z,by simp [hz],e⟩
set_option maxHeartbeats 1000000 in
theorem Xd {base:Nat} {w:World} {t W H:Nat} {T:Tm} {M:Scm} {G:Hs} (h:TmAt base w t W H T M G) (hbase:base≤w.heap.size) {e:Option TypeId} {a:Option Addr} {l:List (List UInt8)} (hs:Sx w e bsF a l) (hlen:∀p∈l,p.length≤1000000) (hfar:∀b o,a=some ⟨b,o,none⟩→l≠[]→b∉t::T.s::M.blk) (cap:Nat) (hll:l.length≤1000000) :
  Calls Tryz.prog 57 #[.pointer (some ⟨t,0,none⟩),.slice a l.length cap] w
  (Ac fun _ w'=>∃M' G' k E,TmAt base w' t W H { T with kept:=k,E:=E } M' G'∧(M'.S,k,E)=({ (Bz (M.S,T.kept,T.E) l).1 with gone:=[] },(Bz (M.S,T.kept,T.E) l).2.1,(Bz (M.S,T.kept,T.E) l).2.2) ∧
   G'.room=G.room∧G'.list=Ec G.room G.list (Bz (M.S,T.kept,T.E) l).1.gone∧Chg (t::T.s::M.blk++T.h::G.blk) w w'∧M'.rows=[]∧∀x,Ff t { T with kept:=k,E:=E } M' G' x→Ff t T M G x∨w.heap.size≤x):=by
 have hb:=h.hb
 apply T7
 intro K hK
 unfold Nj
 simp -dsimp (disch:=first|omega|(simp only[go_sem,seval];try omega))only[go_sem,seval]
 refine Loop1.st (fun q:Nat × Scm × List UInt8 × Esc=>.int .i64 (q.1:Int)) (fun q w'=>q.1≤l.length∧TmAt base w' t W H { T with kept:=q.2.2.1,E:=q.2.2.2 } q.2.1 G∧(q.2.1.S,q.2.2.1,q.2.2.2)=Bz (M.S,T.kept,T.E) (l.take q.1)∧(∀x∈q.2.1.blk,x∈M.blk∨w.heap.size≤x)∧Chg (t::T.s::M.blk) w w') (fun q=>l.length-q.1) (0,M,T.kept,T.E) rfl ⟨by simp,h,rfl,fun x hx=>.inl hx,Chg.refl _ _⟩ ?_
 rintro next ⟨i,Mi,k,E⟩ wi hn ⟨hi,hA,hst,hbk,hc⟩
 dsimp only at hi hA hst hbk ⊢
 simp -dsimp (disch:=first|omega|(simp only[go_sem,seval];try omega))only[go_sem,seval]
 refine BrW.dec (fun g=>?_) (fun g=>?_)
 ·have hi':i<l.length:=by omega
  obtain⟨b,o,rfl,hbl,hcell⟩:=(hs.chg hc hfar).get1 (g:=fun p=>.string (Aq p)) (fun _=>rfl) (List.getElem?_eq_getElem hi')
  have hpl:=hlen _ (List.getElem_mem hi')
  obtain⟨p,hp⟩:∃p,p=l[i]:=⟨_,rfl⟩
  rw[←hp] at hcell hpl
  simp -dsimp (disch:=first|omega|(simp only[go_sem,seval];try omega))only[go_sem,seval,hcell]
  refine Loop1.st (fun q:List UInt8 × Scm × List UInt8 × Esc=>.string (Aq q.1)) (fun q w'=>q.1.length≤p.length∧TmAt base w' t W H { T with kept:=q.2.2.1,E:=q.2.2.2 } q.2.1 G∧B6 Mi.S k E p=B6 q.2.1.S q.2.2.1 q.2.2.2 q.1∧(∀x∈q.2.1.blk,x∈M.blk∨w.heap.size≤x)∧Chg (t::T.s::M.blk) w w') (fun q=>q.1.length) (p,Mi,k,E) rfl ⟨Nat.le_refl _,hA,rfl,hbk,hc⟩ ?_
  rintro next2 ⟨q,Mq,kq,Eq⟩ wq hn2 ⟨hq,hAq,hfq,hbq',hcq⟩
  dsimp only at hq hAq hfq hbq' ⊢
  simp -dsimp (disch:=first|omega|(simp only[go_sem,seval];try omega))only[go_sem,seval]
  refine BrW.dec (fun g2=>?_) (fun g2=>?_)
  ·obtain⟨n,hnn⟩:∃n:Nat,n=min q.length 4096:=⟨_,rfl⟩
   have en:min (q.length:Int) 4096=(n:Int):=by omega
   have hbq:=hAq.hb
   have hzq:=hcq.size
   have hA0:=hAq.chg0 (show Chg [] wq wq.drew from(Chg.refl _ _).drew)
   simp -dsimp (disch:=first|omega|(simp only[go_sem,seval];try omega))only[go_sem,seval,hbq,en,GW]
   obtain⟨c,hcc⟩:∃c,c=q.take n:=⟨_,rfl⟩
   rw[Nat.sub_zero,←hcc]
   have hcl:c.length≤4096:=by rw[hcc,List.length_take];omega
   have hkl:kq.length≤4:=hAq.kl
   refine OpX.call ZA rfl (Calls.ret (Qt hA0.hb hkl c (by omega)) ?_)
   rintro v w1 ⟨ho,hb1,hc1⟩
   have hd:=I8 (kq++c)
   have hA1:=hA0.self hc1 hb1 hAq.eok hd.2.2 (KG _)
   have hz1:wq.heap.size≤w1.heap.size:=hc1.size
   obtain⟨a1,cp1,rfl,-,hs1,-,hf1⟩:=ho.form
   have hb1':=hA1.hb
   have hlt:=Aa hbq
   dsimp only at hd hb1 ho hs1 hA1 hb1' hf1
   simp -dsimp (disch:=first|omega|(simp only[go_sem,seval];try omega))only[go_sem,seval,hb1']
   have hrl:(dec (kq++c)).1.length≤1000000:=by have:=hd.2.1;rw[List.length_append] at this;omega
   refine OpX.call SF rfl (Calls.ret (UI hA1.hb hA1.eok hs1 (fun b o hb hne=>by obtain⟨g,hg,hge,-⟩:=hf1 hne;rw[hg] at hb;cases hb;have h9:wq.heap.size≤b:=hge;omega) cp1 hrl hd.1) ?_)
   rintro v w2 ⟨ho2,hb2,hc2⟩
   have hfe:=Esc.feed_ok hA1.eok (l:=(dec (kq++c)).1) hd.1
   have hA2:=hA1.self hc2 hb2 hfe.1 hd.2.2 (KG _)
   have hz2:=hc2.size
   obtain⟨a2,cp2,rfl,-,hs2,-,-⟩:=ho2.form
   have hb2':=hA2.hb
   dsimp only at hfe ho2 hs2 hA2 hb2'
   have hfar2:∀b o,a2=some ⟨b,o,none⟩→(Eq.feed (dec (kq++c)).1).2≠[]→b∉T.s::Mq.blk:=fun b o hb _ hm=>hA2.scr.at_.act_off ho2 b hm (by rw[hb];simp [Value.ownBlock])
   simp -dsimp (disch:=first|omega|(simp only[go_sem,seval];try omega))only[go_sem,seval,hb2']
   refine OpX.call Wq rfl (Calls.ret (Yb hA2.scr.at_ hA2.scr.ok hs2 hfar2 cp2 (by omega) hfe.2.1) ?_)
   rintro v w3 hd3
   obtain⟨M3,hA3,hS3,hc3,hk3⟩:=hA2.did hd3 hA2.scr.ok.acts (by omega)
   simp -dsimp (disch:=first|omega|(simp only[go_sem,seval];try omega))only[go_sem,seval,GW,en]
   rw[List.take_of_length_le (by rw[List.length_drop];exact Nat.le_refl _)]
   have hfc:B6 Mq.S kq Eq c=(M3.S,(dec (kq++c)).2,(Eq.feed (dec (kq++c)).1).1):=by unfold B6;rw[hS3]
   refine hn2 (q.drop n,M3,(dec (kq++c)).2,(Eq.feed (dec (kq++c)).1).1) _ ⟨by dsimp only;rw[List.length_drop];omega,hA3,?_,fun x hx=>(hk3 x hx).elim (fun h=>hbq' x h) (fun h=>.inr (by omega)),?_⟩ (by dsimp only;rw[List.length_drop];omega)
   ·dsimp only
    rw[hfq]
    conv=>lhs;rw[←List.take_append_drop n q,←hcc,SB,hfc]
   ·have hsm:∀x∈T.s::Mq.blk,x∈t::T.s::M.blk∨w.heap.size≤x:=by
     intro x hx
     rcases List.mem_cons.1 hx with rfl|hx
     ·exact .inl (by simp)
     ·exact(hbq' x hx).imp (fun h=>by simp [h]) id
    exact((hcq.trans (show Chg [t] wq w1 from hc1.low_drew) (by simp)).trans hc2 (by simp)).trans hc3 hsm
  ·have hq0:=WN q g2
   subst hq0
   rw[YU _ _ hAq.dk] at hfq
   have e1:(i:Int)+1=((i+1:Nat):Int):=by omega
   simp -dsimp (disch:=first|omega|(simp only[go_sem,seval];try omega))only[go_sem,seval,e1]
   refine hn (i+1,Mq,kq,Eq) _ ⟨by dsimp only;omega,hAq,?_,hbq',hcq⟩ (by dsimp only;omega)
   dsimp only
   rw[Du hi',←hp]
   unfold Bz at hst ⊢
   rw[List.foldl_append,←hst]
   exact hfq.symm
 ·have hil:i=l.length:=by omega
  subst hil
  rw[List.take_length] at hst
  have hbi:=hA.hb
  simp -dsimp (disch:=first|omega|(simp only[go_sem,seval];try omega))only[go_sem,seval,hbi]
  have hc0:Chg [] wi wi.drew:=(Chg.refl _ _).drew
  have hA0:=hA.chg0 hc0
  have ok:=hA0.scr.ok
  have hz:=hc.size
  refine OpX.call Tr rfl (Calls.ret (UF hA0.scr.at_ ok.w0) ?_)
  rintro v w1 ⟨rfl,hS1,hc1⟩
  have hN1:=hA0.scr.gone hS1
  have hth:=hA0.t_h
  have hts:=hA0.t_s
  have hsh:=hA0.s_h
  have hb1:=hc1.keep hA0.hb (fun hm=>hts (by simp at hm;simp [hm]))
  have hH1:HAt w1 T.h G:=hA0.his.chg hc1 (fun x hx hm=>hsh T.s (by simp) (by simp at hm;subst hm;exact hx)) (fun r hr b o ha hne hm=>hA0.rows_s r hr b o ha hne (by simp at hm;simp [hm]))
  have hrows:∀r∈Mi.rows,SxC w1 (some 167) r.a r.cs:=fun r hr=>(hA0.scr.at_.rows r hr).chg hc1 fun b o ha hne=>by simp;exact(hA0.scr.at_.row_ne r hr b o ha hne).1
  have hown:Ox 0 w1 57 1 Rw.f Mi.gv Mi.rows:=hA0.scr.at_.own.chg hc1 fun b hb hm=>by
   simp at hm;subst hm
   exact hA0.scr.at_.s_own (by simp [←hb])
  obtain⟨ga,gc,hgv,-,hsg,-,-⟩:=hown.form
  have hgl:Mi.rows.length≤500:=by
   have:=ok.gl
   rw[hA0.scr.at_.gone] at this
   simpa using this
  have hgr:∀r∈Mi.rows,right r.cs=true∧r.cs.length=W:=by
   intro r hr
   have hm:r.cs∈Mi.S.gone:=by rw[hA0.scr.at_.gone];exact List.mem_map.2 ⟨r,hr,rfl⟩
   exact⟨(ok.gr _ hm).1,hA0.scr.gw _ hm⟩
  have hW:W≤200:=by have:=ok.w1;rw[hA0.scr.w] at this;exact this
  have hab:∀b o,ga=some ⟨b,o,none⟩→b∉T.h::G.blk:=fun b o hb hm=>hsh b (by simp only[Scm.blk];rw[hgv,hb];simp [Value.ownBlock]) hm
  rw[hgv]
  simp -dsimp (disch:=first|omega|(simp only[go_sem,seval];try omega))only[go_sem,seval,hb1]
  refine OpX.call RY rfl (Calls.ret (YG hH1 hsg hab hrows (fun r hr=>by rw[(hgr r hr).2];omega) (by omega) gc) ?_)
  rintro v w2 ⟨G',hG',hroom,hlist,hc2,hblk,hall⟩
  have hz1:wi.heap.size≤w1.heap.size:=hc1.size
  have hc12:Chg (t::T.s::M.blk++T.h::G.blk) w w2:=by
   refine((hc.trans0 hc0).trans hc1 (by simp)).mono (F':=t::T.s::M.blk++T.h::G.blk) (fun x hx=>.inl (by simp at hx ⊢;rcases hx with h|h|h<;>simp [h])) |>.trans hc2 (fun x hx=>.inl (by simp at hx ⊢;rcases hx with h|h<;>simp [h]))
  have hgone:Mi.rows.map Rw.cs=Mi.S.gone:=hA0.scr.at_.gone.symm
  have hS':(Mi.S,k,E)=Bz (M.S,T.kept,T.E) l:=hst
  have hs1:Mi.S=(Bz (M.S,T.kept,T.E) l).1:=congrArg Prod.fst hS'
  refine hK _ _ ⟨{ Mi with S:={ Mi.S with gone:=[] },gv:=.slice none 0 0,rows:=[] },G',k,E,?_,?_,hroom,?_,hc12,rfl,?_⟩
  ·have hsub:∀x∈T.s::({ Mi with S:={ Mi.S with gone:=[] },gv:=.slice none 0 0,rows:=[] }:Scm).blk,x∈T.s::Mi.blk:=fun x hx=>by
    simp [Scm.blk,Value.ownBlock] at hx ⊢
    rcases hx with h|h|h<;>simp [h]
   have hS2:=hS1.chg hc2 (fun x hx hm=>hsh x (hsub x hx) hm) (by simp)
   refine⟨hc2.keep hb1 hth,⟨hS2,hN1.ok,hN1.w,hN1.h,hN1.gw,hN1.lo⟩,hG',hA0.eok,hA0.kl,hA0.dk,fun x hx=>?_,by simp [Value.ownBlock],fun r hr b o ha hne=>?_,fun y hy=>?_⟩
   ·simp only[List.mem_cons] at hx
    rcases hx with rfl|rfl|hx
    ·exact hA0.lo _ (by simp)
    ·exact hA0.lo _ (by simp)
    ·rcases hblk x hx with h|h
     ·exact hA0.lo _ (by simp [h])
     ·omega
   ·rcases hall r hr with h|h
    ·exact hA0.far r h b o ha hne
    ·have:=h b o ha hne
     have l0:=hS1.lt Mi.b0 (by simp [Scm.blk])
     have l1:=hS1.lt Mi.b1 (by simp [Scm.blk])
     exact⟨by show b≠Mi.b0;omega,by show b≠Mi.b1;omega⟩
   ·rw[hlist] at hy
    rcases OF hy with h|⟨z,hz,rfl⟩
    ·exact hA0.rw y h
    ·obtain⟨r,hr,rfl⟩:=List.mem_map.1 hz
     rw[DX,(hgr r hr).2]
     exact⟨by have:=ok.w0;rw[hA0.scr.w] at this;exact this,hW⟩
  ·rw[←hS']
  ·rw[hlist,hgone,hs1]
  ·rintro x (rfl|rfl|hx|rfl|hx|⟨r,hr,hne,o,ha⟩)
   ·exact .inl (.inl rfl)
   ·exact .inl (.inr (.inl rfl))
   ·have hx':x∈Mi.blk:=by
     simp [Scm.blk,Value.ownBlock] at hx ⊢
     rcases hx with h|h<;>simp [h]
    exact(hbk x hx').imp (fun h=>.inr (.inr (.inl h))) id
   ·exact .inl (.inr (.inr (.inr (.inl rfl))))
   ·rcases hblk x hx with h|h
    ·exact .inl (.inr (.inr (.inr (.inr (.inl h)))))
    ·exact .inr (by omega)
   ·rcases hall r hr with h|h
    ·exact .inl (.inr (.inr (.inr (.inr (.inr ⟨r,h,hne,o,ha⟩)))))
    ·have:=h x o ha hne
     exact .inr (by omega)
end Go.Proofs.YtelplojmbjnplaaGreatDoor
namespace Lyc
open Go
def Scr.rs0 (S:Scr) (w h:Nat):Scr:={ S with w:=w,h:=h,top:=0,fin:=h }
def Scr.rsG (S:Scr) (a:Bool):Scr :=
 bif a then { S with g1:=S.g1.resize S.w S.h Cel.blank,s1:=⟨AH S.s1.x S.w,AH S.s1.y S.h,S.s1.pen⟩ }
 else { S with g0:=S.g0.resize S.w S.h Cel.blank,s0:=⟨AH S.s0.x S.w,AH S.s0.y S.h,S.s0.pen⟩ }
def Scr.stage (S:Scr) (w h:Nat):Nat→Scr
 | 0=>S.rs0 w h
 | 1=>(S.rs0 w h).rsG false
 | _=>((S.rs0 w h).rsG false).rsG true
end Lyc
namespace Go.Proofs.YtelplojmbjnplaaGreatDoor
open Lyc Go
def Scm.setG (M:Scm) (a:Bool) (G:Gr) (b c:Nat) (p:List Value):Scm :=
 bif a then { M with S:={ M.S with g1:=G },b1:=b,c1:=c,p1:=p } else { M with S:={ M.S with g0:=G },b0:=b,c0:=c,p0:=p }
theorem SAt.newG {w w':World} {s:Nat} {M:Scm} (a:Bool) (h:SAt w s M) (hc:Chg [] w w') {G:Gr} {nb cap:Nat} {sp:List Value} (k:G.cs.length≤cap) (hn:w.heap.size≤nb) (hb:w'.heap[nb]?=some (.cells (G.cs.flatMap Cel.cells++sp).toArray 167)) :
  SAt (Ab w' s (M.setG a G nb cap sp).obj) s (M.setG a G nb cap sp)∧Chg (s::M.blk) w (Ab w' s (M.setG a G nb cap sp).obj)∧∀b∈(M.setG a G nb cap sp).blk,b∈M.blk∨w.heap.size≤b:=by
 have h':=h.chg0 hc
 have hs:=h'.s_ne
 have hl:=h.lt
 have hls:=Aa h'.hb
 have hlt0:=hl M.b0 (by simp [Scm.blk])
 have hlt1:=hl M.b1 (by simp [Scm.blk])
 have hlts:=hl s (by simp)
 have hc2:Chg [s] w' (Ab w' s (M.setG a G nb cap sp).obj):=(Chg.refl _ _).set _ _ (by simp)
 have hown:=h'.own.chg hc2 fun b hb hm=>by
  simp at hm;subst hm
  exact h'.s_own (by simp [←hb])
 have hrows:∀r∈M.rows,SxC (Ab w' s (M.setG a G nb cap sp).obj) (some 167) r.a r.cs:=fun r hr=>(h'.rows r hr).chg hc2 fun b o ha hne=>by simp;exact(h'.row_ne r hr b o ha hne).1
 have hself:(Ab w' s (M.setG a G nb cap sp).obj).heap[s]?=some (M.setG a G nb cap sp).obj:=Au _ _ _ _ rfl hls
 have hk0:=hc2.keep h'.h0 (by simp;omega)
 have hk1:=hc2.keep h'.h1 (by simp;omega)
 have hkn:=hc2.keep hb (by simp;omega)
 have hch:Chg (s::M.blk) w (Ab w' s (M.setG a G nb cap sp).obj):=(hc.mono (by simp)).trans hc2 (by simp)
 clear hc2
 generalize Ab w' s (M.setG a G nb cap sp).obj=w2 at hself hk0 hk1 hkn hown hrows hch ⊢
 refine⟨?_,hch,?_⟩
 ·cases a with
  | true=>exact⟨hself,hk0,h'.k0,hkn,k,by show M.b0≠nb;omega,h'.tl,hown,hrows,fun r hr b o hx hne=>⟨(h'.far r hr b o hx hne).1,by have:=h.row_lt r hr b o hx hne;show b≠nb;omega⟩,h'.gone⟩
  | false=>exact⟨hself,hkn,k,hk1,h'.k1,by show nb≠M.b1;omega,h'.tl,hown,hrows,fun r hr b o hx hne=>⟨by have:=h.row_lt r hr b o hx hne;show b≠nb;omega,(h'.far r hr b o hx hne).2⟩,h'.gone⟩
 ·intro b hbb
  cases a<;>simp [Scm.setG,Scm.blk] at hbb ⊢<;>rcases hbb with rfl|rfl|hbb<;>first|(right;omega)|simp_all
theorem SAt.g0_s {w:World} {s:Nat} {M:Scm} (h:SAt w s M):SxC w (some 167) (some ⟨M.b0,0,none⟩) M.S.g0.cs:=⟨fun _=>⟨M.b0,0,_,_,_,[],M.p0,rfl,h.h0,by simp [BR],by simp,rfl⟩⟩
theorem SAt.g1_s {w:World} {s:Nat} {M:Scm} (h:SAt w s M):SxC w (some 167) (some ⟨M.b1,0,none⟩) M.S.g1.cs:=⟨fun _=>⟨M.b1,0,_,_,_,[],M.p1,rfl,h.h1,by simp [BR],by simp,rfl⟩⟩
theorem Us {w:World} {s:Nat} {M:Scm} (h:SAt w s M) (w0:0<M.S.w) (h0:0<M.S.h) (w1:M.S.w≤200) (h1':M.S.h≤60) (x y:Int):Calls Tryz.prog 170 #[.pointer (some ⟨s,0,none⟩),.int .i64 x,.int .i64 y] w
  (Ac fun _ w'=>Did w s M w' (M.S.move x y)):=by
 have tl:=h.tl
 apply N1
 intro K hK
 unfold GZ
 refine OpX.call F3 rfl (Calls.ret (FZ h w1 h1' x y) ?_)
 rintro v w1 ⟨rfl,hc1⟩
 have h1:=h.chg0 hc1
 have hb:=h1.hb
 have hl:=Aa hb
 have e1:min (max x 0) ((M.S.w:Int)-1)=((AH x M.S.w:Nat):Int):=by unfold AH;omega
 have e2:min (max y 0) ((M.S.h:Int)-1)=((AH y M.S.h:Nat):Int):=by unfold AH;omega
 rw[e1,e2]
 simp -dsimp (disch:=first|omega|(simp only[go_sem,seval];try omega))only[go_sem,seval,hb]
 exact hK _ _ (Did.set h1 (hc1.mono (by simp)) (fun b hb=>.inl hb) _ rfl rfl tl rfl)
theorem P2 {w:World} {s:Nat} {M:Scm} (h:SAt w s M) (ok:M.S.ok) (W H:Nat) (W0:0<W) (W1:W≤200) (H0:0<H) (H1:H≤60):Calls Tryz.prog 127 #[.pointer (some ⟨s,0,none⟩),.int .i64 W,.int .i64 H] w
  (Ac fun v w'=>v=.bool true∧Did w s M w' (M.S.resize W H)):=by
 have hf:Ce W H=true:=by unfold Ce;simp;omega
 have hb:=h.hb
 have hls:=Aa hb
 have tl:=h.tl
 apply Tv
 intro K hK
 unfold MX
 refine Join1.cut (fun v w'=>v=.bool false∧Chg [] w w') ?_ ?_
 ·refine OpX.call IA rfl (Calls.ret (Hc h ok.w0) ?_)
  rintro v w1 ⟨rfl,rfl⟩
  simp -dsimp (disch:=first|omega|(simp only[go_sem,seval];try omega))only[go_sem,seval]
  refine OpX.call EG rfl (Calls.ret (EO w W H W0 W1 H0 H1) ?_)
  rintro v w1 ⟨hg,hc1⟩
  obtain⟨nb,cap,rfl,q1,q2,q3,q4⟩:=hg.sx
  simp -dsimp (disch:=first|omega|(simp only[go_sem,seval];try omega))only[go_sem,seval,Gr.val]
  have hfit:=Gr.fit_plain W0 W1 H0 H1
  refine OpX.call DH rfl (Calls.ret (DI hfit.ok q4 cap q1) ?_)
  rintro v w3 ⟨rfl,hc3⟩
  simp -dsimp (disch:=first|omega|(simp only[go_sem,seval];try omega))only[go_sem,seval,hfit.r]
  exact hc1.trans0 hc3
 rintro v w1 ⟨rfl,hc1⟩
 have h1:=h.chg0 hc1
 have hb1:=h1.hb
 have hl1:=Aa hb1
 simp -dsimp (disch:=first|omega|(simp only[go_sem,seval];try omega))only[go_sem,seval,hb1]
 have hA0:=h1.set (M.S.rs0 W H) rfl rfl tl rfl
 have hc0:Chg (s::M.blk) w (Ab w1 s ({ M with S:=M.S.rs0 W H }:Scm).obj):=(hc1.mono (by simp)).set _ _ (.inl (by simp))
 refine Loop1.st (fun q:Nat × Scm=>.int .i64 (q.1:Int)) (fun q w'=>q.1≤2∧SAt w' s q.2∧Chg (s::M.blk) w w'∧(∀b∈q.2.blk,b∈M.blk∨w.heap.size≤b)∧q.2.S=M.S.stage W H q.1) (fun q=>2-q.1) (0,{ M with S:=M.S.rs0 W H }) rfl ⟨by simp,hA0,hc0,fun b hb=>.inl hb,rfl⟩ ?_
 rintro next ⟨i,N⟩ w2 hnx ⟨hi,hN,hc,hbl,hS⟩
 dsimp only at hi hN hc hbl hS ⊢
 by_cases hi2:i<2
 ·rcases(show i=0∨i=1 by omega) with hi0|hi0
  ·have hi0:i=0:=by omega
   subst hi0
   dsimp only[Scr.stage] at hS
   have hN2:=hN.chg0 (show Chg [] w2 w2.drew from(Chg.refl _ _).drew)
   have hb2:=hN.hb
   have hw:N.S.w=W:=by rw[hS];rfl
   have hh:N.S.h=H:=by rw[hS];rfl
   have hfit:N.S.g0.fit M.S.w M.S.h:=by rw[hS];exact ok.g0
   have tlN:=hN.tl
   simp -dsimp (disch:=first|omega|(simp only[go_sem,seval];try omega))only[go_sem,seval,hb2]
   refine OpX.call Gq rfl (Calls.ret (FK _) ?_)
   rintro v w3 ⟨rfl,hc3⟩
   have hN3:=hN2.chg0 hc3
   have hb3:=hN3.hb
   simp -dsimp (disch:=first|omega|(simp only[go_sem,seval];try omega))only[go_sem,seval,hb3]
   refine OpX.call OB rfl (Calls.ret (IS hfit.ok hfit.r hN3.g0_s N.c0 hN3.k0 (by decide) W0 W1 H0 H1) ?_)
   rintro v w4 ⟨⟨nb,cp,sp,rfl,p1,p2,p3⟩,hc4⟩
   have hc24:Chg [] w2 w4:=(((Chg.refl _ _).drew).trans0 hc3).trans0 hc4
   have hz3:=hc3.size
   have hz3':w2.heap.size≤w3.heap.size:=hz3
   obtain⟨k1,k2,k3⟩:=hN.newG false hc24 p1 (by omega) p3
   have hN4:=hN3.chg0 hc4
   have hb4:=hN4.hb
   have hl4:=Aa hb4
   have hp:=N.wG0 (N.S.g0.resize W H Cel.blank) nb cp sp tlN
   simp -dsimp (disch:=first|omega|(simp only[go_sem,seval];try omega))only[go_sem,seval,Gr.val,hb4,hp]
   simp only[Scm.setG,cond_true,cond_false] at k1 k2 k3
   obtain⟨N5,hN5⟩:∃N5:Scm,N5={ N with S:={ N.S with g0:=N.S.g0.resize W H Cel.blank },b0:=nb,c0:=cp,p0:=sp }:=⟨_,rfl⟩
   rw[←hN5] at k1 k2 k3 ⊢
   have e5:N5.S={ N.S with g0:=N.S.g0.resize W H Cel.blank }:=by rw[hN5]
   clear hN5
   have hb5:=k1.hb
   have tl5:=k1.tl
   have hw5:N5.S.w=W:=by rw[e5];exact hw
   have hh5:N5.S.h=H:=by rw[e5];exact hh
   obtain⟨w5,hw5'⟩:∃w5,w5=Ab w4 s N5.obj:=⟨_,rfl⟩
   rw[←hw5'] at k1 k2 hb5 ⊢
   clear hw5'
   have hc5:=hc.trans k2 (fun x hx=>by
    rcases List.mem_cons.1 hx with rfl|hx
    ·exact .inl (by simp)
    ·exact(hbl x hx).imp (fun h=>by simp [h]) id)
   have hz:=hc.size
   (try simp -dsimp (disch:=first|omega|(simp only[go_sem,seval];try omega))only[go_sem,seval,hb5])
   refine OpX.call F3 rfl (Calls.ret (FZ (k1.chg0 (Chg.refl _ _).drew) (by omega) (by omega) _ _) ?_)
   rintro v w6 ⟨rfl,hc6⟩
   have hN6:=k1.chg0 (((Chg.refl _ _).drew).trans0 hc6)
   have hb6:=hN6.hb
   have hl6:=Aa hb6
   have x1:min (max (N.S.s0.x:Int) 0) ((N5.S.w:Int)-1)=((AH N.S.s0.x W:Nat):Int):=by rw[hw5];unfold AH;omega
   have x2:min (max (N.S.s0.y:Int) 0) ((N5.S.h:Int)-1)=((AH N.S.s0.y H:Nat):Int):=by rw[hh5];unfold AH;omega
   rw[x1,x2]
   simp -dsimp (disch:=first|omega|(simp only[go_sem,seval];try omega))only[go_sem,seval,hb6]
   have hc6':=hc5.trans0 (((Chg.refl _ _).drew).trans0 hc6)
   have kS:=hN6.set { N5.S with s0:=⟨AH N.S.s0.x W,AH N.S.s0.y H,N5.S.s0.pen⟩ } rfl rfl tl5 rfl
   refine hnx (1,{ N5 with S:={ N5.S with s0:=⟨AH N.S.s0.x W,AH N.S.s0.y H,N5.S.s0.pen⟩ } }) _ ⟨by dsimp only;omega,kS,hc6'.set _ _ (.inl (by simp)),fun b hb=>?_,?_⟩ (by dsimp only;omega)
   ·rcases k3 b hb with h|h
    ·exact hbl b h
    ·exact .inr (by omega)
   ·dsimp only[Scr.stage]
    rw[e5,hS]
    rfl
  ·have hi0:i=1:=by omega
   subst hi0
   dsimp only[Scr.stage] at hS
   have hN2:=hN.chg0 (show Chg [] w2 w2.drew from(Chg.refl _ _).drew)
   have hb2:=hN.hb
   have hw:N.S.w=W:=by rw[hS];rfl
   have hh:N.S.h=H:=by rw[hS];rfl
   have hfit:N.S.g1.fit M.S.w M.S.h:=by rw[hS];exact ok.g1
   have tlN:=hN.tl
   simp -dsimp (disch:=first|omega|(simp only[go_sem,seval];try omega))only[go_sem,seval,hb2]
   refine OpX.call Gq rfl (Calls.ret (FK _) ?_)
   rintro v w3 ⟨rfl,hc3⟩
   have hN3:=hN2.chg0 hc3
   have hb3:=hN3.hb
   simp -dsimp (disch:=first|omega|(simp only[go_sem,seval];try omega))only[go_sem,seval,hb3]
   refine OpX.call OB rfl (Calls.ret (IS hfit.ok hfit.r hN3.g1_s N.c1 hN3.k1 (by decide) W0 W1 H0 H1) ?_)
   rintro v w4 ⟨⟨nb,cp,sp,rfl,p1,p2,p3⟩,hc4⟩
   have hc24:Chg [] w2 w4:=(((Chg.refl _ _).drew).trans0 hc3).trans0 hc4
   have hz3:=hc3.size
   have hz3':w2.heap.size≤w3.heap.size:=hz3
   obtain⟨k1,k2,k3⟩:=hN.newG true hc24 p1 (by omega) p3
   have hN4:=hN3.chg0 hc4
   have hb4:=hN4.hb
   have hl4:=Aa hb4
   have hp:=N.wG1 (N.S.g1.resize W H Cel.blank) nb cp sp tlN
   simp -dsimp (disch:=first|omega|(simp only[go_sem,seval];try omega))only[go_sem,seval,Gr.val,hb4,hp]
   simp only[Scm.setG,cond_true,cond_false] at k1 k2 k3
   obtain⟨N5,hN5⟩:∃N5:Scm,N5={ N with S:={ N.S with g1:=N.S.g1.resize W H Cel.blank },b1:=nb,c1:=cp,p1:=sp }:=⟨_,rfl⟩
   rw[←hN5] at k1 k2 k3 ⊢
   have e5:N5.S={ N.S with g1:=N.S.g1.resize W H Cel.blank }:=by rw[hN5]
   clear hN5
   have hb5:=k1.hb
   have tl5:=k1.tl
   have hw5:N5.S.w=W:=by rw[e5];exact hw
   have hh5:N5.S.h=H:=by rw[e5];exact hh
   obtain⟨w5,hw5'⟩:∃w5,w5=Ab w4 s N5.obj:=⟨_,rfl⟩
   rw[←hw5'] at k1 k2 hb5 ⊢
   clear hw5'
   have hc5:=hc.trans k2 (fun x hx=>by
    rcases List.mem_cons.1 hx with rfl|hx
    ·exact .inl (by simp)
    ·exact(hbl x hx).imp (fun h=>by simp [h]) id)
   have hz:=hc.size
   (try simp -dsimp (disch:=first|omega|(simp only[go_sem,seval];try omega))only[go_sem,seval,hb5])
   refine OpX.call F3 rfl (Calls.ret (FZ (k1.chg0 (Chg.refl _ _).drew) (by omega) (by omega) _ _) ?_)
   rintro v w6 ⟨rfl,hc6⟩
   have hN6:=k1.chg0 (((Chg.refl _ _).drew).trans0 hc6)
   have hb6:=hN6.hb
   have hl6:=Aa hb6
   have x1:min (max (N.S.s1.x:Int) 0) ((N5.S.w:Int)-1)=((AH N.S.s1.x W:Nat):Int):=by rw[hw5];unfold AH;omega
   have x2:min (max (N.S.s1.y:Int) 0) ((N5.S.h:Int)-1)=((AH N.S.s1.y H:Nat):Int):=by rw[hh5];unfold AH;omega
   rw[x1,x2]
   simp -dsimp (disch:=first|omega|(simp only[go_sem,seval];try omega))only[go_sem,seval,hb6]
   have hc6':=hc5.trans0 (((Chg.refl _ _).drew).trans0 hc6)
   have kS:=hN6.set { N5.S with s1:=⟨AH N.S.s1.x W,AH N.S.s1.y H,N5.S.s1.pen⟩ } rfl rfl tl5 rfl
   refine hnx (2,{ N5 with S:={ N5.S with s1:=⟨AH N.S.s1.x W,AH N.S.s1.y H,N5.S.s1.pen⟩ } }) _ ⟨by dsimp only;omega,kS,hc6'.set _ _ (.inl (by simp)),fun b hb=>?_,?_⟩ (by dsimp only;omega)
   ·rcases k3 b hb with h|h
    ·exact hbl b h
    ·exact .inr (by omega)
   ·dsimp only[Scr.stage]
    rw[e5,hS]
    rfl
 ·have hi0:i=2:=by omega
  subst hi0
  dsimp only[Scr.stage] at hS
  have hb2:=hN.hb
  have hl2:=Aa hb2
  have hw:N.S.w=W:=by rw[hS];rfl
  have hh:N.S.h=H:=by rw[hS];rfl
  simp -dsimp (disch:=first|omega|(simp only[go_sem,seval];try omega))only[go_sem,seval,hb2]
  refine OpX.call Dr rfl (Calls.ret (Us (hN.chg0 (show Chg [] w2 w2.drew from(Chg.refl _ _).drew)) (by omega) (by omega) (by omega) (by omega) N.S.now.x N.S.now.y) ?_)
  rintro v w3 ⟨N3,hN3,hS3,hc3,hbl3⟩
  have hb3:=hN3.hb
  have hl3:=Aa hb3
  have tl3:=hN3.tl
  simp -dsimp (disch:=first|omega|(simp only[go_sem,seval];try omega))only[go_sem,seval,hb3]
  have hz:=hc.size
  refine hK _ _ ⟨rfl,_,hN3.set { N3.S with waits:=false } rfl rfl tl3 rfl,?_,?_,fun b hb=>?_⟩
  ·show { N3.S with waits:=false }=_
   rw[hS3,hS]
   unfold Scr.move
   rw[←hS,hw,hh,hS]
   rfl
  ·refine(hc.trans hc3.low_drew fun x hx=>?_).set _ _ (.inl (by simp))
   rcases List.mem_cons.1 hx with rfl|hx
   ·exact .inl (by simp)
   ·exact(hbl x hx).imp (fun h=>by simp [h]) id
  ·rcases hbl3 b hb with h|h
   ·exact hbl b h
   ·have h':w2.heap.size≤b:=h
    exact .inr (by omega)
theorem Qf (w:World) (W H:Nat) (W0:0<W) (W1:W≤200) (H0:0<H) (H1:H≤60) (room:Int):Calls Tryz.prog 85 #[.int .i64 W,.int .i64 H,.int .i64 room] w
  (Ac fun v w'=>∃t s h M G,v=.pointer (some ⟨t,0,none⟩)∧TmAt w.heap.size w' t W H ⟨s,h,[],Esc.new⟩ M G∧M.S=Scr.new W H∧G.list=[]∧G.room=(min (max room 0) 500).toNat∧Chg [] w w'∧(∀x,Ff t ⟨s,h,[],Esc.new⟩ M G x→w.heap.size≤x)∧M.rows=[]):=by
 apply QC
 intro K hK
 unfold NF
 refine OpX.call O8 rfl (Calls.ret (Rv w W H W0 W1 H0 H1) ?_)
 rintro v w1 ⟨s,M,rfl,hN,hS,hc1⟩
 simp -dsimp (disch:=first|omega|(simp only[go_sem,seval];try omega))only[go_sem,seval]
 refine OpX.call XS rfl (Calls.ret (Th w1 room) ?_)
 rintro v w2 ⟨G,rfl,hG,hgb,hgl,hgr,hc2⟩
 have hz1:=hc1.size
 have hN2:=hN.chg0 hc2
 have hhl:=Aa hG.hb
 have hall:G.all=[]:=by
  have:=G.list_len
  rw[hgl] at this
  exact List.eq_nil_of_length_eq_zero this.symm
 simp -dsimp (disch:=first|omega|(simp only[go_sem,seval];try omega))only[go_sem,seval]
 refine hK _ _ ⟨w2.heap.size,s,w1.heap.size,M,G,rfl,?_,hS,hgl,hgr,(hc1.trans0 hc2).alloc _,?_,?_⟩
 rotate_left
 ·rintro x (rfl|rfl|hx|rfl|hx|⟨r,hr,hne,o,ha⟩)
  ·have:=hc2.size;omega
  ·exact hN.lo _ (by simp)
  ·exact hN.lo _ (by simp [hx])
  ·exact hz1
  ·rw[hgb] at hx;simp at hx
  ·rw[hall] at hr;simp at hr
 ·have hg:=hN.at_.gone
  rw[hS] at hg
  cases hr:M.rows with
  | nil=>rfl
  | cons r l=>rw[hr] at hg;simp [Scr.new] at hg
 have hc3:=AE w2 (.cells #[.pointer (some ⟨s,0,none⟩),.string ⟨#[]⟩,.int .i64 0,.int .u8 0,.int .u8 0,.int .i64 0,.int .i64 0,.int .i64 0,.int .i64 0,.int .i64 0,.int .i64 0,.int .i64 0,.int .i64 0,.int .i64 0,.pointer (some ⟨w1.heap.size,0,none⟩)] 163)
 refine⟨Lyc.heap_alloc_new _ _ _ rfl,hN2.chg0 hc3,hG.chg0 hc3,Esc.new_ok,by simp,rfl,fun x hx=>?_,by rw[hgb];simp,by rw[hall];simp,by rw[hgl];simp⟩
 rw[hgb] at hx
 simp at hx
 omega
section
variable {base:Nat} {w w':World} {t W H:Nat} {T:Tm} {M:Scm} {G:Hs}
theorem Vd (h:TmAt base w t W H T M G):Calls Tryz.prog 105 #[.pointer (some ⟨t,0,none⟩)] w (Ac fun v w'=>v=.int .i64 G.list.length∧Chg [] w w'):=by
 have hb:=h.hb
 apply Yp
 intro K hK
 unfold OK
 simp -dsimp (disch:=first|omega|(simp only[go_sem,seval];try omega))only[go_sem,seval,hb]
 refine OpX.call WA rfl (Calls.ret (WH h.his) ?_)
 rintro v w1 ⟨rfl,rfl⟩
 exact hK _ _ ⟨rfl,Chg.refl _ _⟩
end
theorem Qh {base:Nat} {w:World} {t W H:Nat} {T:Tm} {M:Scm} {G:Hs} (h:TmAt base w t W H T M G) (hm:M.rows=[]) (hbase:base≤w.heap.size) (W' H':Nat) (W0:0<W') (W1:W'≤200) (H0:0<H') (H1:H'≤60) :
  Calls Tryz.prog 84 #[.pointer (some ⟨t,0,none⟩),.int .i64 W',.int .i64 H'] w
  (Ac fun v w'=>v=.bool true∧∃M',TmAt base w' t W' H' T M' G∧M'.rows=[]∧Chg (T.s::M.blk) w w'∧(∀b∈M'.blk,b∈M.blk∨w.heap.size≤b)∧M'.S=M.S.resize W' H'):=by
 have hb:=h.hb
 apply ZB
 intro K hK
 unfold IT
 simp -dsimp (disch:=first|omega|(simp only[go_sem,seval];try omega))only[go_sem,seval,hb]
 refine OpX.call Q7 rfl (Calls.ret (P2 h.scr.at_ h.scr.ok W' H' W0 W1 H0 H1) ?_)
 rintro v w1 ⟨rfl,M',a,e,hc,hk⟩
 have hg0:M.S.gone=[]:=by rw[h.scr.at_.gone,hm];rfl
 have hg:M'.S.gone=[]:=by rw[e];exact hg0
 obtain⟨o1,o2,o3⟩:=h.scr.ok.resize W0 W1 H0 H1
 have hsh:=h.s_h
 have hlt:=h.his.blk_lt
 have hts:=h.t_s
 refine hK _ _ ⟨rfl,M',⟨hc.keep h.hb hts,⟨a,by rw[e];exact o1,by rw[e];exact o2,by rw[e];exact o3,by rw[hg];simp,fun x hx=>?_⟩,h.his.chg hc (fun x hx hm=>hsh x hm hx) h.rows_s,h.eok,h.kl,h.dk,h.lo,fun x hx hm=>?_,fun r hr b o ha hne=>?_,h.rw⟩,?_,hc,hk,e⟩
 ·rcases List.mem_cons.1 hx with rfl|hx
  ·exact h.scr.lo _ (by simp)
  ·rcases hk x hx with h1|h1
   ·exact h.scr.lo _ (by simp [h1])
   ·omega
 ·rcases hk x (by simp [Scm.blk,hx]) with h1|h1
  ·exact hsh x (by simp [h1]) (by simp [hm])
  ·have:=hlt x (by simp [hm]);omega
 ·have hbl:=(h.his.rows r hr).lt hne ha
  have hnot:=h.rows_s r hr b o ha hne
  refine⟨fun e=>?_,fun e=>?_⟩
  ·rcases hk M'.b0 (by simp [Scm.blk]) with h1|h1
   ·exact hnot (by rw[e];simp [h1])
   ·omega
  ·rcases hk M'.b1 (by simp [Scm.blk]) with h1|h1
   ·exact hnot (by rw[e];simp [h1])
   ·omega
 ·have:=a.gone
  rw[hg] at this
  cases hr:M'.rows with
  | nil=>rfl
  | cons r l=>rw[hr] at this;simp at this
set_option maxRecDepth 100000
def MN (p0:Value) (K:Value→World→Prop):World→Prop :=
 xB 76 p0 fun t1 =>
 OpX Tryz.prog (.makeFunc (.func 69) #[] #[.const t1]) 96 fun t3 =>
 K t3
theorem P6 (p0:Value):Lk 38 #[p0] (MN p0):=lk [p0] [] Tryz.func38
theorem Ys:Ad Tryz.prog 38:=bd Tryz.func38
def JT (p0 p1:Value) (K:Value→World→Prop):World→Prop :=
 xL 76 p1 fun t4 =>
 OpX Tryz.prog (.range 76 (.const t4)) 0 fun t5 =>
 Loop0 fun next1 =>
 OpX Tryz.prog (.next (.const t5) false) 0 fun t6 =>
 xE t6 0 4 fun t7 =>
 xW t7
 (OpX Tryz.prog (.entry (.const t5)) 0 fun t8 =>
 xE t8 0 3 fun t9 =>
 OpX Tryz.prog (.call { callee:=.value (.const p0),args:=#[.const t9],argTypes:=#[3] }) 4 fun t12 =>
 xN 4 t12 fun t13 =>
 xW t13
 (K (.tuple #[])) <|
 next1) <|
 K (.tuple #[])
theorem TA (p0 p1:Value):Lk 69 #[p0,p1] (JT p0 p1):=lk [p0,p1] [(3,[])] Tryz.func69
theorem Z0:Ad Tryz.prog 69:=bd Tryz.func69
def Me (p0 p1:Value) (K:Value→World→Prop):World→Prop :=
 xB 40 p0 fun t2 =>
 RngX Tryz.prog p1 1 (fun vs1 bg1 kn1 _ _ =>
 bg1 <|
 xL 40 t2 fun t8 =>
 OpX Tryz.prog (.buildSlice 40 1 #[(0,.const (By vs1 0))]) 40 fun t10 =>
 OpX Tryz.prog (.call { callee:=.builtin .append,args:=#[.const t8,.const t10],argTypes:=#[40,40] }) 40 fun t11 =>
 xS 40 t2 t11 <|
 kn1)
 (fun r1 =>
 xL 40 t2 fun t12 =>
 BN (B7 r1 (.tuple #[])) <|
 K t12)
 (fun _ _=>False)
 []
theorem Wk (p0 p1:Value):Lk 111 #[p0,p1] (Me p0 p1):=lk [p0,p1] [] Tryz.func111
theorem Qj:Ad Tryz.prog 111:=bd Tryz.func111
def Lz (p0:Value) (K:Value→World→Prop):World→Prop :=
 xC 111 [.const (.slice none 0 0),.const p0] [40,97] 40 fun t4 =>
 K t4
theorem X3 (p0:Value):Lk 67 #[p0] (Lz p0):=lk [p0] [] Tryz.func67
theorem Vj:Ad Tryz.prog 67:=bd Tryz.func67
def NB (p0:Value) (K:Value→World→Prop):World→Prop :=
 xC 67 [.const p0] [97] 40 fun t5 =>
 xC 68 [.const t5] [40] 0 fun _ =>
 K t5
theorem Rk (p0:Value):Lk 37 #[p0] (NB p0):=lk [p0] [] Tryz.func37
theorem YY:Ad Tryz.prog 37:=bd Tryz.func37
end Go.Proofs.YtelplojmbjnplaaGreatDoor
namespace Lyc
open Go
section
variable {P:Program}
theorem Gs {t ty r c:Nat} {es:Array MapEntry} {K:Value→World→Prop} {w:World} (ht:Ag P t=some 5) (hh:w.heap[r]?=some (.map es c)) :
  OpX P (.range t (.const (.map (some r)))) ty K w=K (.pointer (some ⟨w.heap.size,0,none⟩)) (w.alloc (.mapIter (some r) c #[] c)):=by
 obtain⟨k,e,hu⟩:=Wt ht
 refine AW fun ρ hg=>?_
 simp [execOp,An,hg.1,Instr.range,run_underlying hu,DR hh,Nu]
theorem LY {ty it r c:Nat} {seen:Array Nat} {es:Array MapEntry} {K:Value→World→Prop} {w:World} (hi:w.heap[it]?=some (.mapIter (some r) c seen c)) (hh:w.heap[r]?=some (.map es c)) (hb:∀x∈es.toList,x.born<c)
  (hover:(∀x∈es.toList,x.born∈seen.toList)→K (.tuple #[.bool false]) w)
  (hstep:∀e∈es.toList,e.born∉seen.toList→∀w1,(w1=w∨w1=w.drew)→K (.tuple #[.bool true,e.key,e.val]) (Ab w1 it (.mapIter (some r) c (seen.push e.born) c))) :
  OpX P (.next (.const (.pointer (some ⟨it,0,none⟩))) false) ty K w:=by
 refine⟨fun ρ hg=>?_⟩
 have e:execOp ρ (An (.next (.const (.pointer (some ⟨it,0,none⟩))) false) ty)=(do return Next.value (←Instr.next (.pointer (some ⟨it,0,none⟩)) false ty)):=by
  simp [execOp,An,hg.1]
 rw[e]
 rcases run_next_at (P:=P) w ty it r c c seen es c hi hh hb (Nat.le_refl _) with ⟨h0,hr⟩|⟨x,hx,w1,hw,hr⟩
 ·rw[Sem.run_bind,hr]
  refine hover fun x hx=>?_
  have:leftOf es seen=#[]:=Array.eq_empty_of_size_eq_zero h0
  unfold leftOf at this
  rw[Array.filter_eq_empty_iff] at this
  have:=this x (by simpa using hx)
  simpa using this
 ·rw[Sem.run_bind,hr]
  unfold leftOf at hx
  simp at hx
  exact hstep x (by simpa using hx.1) (by simpa using hx.2) w1 hw
theorem OO {ty it r c:Nat} {seen:Array Nat} {es:Array MapEntry} {e:MapEntry} {K:Value→World→Prop} {w:World} (hi:w.heap[it]?=some (.mapIter (some r) c (seen.push e.born) c)) (hh:w.heap[r]?=some (.map es c)) (he:e∈es.toList) (hn:(es.toList.map (·.born)).Nodup)  :
  OpX P (.entry (.const (.pointer (some ⟨it,0,none⟩)))) ty K w=K (.tuple #[e.key,e.val]) w:=by
 refine AW fun ρ hg=>?_
 simp [execOp,An,hg.1,run_entry_at w it r c seen es c e hi hh he hn]
end
end Lyc
namespace Go.Proofs.YtelplojmbjnplaaGreatDoor
open Lyc Go
@[go_sem] theorem aL:Cy Tryz.prog 76 .i64=some (.pointer none):=by
 have h:BO Tryz.prog 76=some (.i64,.pointer none):=by kernel_rfl
 simp [Cy,h]
@[go_sem] theorem bk:EB Tryz.prog 76=some .i64:=by
 have h:BO Tryz.prog 76=some (.i64,.pointer none):=by kernel_rfl
 simp [EB,h]
@[go_sem] theorem di:Cy Tryz.prog 92 .i64=some (.pointer none):=by
 have h:BO Tryz.prog 92=some (.i64,.pointer none):=by kernel_rfl
 simp [Cy,h]
def ebo (x:Int × Value × Nat):Nat:=x.2.2
theorem FR {l:AG} {x:MapEntry} (h:x∈(Ar .i64 l).toList):∃y∈l,x=⟨.int .i64 y.1,y.2.1,y.2.2⟩:=by
 simp only[Ar,List.mem_map] at h
 obtain⟨y,hy,rfl⟩:=h
 exact⟨y,hy,rfl⟩
theorem N6 (l:AG):(Ar .i64 l).toList.map (·.born)=l.map ebo:=by
 simp [Ar,ebo,Function.comp_def]
theorem NO:∀{l:AG},(l.map ebo).Nodup→∀{x y:Int × Value × Nat},x∈l→y∈l→ebo x=ebo y→x=y
 | [],_,_,_,h,_,_=>by simp at h
 | a::l,hn,x,y,hx,hy,he=>by
  rw[List.map_cons,List.nodup_cons] at hn
  rcases List.mem_cons.1 hx with rfl|hx'<;>rcases List.mem_cons.1 hy with rfl|hy'
  ·rfl
  ·exact absurd (he ▸ List.mem_map.2 ⟨y,hy',rfl⟩) hn.1
  ·exact absurd (he ▸ List.mem_map.2 ⟨x,hx',rfl⟩) hn.1
  ·exact NO hn.2 hx' hy' he
theorem YQ {w:World} {pt m c:Nat} {l:AG} (hb:w.heap[pt]?=some (.cells #[.map (some m)] 76)) (hm:w.heap[m]?=some (.map (Ar .i64 l) c)) (hlt:∀x∈l,ebo x<c) (hnd:(l.map ebo).Nodup) {yv:Value} (I:List Int→World→Prop)
  (h0:∀w1,Chg [] w w1→I [] w1) (hI:∀ks w1 w2,I ks w1→Chg [w.heap.size] w1 w2→I ks w2) (hM:∀ks w1,I ks w1→w1.heap[m]?=some (.map (Ar .i64 l) c))
  (hy:∀ks x w1,I ks w1→x∈l→ks.length<l.length→Bd Tryz.prog yv [.int .i64 x.1] (fun v w2=>v=.bool true∧I (ks++[x.1]) w2∧∃G,Chg G w1 w2∧w.heap.size∉G) w1) :
  Calls Tryz.prog 69 #[yv,.pointer (some ⟨pt,0,none⟩)] w (Ac fun _ w'=>∃ks,ks.Perm (l.map (·.1))∧I ks w'):=by
 apply TA
 intro K hK
 unfold JT
 simp -dsimp (disch:=first|omega|(simp only[go_sem,seval];try omega))only[go_sem,seval,hb]
 rw[Gs F5.1 hm]
 have hndl:l.Nodup:=by
  have:(l.map ebo).Pairwise (·≠·):=hnd
  exact(List.pairwise_map.1 this).imp fun h e=>h (by rw[e])
 have hborn:∀x∈(Ar .i64 l).toList,x.born<c:=by
  intro x hx
  obtain⟨y,hy,rfl⟩:=FR hx
  exact hlt y hy
 refine Loop0.st (fun(done:AG) w1=>(∀x∈done,x∈l)∧(done.map ebo).Nodup∧I (done.map (·.1)) w1∧w1.heap[w.heap.size]?=some (.mapIter (some m) c (done.map ebo).toArray c)) (fun done=>l.length-done.length) [] ⟨by simp,by simp,h0 _ (AE _ _),Lyc.heap_alloc_new _ _ _ rfl⟩ ?_
 rintro next done w1 hn ⟨hd,hdn,hi,hit⟩
 have hm1:=hM _ _ hi
 refine LY hit hm1 hborn (fun hover=>?_) (fun e he hne w2 hw2=>?_)
 ·simp -dsimp (disch:=first|omega|(simp only[go_sem,seval];try omega))only[go_sem,seval]
  refine hK _ _ ⟨done.map (·.1),List.Perm.map _ ?_,hi⟩
  have hdl:done.Nodup:=by
   have:(done.map ebo).Pairwise (·≠·):=hdn
   exact(List.pairwise_map.1 this).imp fun h e=>h (by rw[e])
  refine(List.perm_ext_iff_of_nodup hdl hndl).2 fun x=>⟨hd x,fun hx=>?_⟩
  have:=hover ⟨.int .i64 x.1,x.2.1,x.2.2⟩ (by simp only[Ar,List.mem_map];exact⟨x,hx,rfl⟩)
  simp only[List.mem_map] at this
  obtain⟨y,hyd,hy2⟩:=this
  have hyl:=hd y hyd
  rw[←NO hnd hyl hx hy2]
  exact hyd
 ·obtain⟨y,hyl,rfl⟩:=FR he
  have hnd':ebo y∉done.map ebo:=by simpa [ebo] using hne
  have hit2:w2.heap[w.heap.size]?=some (.mapIter (some m) c (done.map ebo).toArray c):=by rcases hw2 with rfl|rfl<;>exact hit
  have hc2:Chg [] w1 w2:=by rcases hw2 with rfl|rfl;exact Chg.refl _ _;exact(Chg.refl _ _).drew
  have hl2:=Aa hit2
  have hc3:Chg [w.heap.size] w1 (Ab w2 w.heap.size (.mapIter (some m) c ((done.map ebo).toArray.push y.2.2) c)):=(hc2.mono (by simp)).set _ _ (by simp)
  have hi3:=hI _ _ _ hi hc3
  have hit3:(Ab w2 w.heap.size (.mapIter (some m) c ((done.map ebo).toArray.push y.2.2) c)).heap[w.heap.size]?=some (.mapIter (some m) c ((done.map ebo).toArray.push y.2.2) c):=Au _ _ _ _ rfl hl2
  generalize Ab w2 _ _=w3 at hc3 hi3 hit3 ⊢
  have hm3:=hM _ _ hi3
  simp -dsimp (disch:=first|omega|(simp only[go_sem,seval];try omega))only[go_sem,seval]
  rw[OO (e:=⟨.int .i64 y.1,y.2.1,y.2.2⟩) hit3 hm3 he (by rw[N6];exact hnd)]
  simp -dsimp (disch:=first|omega|(simp only[go_sem,seval];try omega))only[go_sem,seval]
  have hdl:done.length<l.length:=by
   have h1:(done.map ebo++[ebo y]).Nodup:=by
    rw[List.nodup_append]
    exact⟨hdn,by simp,by intro a ha b hb;simp at hb;subst hb;rintro rfl;exact hnd' ha⟩
   have h2:=List.Nodup.length_le_of_subset h1 (l₂:=l.map ebo) (by
    intro a ha
    rcases List.mem_append.1 ha with ha|ha
    ·obtain⟨z,hz,rfl⟩:=List.mem_map.1 ha
     exact List.mem_map.2 ⟨z,hd z hz,rfl⟩
    ·simp at ha;subst ha;exact List.mem_map.2 ⟨y,hyl,rfl⟩)
   simp at h2;omega
  refine(hy _ y w3 hi3 hyl (by simpa using hdl)).use ?_
  rintro v w4 ⟨rfl,hi4,G,hc4,hG⟩
  simp -dsimp (disch:=first|omega|(simp only[go_sem,seval];try omega))only[go_sem,seval]
  have hit4:=hc4.keep hit3 hG
  refine hn (done++[y]) _ ⟨?_,?_,?_,?_⟩ (by simp;omega)
  ·intro x hx
   rcases List.mem_append.1 hx with hx|hx
   ·exact hd x hx
   ·simp at hx;subst hx;exact hyl
  ·rw[List.map_append,List.nodup_append]
   exact⟨hdn,by simp,by intro a ha b hb;simp at hb;subst hb;rintro rfl;exact hnd' ha⟩
  ·simpa using hi4
  ·rw[hit4];simp [ebo]
def FN (pt:Nat):Value:=.func (.func 69) #[] #[.pointer (some ⟨pt,0,none⟩)]
theorem Qr {w:World} {m c:Nat} {l:AG} (hm:w.heap[m]?=some (.map (Ar .i64 l) c)):Calls Tryz.prog 38 #[.map (some m)] w
  (Ac fun v w'=>v=FN w.heap.size∧w'.heap[w.heap.size]?=some (.cells #[.map (some m)] 76)∧Chg [] w w'):=by
 apply P6
 intro K hK
 unfold MN
 simp -dsimp (disch:=first|omega|(simp only[go_sem,seval];try omega))only[go_sem,seval]
 exact hK _ _ ⟨rfl,Lyc.heap_alloc_new _ _ _ rfl,AE _ _⟩
theorem Vu {w:World} {pt m c:Nat} {l:AG} (hb:w.heap[pt]?=some (.cells #[.map (some m)] 76)) (hm:w.heap[m]?=some (.map (Ar .i64 l) c)) (hlt:∀x∈l,ebo x<c) (hnd:(l.map ebo).Nodup) (hlen:l.length≤1000000) :
  Calls Tryz.prog 111 #[.slice none 0 0,FN pt] w (Ac fun v w'=>∃ks,ks.Perm (l.map (·.1))∧Ox w.heap.size w' 3 1 Cs v ks∧Chg [] w w'):=by
 have hlp:=Aa hb
 have hlm:=Aa hm
 apply Wk
 intro K hK
 unfold Me
 simp -dsimp (disch:=first|omega|(simp only[go_sem,seval];try omega))only[go_sem,seval]
 have hc0:=AE w (.cells #[.slice none 0 0] 40)
 have hb0:=Lyc.heap_alloc_new w (.cells #[.slice none 0 0] 40) _ rfl
 have hz0:(w.alloc (.cells #[.slice none 0 0] 40)).heap.size=w.heap.size+1:=by simp -dsimp (disch:=first|omega|(simp only[go_sem,seval];try omega))only[go_sem,seval]
 generalize w.alloc (.cells #[.slice none 0 0] 40)=w0 at hc0 hb0 hz0 ⊢
 refine⟨fun Lp yv hyv=>⟨_,[],_,rfl,Z0,?_⟩⟩
 have hl:((w0.alloc (.deferred (some []))).alloc (Lp .ready)).heap[w0.heap.size+1]?=some (Lp .ready):=by simp -dsimp (disch:=first|omega|(simp only[go_sem,seval];try omega))only[go_sem,seval]
 have hr:((w0.alloc (.deferred (some []))).alloc (Lp .ready)).heap[w0.heap.size]?=some (.deferred (some [])):=by simp -dsimp (disch:=first|omega|(simp only[go_sem,seval];try omega))only[go_sem,seval]
 have hc1:=Cm w0 (.deferred (some [])) (Lp .ready)
 have hz1:((w0.alloc (.deferred (some []))).alloc (Lp .ready)).heap.size=w0.heap.size+2:=by simp -dsimp (disch:=first|omega|(simp only[go_sem,seval];try omega))only[go_sem,seval]
 generalize (w0.alloc (.deferred (some []))).alloc (Lp .ready)=w1 at hl hr hc1 hz1 ⊢
 have hc01:=hc0.trans0 hc1
 have hb1:=hc1.keep hb0 (by simp)
 refine Calls.ret (YQ (w:=w1) (pt:=pt) (m:=m) (c:=c) (l:=l) (hc01.keep hb (by simp)) (hc01.keep hm (by simp)) hlt hnd
  (fun ks w2=>w2.heap[w0.heap.size+1]?=some (Lp .ready)∧Chg [w.heap.size,w0.heap.size+1] w1 w2∧∃v,w2.heap[w.heap.size]?=some (.cells #[v] 40)∧Ox (w1.heap.size+1) w2 3 1 Cs v ks) ?_ ?_ ?_ ?_) ?_
 ·exact fun w2 hc2=>⟨hc2.keep hl (by simp),hc2.mono (by simp),_,hc2.keep hb1 (by simp),Ox.nil _ _ _ _ _⟩
 ·rintro ks w2 w3 ⟨h1,h2,v,h3,h4⟩ hc
  exact⟨hc.keep h1 (by simp;omega),h2.trans hc (by simp),v,hc.keep h3 (by simp;omega),h4.low hc (by simp)⟩
 ·rintro ks w2 ⟨h1,h2,v,h3,h4⟩
  exact h2.keep (hc01.keep hm (by simp)) (by simp;omega)
 ·rintro ks x w2 ⟨h1,h2,v,h3,h4⟩ hx hlen'
  refine hyv _ _ _ rfl h1 ⟨h1,?_⟩
  have hl1:=Aa h1
  have hl3:=Aa h3
  have hc3:Chg [w0.heap.size+1] w2 (Ab w2 (w0.heap.size+1) (Lp .busy)):=(Chg.refl _ _).set _ _ (by simp)
  have h1':(Ab w2 (w0.heap.size+1) (Lp .busy)).heap[w0.heap.size+1]?=some (Lp .busy):=Au _ _ _ _ rfl hl1
  have h3':=hc3.keep h3 (by simp;omega)
  have h4':=h4.low hc3 (by simp;omega)
  have h2':Chg [w.heap.size,w0.heap.size+1] w1 (Ab w2 (w0.heap.size+1) (Lp .busy)):=h2.trans hc3 (by simp)
  generalize Ab w2 _ _=w3 at hc3 h1' h3' h4' h2' ⊢
  have hl3':=Aa h3'
  obtain⟨a,cap,rfl,hcp,hsx,hown,-⟩:=h4'.form
  simp -dsimp (disch:=first|omega|(simp only[go_sem,seval];try omega))only[go_sem,seval,h3',By]
  have hs2:=h2'.size
  have hca:=AE w3 (.cells #[.int .i64 x.1] 3)
  have ho:=h4'.chg0 hca
  have hsa:Sx (w3.alloc (.cells #[.int .i64 x.1] 3)) (some 3) Cs (some ⟨w3.heap.size,0,none⟩) [x.1]:=Sx.built (c:=[.int .i64 x.1]) (by simp -dsimp (disch:=first|omega|(simp only[go_sem,seval];try omega))only[go_sem,seval]) rfl
  have hb3:=hca.keep h3' (by simp)
  have hb3':=hca.keep h1' (by simp)
  have hz3:(w3.alloc (.cells #[.int .i64 x.1] 3)).heap.size=w3.heap.size+1:=by simp -dsimp (disch:=first|omega|(simp only[go_sem,seval];try omega))only[go_sem,seval]
  generalize w3.alloc _=w4 at hca ho hsa hb3 hb3' hz3 ⊢
  refine BL Yi Qz V2 ho hsa rfl (by simp;omega) (by omega) (by omega) ?_
  intro v' w5 ho5 hc5 _
  have hge:=ho.own_ge
  have hb5:=hc5.keep hb3 (fun hm=>by have:=hge _ hm;omega)
  have hb5':=hc5.keep hb3' (fun hm=>by have:=hge _ hm;omega)
  have hl5:=Aa hb5
  have hl5':=Aa hb5'
  obtain⟨a5,cap5,rfl,-,-,hown5,-⟩:=ho5.form
  have hc6:Chg [w.heap.size,w0.heap.size+1] w5 (Ab (Ab w5 w.heap.size (.cells #[.slice a5 (ks++[x.1]).length cap5] 40)) (w0.heap.size+1) (Lp .ready)):=((Chg.refl _ _).set _ _ (by simp)).set _ _ (by simp)
  have hc25:Chg ([w0.heap.size+1]++(Value.slice a ks.length cap).ownBlock.toList) w2 w5:=((hc3.mono (by simp)).trans0 hca).trans hc5 (by simp;intro x hx;exact .inl (.inr hx))
  have hc46:Chg ((Value.slice a ks.length cap).ownBlock.toList++[w.heap.size,w0.heap.size+1]) w4 (Ab (Ab w5 w.heap.size (.cells #[.slice a5 (ks++[x.1]).length cap5] 40)) (w0.heap.size+1) (Lp .ready)):=(hc5.mono (fun x hx=>.inl (List.mem_append_left _ hx))).trans hc6 (fun x hx=>.inl (List.mem_append_right _ hx))
  simp -dsimp (disch:=first|omega|(simp only[go_sem,seval];try omega))only[go_sem,seval,hb5,hb5']
  refine⟨⟨((h2'.trans0 hca)).trans hc46 ?_,_,rfl,ho5.low hc6 (by simp;omega)⟩,_,(((hc3.mono (F':=(w0.heap.size+1)::((Value.slice a ks.length cap).ownBlock.toList++[w.heap.size,w0.heap.size+1])) (by simp)).trans0 hca).trans hc46 (fun x hx=>.inl (by simp only[List.mem_cons];exact .inr hx))),?_⟩
  ·intro x hx
   rcases List.mem_append.1 hx with hx|hx
   ·right;have:=hge x hx;omega
   ·exact .inl hx
  ·simp only[List.mem_cons,List.mem_append,List.not_mem_nil,or_false,not_or]
   refine⟨by omega,fun hm=>?_,by omega,by omega⟩
   have:=hge _ hm;omega
 ·rintro v w2 ⟨ks,hp,h1,h2,v',h3,h4⟩
  refine .inl ⟨h1,?_⟩
  have hl1:=Aa h1
  have hc3:Chg [w0.heap.size+1] w2 (Ab w2 (w0.heap.size+1) (Lp (.over .normal))):=(Chg.refl _ _).set _ _ (by simp)
  have h3':=hc3.keep h3 (by simp;omega)
  have h4':=h4.low hc3 (by simp;omega)
  have hr2:=(h2.trans hc3 (by simp)).keep hr (by simp;omega)
  have hc4:=h2.trans hc3 (by simp)
  generalize Ab w2 _ _=w3 at hc3 h3' h4' hr2 hc4 ⊢
  simp -dsimp (disch:=first|omega|(simp only[go_sem,seval];try omega))only[go_sem,seval,h3']
  refine ER hr2 ?_
  have hc5:Chg [w0.heap.size] w3 (Ab w3 w0.heap.size (.deferred none)):=(Chg.refl _ _).set _ _ (by simp)
  refine hK _ _ ⟨ks,hp,(h4'.low hc5 (by simp;omega)).base_le (by omega),(hc01.trans hc4 ?_).trans hc5 ?_⟩
  ·simp;omega
  ·simp;omega
theorem Se {w:World} {base:Nat} {a:Option Addr} {cap:Nat} {zs:List Int} (ho:Ox base w 3 1 Cs (.slice a zs.length cap) zs) (hz:zs.length≤1000000) :
  Calls Tryz.prog 68 #[.slice a zs.length cap] w (Ac fun v w'=>Ox base w' 3 1 Cs (.slice a zs.length cap) (zs.mergeSort fun x y=>decide (x≤y))∧Chg (Value.slice a zs.length cap).ownBlock.toList w w'):=by
 have hfl:zs.flatMap Cs=zs.map (Value.int .i64):=by
  clear ho hz
  induction zs with
  | nil=>rfl
  | cons x l ih=>rw[List.flatMap_cons,ih];rfl
 by_cases h0:zs=[]
 ·subst h0
  have hms:([]:List Int).mergeSort (fun x y=>decide (x≤y))=[]:=by simp
  rw[hms]
  refine(Tryz.slices_Sort_int_none a cap w).mono ?_
  rintro e w' ⟨rfl,rfl⟩
  exact⟨ho,Chg.refl _ _⟩
 ·obtain⟨hl,ho'⟩:=ho
  rcases ho' with ⟨hv,-⟩|⟨g,cap',cur,hv,hbase,hg,h1,h2,h3,h4⟩
  ·rw[Value.slice.injEq] at hv
   exact absurd (List.eq_nil_of_length_eq_zero hv.2.1) h0
  rw[Value.slice.injEq] at hv
  obtain⟨rfl,-,rfl⟩:=hv
  have hlt:=Aa hg
  have h2':cap≤maxLen:=h2
  unfold maxLen at h2'
  have ht:cur.toList.take zs.length=zs.map (Value.int .i64):=by rw[←hfl];simpa using h4
  have hml:(zs.mergeSort fun x y=>decide (x≤y)).length=zs.length:=List.length_mergeSort _
  have hfl2:∀l:List Int,l.flatMap Cs=l.map (Value.int .i64):=by
   intro l
   induction l with
   | nil=>rfl
   | cons x l ih=>rw[List.flatMap_cons,ih];rfl
  refine(Tryz.slices_Sort_int g 0 cap zs w (holds_of_blockI hg ht) hlt (by omega)).mono ?_
  rintro e w' ⟨rfl,n,os,rfl⟩
  refine⟨?_,?_⟩
  ·have:=ownsRow_sortedI (base:=base) (n:=n) (os:=os) (ss:=zs) (ts:=zs.mergeSort fun x y=>decide (x≤y)) hml hbase hg h1 h2 h3
   unfold Ox
   rw[hfl2,hml]
   exact this
  ·obtain⟨k1,k2,k3,k4,k5⟩:=grownBy_sortedI (w:=w) (g:=g) (n:=n) (os:=os) (zs.mergeSort fun x y=>decide (x≤y)).toArray
   refine⟨k1,k2,k3,k4,fun b hb hn=>k5 b hb ?_⟩
   simp [Value.ownBlock] at hn
   intro he
   exact hn (Option.some.inj he)
def B8 (l:List Int):Prop:=l.Pairwise (·<·)
theorem Ux {l:List Int} (h:l.Nodup):B8 (l.mergeSort fun x y=>decide (x≤y)):=by
 have h1:=List.pairwise_mergeSort (le:=fun x y:Int=>decide (x≤y)) (by intro a b c;simp;omega) (by intro a b;simp;omega) l
 have h2:(l.mergeSort fun x y=>decide (x≤y)).Nodup:=(List.mergeSort_perm l _).nodup_iff.2 h
 have h3:(l.mergeSort fun x y=>decide (x≤y)).Pairwise (·≠·):=h2
 exact(h1.and h3).imp fun h=>by simp at h;omega
theorem XD {w:World} {pt m c:Nat} {l:AG} (hb:w.heap[pt]?=some (.cells #[.map (some m)] 76)) (hm:w.heap[m]?=some (.map (Ar .i64 l) c)) (hlt:∀x∈l,ebo x<c) (hnd:(l.map ebo).Nodup) (hlen:l.length≤1000000) (hk:(l.map (·.1)).Nodup) :
  Calls Tryz.prog 37 #[FN pt] w (Ac fun v w'=>∃ks,ks.Perm (l.map (·.1))∧B8 ks∧Ox w.heap.size w' 3 1 Cs v ks∧Chg [] w w'):=by
 have hcol:Calls Tryz.prog 67 #[FN pt] w (Ac fun v w'=>∃ks,ks.Perm (l.map (·.1))∧Ox w.heap.size w' 3 1 Cs v ks∧Chg [] w w'):=by
  apply X3
  intro K hK
  unfold Lz
  refine OpX.call Qj rfl (Calls.ret (Vu hb hm hlt hnd hlen) ?_)
  exact fun v w' h=>hK _ _ h
 apply Rk
 intro K hK
 unfold NB
 refine OpX.call Vj rfl (Calls.ret (hcol) ?_)
 rintro v w1 ⟨ks,hp,ho,hc⟩
 obtain⟨a,cap,rfl,-,-,hown,-⟩:=ho.form
 refine OpX.call ?_ rfl (Calls.ret (Se ho (by rw[hp.length_eq];simpa using hlen)) ?_)
 ·exact bd Tryz.func68 (by kernel_rfl)
 rintro v w2 ⟨ho2,hc2⟩
 refine hK _ _ ⟨_,(List.mergeSort_perm _ _).trans hp,Ux (hp.nodup_iff.2 hk),?_,hc.trans hc2 fun x hx=>.inr (ho.own_ge x hx)⟩
 have hml:(ks.mergeSort fun x y=>decide (x≤y)).length=ks.length:=List.length_mergeSort _
 exact ho2
set_option maxRecDepth 100000
def IW (p0 p1:Value) (K:Value→World→Prop):World→Prop :=
 xB 33 p1 fun t3 =>
 xC 13 [.const p0] [27] 3 fun t7 =>
 xC 30 [.const p0,.const t7] [27,3] 81 fun t8 =>
 xO .eql 81 t8 (.pointer none) fun t9 =>
 xW t9
 (xC 31 [.const (.int .i64 13)] [34] 30 fun t10 =>
 K t10) <|
 xF 33 t3 3 fun t11 =>
 xL 9 t11 fun t12 =>
 xU t12 9 fun t13 =>
 xO .gtr 3 t13 (.int .i64 2000) fun t14 =>
 xW t14
 (xC 31 [.const (.int .i64 16)] [34] 30 fun t15 =>
 K t15) <|
 xF 33 t3 0 fun t16 =>
 xL 3 t16 fun t17 =>
 xO .eql 3 t17 (.int .i64 1) fun t19 =>
 xW t19
 (xF 33 t3 3 fun t21 =>
 xL 9 t21 fun t22 =>
 xC 32 [.const p0,.const t22] [27,9] 30 fun t23 =>
 K t23) <|
 xO .eql 3 t17 (.int .i64 2) fun t25 =>
 xW t25
 (xF 33 t3 1 fun t27 =>
 xL 3 t27 fun t28 =>
 xF 33 t3 2 fun t29 =>
 xL 3 t29 fun t30 =>
 xF 33 t3 3 fun t31 =>
 xL 9 t31 fun t32 =>
 xC 33 [.const p0,.const t28,.const t30,.const t32] [27,3,3,9] 30 fun t33 =>
 K t33) <|
 xO .eql 3 t17 (.int .i64 3) fun t35 =>
 xW t35
 (xF 33 t3 4 fun t37 =>
 xL 3 t37 fun t38 =>
 xF 33 t3 5 fun t39 =>
 xL 3 t39 fun t40 =>
 xC 34 [.const p0,.const t38,.const t40] [27,3,3] 30 fun t41 =>
 K t41) <|
 xC 31 [.const (.int .i64 18)] [34] 30 fun t42 =>
 K t42
theorem QG (p0 p1:Value):Lk 11 #[p0,p1] (IW p0 p1):=lk [p0,p1] [] Tryz.func11
theorem G7:Ad Tryz.prog 11:=bd Tryz.func11
def LJ (p0:Value) (K:Value→World→Prop):World→Prop :=
 xO .eql 27 p0 (.pointer none) fun t4 =>
 xW t4
 (K (.int .i64 0)) <|
 OpX Tryz.prog (.nilCheck (.const p0)) 0 fun t6 =>
 xF 80 t6 4 fun t7 =>
 xL 3 t7 fun t8 =>
 K t8
theorem VC (p0:Value):Lk 13 #[p0] (LJ p0):=lk [p0] [] Tryz.func13
theorem FY:Ad Tryz.prog 13:=bd Tryz.func13
def NS (p0 p1:Value) (K:Value→World→Prop):World→Prop :=
 xC 30 [.const p0,.const p1] [27,3] 81 fun t8 =>
 xO .eql 81 t8 (.pointer none) fun t10 =>
 xW t10
 (K (.slice none 0 0)) <|
 OpX Tryz.prog (.nilCheck (.const t8)) 0 fun t12 =>
 xF 94 t12 0 fun t13 =>
 xL 91 t13 fun t14 =>
 xC 36 [.const t14] [91] 37 fun t15 =>
 K t15
theorem X5 (p0 p1:Value):Lk 14 #[p0,p1] (NS p0 p1):=lk [p0,p1] [] Tryz.func14
theorem W3:Ad Tryz.prog 14:=bd Tryz.func14
def MO (p0:Value) (K:Value→World→Prop):World→Prop :=
 xO .eql 27 p0 (.pointer none) fun t4 =>
 xW t4
 (K (.slice none 0 0)) <|
 OpX Tryz.prog (.nilCheck (.const p0)) 0 fun t6 =>
 xF 80 t6 3 fun t7 =>
 xL 76 t7 fun t8 =>
 xC 38 [.const t8] [76] 97 fun t9 =>
 xC 37 [.const t9] [97] 40 fun t10 =>
 K t10
theorem Qp (p0:Value):Lk 16 #[p0] (MO p0):=lk [p0] [] Tryz.func16
theorem Hz:Ad Tryz.prog 16:=bd Tryz.func16
def Lc (p0 p1:Value) (K:Value→World→Prop):World→Prop :=
 xO .eql 27 p0 (.pointer none) fun t6 =>
 xW t6
 (K (.pointer none)) <|
 OpX Tryz.prog (.nilCheck (.const p0)) 0 fun t8 =>
 xF 80 t8 3 fun t9 =>
 xL 76 t9 fun t10 =>
 OpX Tryz.prog (.lookup 76 (.const t10) (.const p1) false) 81 fun t12 =>
 K t12
theorem Tl (p0 p1:Value):Lk 30 #[p0,p1] (Lc p0 p1):=lk [p0,p1] [] Tryz.func30
theorem IG:Ad Tryz.prog 30:=bd Tryz.func30
def Kd (p0 p1:Value) (K:Value→World→Prop):World→Prop :=
 OpX Tryz.prog (.nilCheck (.const p0)) 0 fun t11 =>
 xF 80 t11 5 fun t12 =>
 xC 52 [.const t12,.const p1] [78,9] 122 fun t14 =>
 xU t14 122 fun t15 =>
 Loop2 (.slice none 0 0) (.int .i64 0) fun t5 t16 next1 =>
 xO .lss 3 t16 t15 fun t17 =>
 xW t17
 (xI 122 t14 t16 fun t19 =>
 xL 125 t19 fun t20 =>
 xA 125 fun t7 =>
 xS 125 t7 t20 <|
 xL 125 t7 fun t23 =>
 xC 53 [.const p0,.const t23] [27,125] 126 fun t24 =>
 xE t24 0 9 fun t25 =>
 xE t24 1 30 fun t26 =>
 xC 55 [.const t26,.const t25] [30,9] 30 fun t30 =>
 xC 54 [.const t30,.const t16] [30,3] 30 fun t32 =>
 OpX Tryz.prog (.buildSlice 116 1 #[(0,.const t32)]) 116 fun t33 =>
 OpX Tryz.prog (.call { callee:=.builtin .append,args:=#[.const t5,.const t33],argTypes:=#[116,116] }) 116 fun t34 =>
 xO .add 3 t16 (.int .i64 1) fun t35 =>
 next1 t34 t35) <|
 xC 56 [.const t5] [116] 30 fun t37 =>
 K t37
theorem Xb (p0 p1:Value):Lk 32 #[p0,p1] (Kd p0 p1):=lk [p0,p1] [(8,[5,16])] Tryz.func32
theorem Ub:Ad Tryz.prog 32:=bd Tryz.func32
def O5 (p0 p1 p2 p3:Value) (K:Value→World→Prop):World→Prop :=
 xC 30 [.const p0,.const p1] [27,3] 81 fun t12 =>
 xC 39 [.const t12,.const p2] [81,3] 99 fun t14 =>
 xO .eql 99 t14 (.pointer none) fun t16 =>
 xW t16
 (xC 31 [.const (.int .i64 12)] [34] 30 fun t17 =>
 K t17) <|
 OpX Tryz.prog (.buildSlice 108 1 #[(0,.const p3)]) 108 fun t20 =>
 xC 57 [.const t14,.const t20] [99,108] 0 fun _ =>
 xC 58 [.const p0,.const (.int .i64 0)] [27,3] 0 fun _ =>
 K .nilIface
theorem V9 (p0 p1 p2 p3:Value):Lk 33 #[p0,p1,p2,p3] (O5 p0 p1 p2 p3):=lk [p0,p1,p2,p3] [] Tryz.func33
theorem QI:Ad Tryz.prog 33:=bd Tryz.func33
def JI (p0 p1 p2:Value) (K:Value→World→Prop):World→Prop :=
 xC 28 [.const p1,.const p2] [3,3] 4 fun t16 =>
 xN 4 t16 fun t17 =>
 xW t17
 (xC 31 [.const (.int .i64 1)] [34] 30 fun t18 =>
 K t18) <|
 OpX Tryz.prog (.nilCheck (.const p0)) 0 fun t20 =>
 xF 80 t20 3 fun t21 =>
 xL 76 t21 fun t22 =>
 OpX Tryz.prog (.range 76 (.const t22)) 0 fun t23 =>
 Loop0 fun next1 =>
 OpX Tryz.prog (.next (.const t23) false) 0 fun t24 =>
 xE t24 0 4 fun t25 =>
 xW t25
 (OpX Tryz.prog (.entry (.const t23)) 0 fun t26 =>
 xE t26 1 81 fun t27 =>
 OpX Tryz.prog (.nilCheck (.const t27)) 0 fun t29 =>
 xF 94 t29 0 fun t30 =>
 xL 91 t30 fun t31 =>
 xO .sub 3 p2 (.int .i64 1) fun t34 =>
 xC 59 [.const t31,.const p1,.const t34] [91,3,3] 30 fun t35 =>
 xK .neq 30 t35 fun t37 =>
 xW t37
 (OpX Tryz.prog (.nilCheck (.const p0)) 0 fun t39 =>
 xF 80 t39 3 fun t40 =>
 xL 76 t40 fun t41 =>
 OpX Tryz.prog (.range 76 (.const t41)) 0 fun t42 =>
 Loop0 fun next2 =>
 OpX Tryz.prog (.next (.const t42) false) 0 fun t43 =>
 xE t43 0 4 fun t44 =>
 xW t44
 (OpX Tryz.prog (.entry (.const t42)) 0 fun t45 =>
 xE t45 1 81 fun t46 =>
 Aj <|
 xP (.nilCheck (.const t46)) 0 fun t48 =>
 qF 94 t48 0 fun t49 =>
 qL 91 t49 fun t50 =>
 xP (.nilCheck (.const p0)) 0 fun t52 =>
 qF 80 t52 0 fun t53 =>
 qL 3 t53 fun t54 =>
 xP (.nilCheck (.const p0)) 0 fun t56 =>
 qF 80 t56 1 fun t57 =>
 qL 3 t57 fun t58 =>
 qP .sub 3 t58 (.int .i64 1) fun t59 =>
 xC 59 [.const t50,.const t54,.const t59] [91,3,3] 30 fun _ =>
 next2) <|
 xC 31 [.const (.int .i64 19)] [34] 30 fun t61 =>
 K t61) <|
 next1) <|
 OpX Tryz.prog (.nilCheck (.const p0)) 0 fun t66 =>
 xF 80 t66 0 fun t67 =>
 xS 3 t67 p1 <|
 OpX Tryz.prog (.nilCheck (.const p0)) 0 fun t68 =>
 xF 80 t68 1 fun t69 =>
 xS 3 t69 p2 <|
 OpX Tryz.prog (.nilCheck (.const p0)) 0 fun t71 =>
 xF 80 t71 3 fun t72 =>
 xL 76 t72 fun t73 =>
 OpX Tryz.prog (.range 76 (.const t73)) 0 fun t74 =>
 Loop0 fun next3 =>
 OpX Tryz.prog (.next (.const t74) false) 0 fun t75 =>
 xE t75 0 4 fun t76 =>
 xW t76
 (OpX Tryz.prog (.entry (.const t74)) 0 fun t77 =>
 xE t77 1 81 fun t78 =>
 xC 51 [.const t78] [81] 0 fun _ =>
 next3) <|
 K .nilIface
theorem Ru (p0 p1 p2:Value):Lk 34 #[p0,p1,p2] (JI p0 p1 p2):=lk [p0,p1,p2] [(14,[]),(33,[]),(54,[])] Tryz.func34
theorem WJ:Ad Tryz.prog 34:=bd Tryz.func34
def LI (p0 p1:Value) (K:Value→World→Prop):World→Prop :=
 xB 125 p1 fun t3 =>
 Aj <|
 xP (.nilCheck (.const p0)) 0 fun t9 =>
 qF 80 t9 3 fun t10 =>
 qL 76 t10 fun t11 =>
 xP (.nilCheck (.const p0)) 0 fun t13 =>
 qF 80 t13 4 fun t14 =>
 qL 3 t14 fun t15 =>
 xR (.lookup 76 (.const t11) (.const t15) false) 81 fun t16 =>
 xF 125 t3 0 fun t17 =>
 xL 3 t17 fun t18 =>
 Join0 (fun k1 =>
 Join0 (fun k2 =>
 xO .eql 3 t18 (.int .i64 1) fun t20 =>
 xW t20
 (Aj <|
 xP (.nilCheck (.const p0)) 0 fun t48 =>
 qF 80 t48 4 fun t49 =>
 qL 3 t49 fun t50 =>
 xP (.nilCheck (.const t16)) 0 fun t52 =>
 qF 94 t52 1 fun t53 =>
 qL 3 t53 fun t54 =>
 qF 125 t3 2 fun t55 =>
 qL 9 t55 fun t56 =>
 OpX Tryz.prog (.build 56 #[(0,.const t50),(1,.const t54),(2,.const t56)]) 56 fun t57 =>
 xC 91 [.const p0,.const t57] [27,56] 0 fun _ =>
 k1) <|
 Join1 (fun k3 =>
 xO .eql 3 t18 (.int .i64 2) fun t22 =>
 xW t22
 (k3 (.bool true)) <|
 xO .eql 3 t18 (.int .i64 3) fun t23 =>
 k3 t23) fun t21 =>
 xW t21
 (xF 125 t3 0 fun t60 =>
 xL 3 t60 fun t61 =>
 xO .eql 3 t61 (.int .i64 2) fun t62 =>
 xC 92 [.const t16,.const t62] [81,4] 30 fun t63 =>
 xK .neq 30 t63 fun t65 =>
 xW t65
 (K (.tuple #[(.string { data:=#[115,112,108,105,116] }),t63])) <|
 xC 93 [.const p0] [27] 0 fun _ =>
 k1) <|
 xO .eql 3 t18 (.int .i64 4) fun t25 =>
 xW t25
 (Aj <|
 xP (.nilCheck (.const t16)) 0 fun t71 =>
 qF 94 t71 0 fun t72 =>
 qL 91 t72 fun t73 =>
 xP (.nilCheck (.const t16)) 0 fun t75 =>
 qF 94 t75 1 fun t76 =>
 qL 3 t76 fun t77 =>
 xC 94 [.const t73,.const t77] [91,3] 3 fun t78 =>
 xP (.nilCheck (.const t16)) 0 fun t79 =>
 qF 94 t79 1 fun t80 =>
 xS 3 t80 t78 <|
 xC 93 [.const p0] [27] 0 fun _ =>
 k1) <|
 xO .eql 3 t18 (.int .i64 5) fun t27 =>
 xW t27
 (xC 95 [.const p0,.const t16] [27,81] 30 fun t85 =>
 K (.tuple #[(.string { data:=#[99,108,111,115,101] }),t85])) <|
 xO .eql 3 t18 (.int .i64 6) fun t29 =>
 xW t29
 (xC 96 [.const p0] [27] 30 fun t87 =>
 K (.tuple #[(.string { data:=#[119,105,110,100,111,119] }),t87])) <|
 xO .eql 3 t18 (.int .i64 7) fun t31 =>
 xW t31
 (xC 98 [.const p0,.const (.int .i64 1)] [27,3] 3 fun t90 =>
 xC 97 [.const p0,.const t90] [27,3] 0 fun _ =>
 k1) <|
 xO .eql 3 t18 (.int .i64 8) fun t33 =>
 xW t33
 (xC 98 [.const p0,.const (.int .i64 (-1))] [27,3] 3 fun t94 =>
 xC 97 [.const p0,.const t94] [27,3] 0 fun _ =>
 k1) <|
 xO .eql 3 t18 (.int .i64 9) fun t35 =>
 xW t35
 (Aj <|
 xP (.nilCheck (.const p0)) 0 fun t97 =>
 qF 80 t97 3 fun t98 =>
 qL 76 t98 fun t99 =>
 qF 125 t3 1 fun t100 =>
 qL 3 t100 fun t101 =>
 xR (.lookup 76 (.const t99) (.const t101) false) 81 fun t102 =>
 qR .eql 81 t102 (.pointer none) fun t103 =>
 xW t103
 (xC 31 [.const (.int .i64 12)] [34] 30 fun t104 =>
 K (.tuple #[(.string { data:=#[115,101,108,101,99,116] }),t104])) <|
 xF 125 t3 1 fun t106 =>
 xL 3 t106 fun t107 =>
 xC 97 [.const p0,.const t107] [27,3] 0 fun _ =>
 k1) <|
 xO .eql 3 t18 (.int .i64 10) fun t37 =>
 xW t37
 (xF 125 t3 1 fun t110 =>
 xL 3 t110 fun t111 =>
 xC 99 [.const t16,.const t111] [81,3] 30 fun t112 =>
 K (.tuple #[(.string { data:=#[109,111,118,101] }),t112])) <|
 xO .eql 3 t18 (.int .i64 11) fun t39 =>
 xW t39
 (xF 125 t3 1 fun t114 =>
 xL 3 t114 fun t115 =>
 xC 58 [.const p0,.const t115] [27,3] 0 fun _ =>
 k1) <|
 xO .eql 3 t18 (.int .i64 14) fun t41 =>
 xW t41
 (k2) <|
 xO .eql 3 t18 (.int .i64 12) fun t43 =>
 xW t43
 (k2) <|
 xO .eql 3 t18 (.int .i64 13) fun t45 =>
 xW t45
 (OpX Tryz.prog (.nilCheck (.const p0)) 0 fun t121 =>
 xF 80 t121 8 fun t122 =>
 xL 3 t122 fun t123 =>
 xO .add 3 t123 (.int .i64 1) fun t124 =>
 OpX Tryz.prog (.nilCheck (.const p0)) 0 fun t125 =>
 xF 80 t125 8 fun t126 =>
 xS 3 t126 t124 <|
 k1) <|
 k1) <|
 OpX Tryz.prog (.nilCheck (.const p0)) 0 fun t118 =>
 xF 80 t118 6 fun t119 =>
 xS 3 t119 (.int .i64 0) <|
 k1) <|
 K (.tuple #[(.string { data:=#[] }),.nilIface])
theorem Xf (p0 p1:Value):Lk 53 #[p0,p1] (LI p0 p1):=lk [p0,p1] [(7,[]),(11,[]),(41,[21])] Tryz.func53
theorem Zf:Ad Tryz.prog 53:=bd Tryz.func53
def OL (p0 p1:Value) (K:Value→World→Prop):World→Prop :=
 Aj <|
 xP (.nilCheck (.const p0)) 0 fun t6 =>
 qF 80 t6 3 fun t7 =>
 qL 76 t7 fun t8 =>
 xP (.nilCheck (.const p0)) 0 fun t10 =>
 qF 80 t10 4 fun t11 =>
 qL 3 t11 fun t12 =>
 xR (.lookup 76 (.const t8) (.const t12) false) 81 fun t13 =>
 Aj <|
 xP (.nilCheck (.const p0)) 0 fun t16 =>
 qF 80 t16 6 fun t17 =>
 qL 3 t17 fun t18 =>
 qP .add 3 t18 p1 fun t20 =>
 xP (.call { callee:=.builtin .max,args:=#[.const t20,.const (.int .i64 0)],argTypes:=#[3,3] }) 3 fun t21 =>
 xP (.nilCheck (.const t13)) 0 fun t24 =>
 qF 94 t24 1 fun t25 =>
 qL 3 t25 fun t26 =>
 xC 39 [.const t13,.const t26] [81,3] 99 fun t27 =>
 xT (qZ 3 t17 t18) <|
 xC 105 [.const t27] [99] 3 fun t28 =>
 xT (qZ 3 t17 t18) <|
 xP (.call { callee:=.builtin .min,args:=#[.const t21,.const t28],argTypes:=#[3,3] }) 3 fun t29 =>
 xP (.nilCheck (.const p0)) 0 fun t30 =>
 qF 80 t30 6 fun t31 =>
 xS 3 t31 t29 <|
 K (.tuple #[])
theorem VD (p0 p1:Value):Lk 58 #[p0,p1] (OL p0 p1):=lk [p0,p1] [] Tryz.func58
theorem Oo:Ad Tryz.prog 58:=bd Tryz.func58
def L1 (p0 p1:Value) (K:Value→World→Prop):World→Prop :=
 xB 56 p1 fun t3 =>
 Aj <|
 xP (.nilCheck (.const p0)) 0 fun t6 =>
 qF 80 t6 7 fun t7 =>
 qL 53 t7 fun t8 =>
 qL 56 t3 fun t9 =>
 OpX Tryz.prog (.buildSlice 53 1 #[(0,.const t9)]) 53 fun t10 =>
 xT (qZ 53 t7 t8) <|
 OpX Tryz.prog (.call { callee:=.builtin .append,args:=#[.const t8,.const t10],argTypes:=#[53,53] }) 53 fun t11 =>
 xP (.nilCheck (.const p0)) 0 fun t12 =>
 qF 80 t12 7 fun t13 =>
 xS 53 t13 t11 <|
 OpX Tryz.prog (.nilCheck (.const p0)) 0 fun t15 =>
 xF 80 t15 7 fun t16 =>
 xL 53 t16 fun t17 =>
 xU t17 53 fun t18 =>
 xO .gtr 3 t18 (.int .i64 100) fun t19 =>
 xW t19
 (Aj <|
 xP (.nilCheck (.const p0)) 0 fun t22 =>
 qF 80 t22 7 fun t23 =>
 qL 53 t23 fun t24 =>
 xP (.nilCheck (.const p0)) 0 fun t26 =>
 qF 80 t26 7 fun t27 =>
 qL 53 t27 fun t28 =>
 xR (.call { callee:=.builtin .len,args:=#[.const t28],argTypes:=#[53] }) 3 fun t29 =>
 qP .sub 3 t29 (.int .i64 100) fun t30 =>
 xP (.slice 53 (.const t24) (some (.const t30)) none none) 53 fun t31 =>
 OpX Tryz.prog (.call { callee:=.builtin .append,args:=#[.const (.slice none 0 0),.const t31],argTypes:=#[53,53] }) 53 fun t32 =>
 xP (.nilCheck (.const p0)) 0 fun t33 =>
 qF 80 t33 7 fun t34 =>
 xS 53 t34 t32 <|
 K (.tuple #[])) <|
 K (.tuple #[])
theorem ZC (p0 p1:Value):Lk 91 #[p0,p1] (L1 p0 p1):=lk [p0,p1] [] Tryz.func91
theorem Ua:Ad Tryz.prog 91:=bd Tryz.func91
def JY (p0:Value) (K:Value→World→Prop):World→Prop :=
 OpX Tryz.prog (.nilCheck (.const p0)) 0 fun t3 =>
 xF 80 t3 5 fun t4 =>
 xC 132 [.const t4] [78] 0 fun _ =>
 OpX Tryz.prog (.nilCheck (.const p0)) 0 fun t7 =>
 xF 80 t7 6 fun t8 =>
 xS 3 t8 (.int .i64 0) <|
 K (.tuple #[])
theorem Uy (p0:Value):Lk 93 #[p0] (JY p0):=lk [p0] [] Tryz.func93
theorem Fz:Ad Tryz.prog 93:=bd Tryz.func93
def KB (p0 p1:Value) (K:Value→World→Prop):World→Prop :=
 Join0 (fun k1 =>
 xC 133 [.const p1] [81] 4 fun t7 =>
 xN 4 t7 fun t8 =>
 xW t8
 (OpX Tryz.prog (.nilCheck (.const p0)) 0 fun t10 =>
 xF 80 t10 3 fun t11 =>
 xL 76 t11 fun t12 =>
 xU t12 76 fun t13 =>
 xO .eql 3 t13 (.int .i64 1) fun t14 =>
 xW t14
 (xC 31 [.const (.int .i64 13)] [34] 30 fun t15 =>
 K t15) <|
 xC 98 [.const p0,.const (.int .i64 1)] [27,3] 3 fun t17 =>
 Aj <|
 xP (.nilCheck (.const p0)) 0 fun t19 =>
 qF 80 t19 3 fun t20 =>
 qL 76 t20 fun t21 =>
 xP (.nilCheck (.const p0)) 0 fun t23 =>
 qF 80 t23 4 fun t24 =>
 qL 3 t24 fun t25 =>
 OpX Tryz.prog (.call { callee:=.builtin .delete,args:=#[.const t21,.const t25],argTypes:=#[76,3] }) 0 fun _ =>
 OpX Tryz.prog (.nilCheck (.const p0)) 0 fun t28 =>
 xF 80 t28 4 fun t29 =>
 xS 3 t29 t17 <|
 k1) <|
 k1) <|
 xC 93 [.const p0] [27] 0 fun _ =>
 K .nilIface
theorem YI (p0 p1:Value):Lk 95 #[p0,p1] (KB p0 p1):=lk [p0,p1] [(2,[])] Tryz.func95
theorem Rj:Ad Tryz.prog 95:=bd Tryz.func95
def Ln (p0:Value) (K:Value→World→Prop):World→Prop :=
 Loop1 (.int .i64 1) fun t3 next1 =>
 xO .leq 3 t3 (.int .i64 9) fun t5 =>
 xW t5
 (OpX Tryz.prog (.nilCheck (.const p0)) 0 fun t9 =>
 xF 80 t9 3 fun t10 =>
 xL 76 t10 fun t11 =>
 OpX Tryz.prog (.lookup 76 (.const t11) (.const t3) false) 81 fun t13 =>
 xO .eql 81 t13 (.pointer none) fun t14 =>
 xW t14
 (Aj <|
 xP (.nilCheck (.const p0)) 0 fun t16 =>
 qF 80 t16 3 fun t17 =>
 qL 76 t17 fun t18 =>
 xP (.nilCheck (.const p0)) 0 fun t21 =>
 qF 80 t21 0 fun t22 =>
 qL 3 t22 fun t23 =>
 xP (.nilCheck (.const p0)) 0 fun t25 =>
 qF 80 t25 1 fun t26 =>
 qL 3 t26 fun t27 =>
 qP .sub 3 t27 (.int .i64 1) fun t28 =>
 xP (.nilCheck (.const p0)) 0 fun t30 =>
 qF 80 t30 2 fun t31 =>
 qL 3 t31 fun t32 =>
 xC 29 [.const t23,.const t28,.const t32] [3,3,3] 81 fun t33 =>
 xT (qZ 76 t17 t18) <|
 OpX Tryz.prog (.mapUpdate 76 (.const t18) (.const t3) (.const t33)) 0 fun _ =>
 xC 97 [.const p0,.const t3] [27,3] 0 fun _ =>
 K .nilIface) <|
 xO .add 3 t3 (.int .i64 1) fun t7 =>
 next1 t7) <|
 xC 31 [.const (.int .i64 15)] [34] 30 fun t37 =>
 K t37
theorem Rm (p0:Value):Lk 96 #[p0] (Ln p0):=lk [p0] [(6,[3])] Tryz.func96
theorem VK:Ad Tryz.prog 96:=bd Tryz.func96
def I0 (p0 p1:Value) (K:Value→World→Prop):World→Prop :=
 OpX Tryz.prog (.nilCheck (.const p0)) 0 fun t6 =>
 xF 80 t6 4 fun t7 =>
 xS 3 t7 p1 <|
 xC 93 [.const p0] [27] 0 fun _ =>
 K (.tuple #[])
theorem W7 (p0 p1:Value):Lk 97 #[p0,p1] (I0 p0 p1):=lk [p0,p1] [] Tryz.func97
theorem Fy:Ad Tryz.prog 97:=bd Tryz.func97
def MJ (p0 p1:Value) (K:Value→World→Prop):World→Prop :=
 xC 16 [.const p0] [27] 40 fun t9 =>
 xU t9 40 fun t11 =>
 Loop1 (.int .i64 0) fun t12 next1 =>
 xO .lss 3 t12 t11 fun t13 =>
 xW t13
 (xI 40 t9 t12 fun t15 =>
 xL 3 t15 fun t16 =>
 OpX Tryz.prog (.nilCheck (.const p0)) 0 fun t19 =>
 xF 80 t19 4 fun t20 =>
 xL 3 t20 fun t21 =>
 xO .eql 3 t16 t21 fun t22 =>
 xW t22
 (xO .add 3 t12 p1 fun t26 =>
 xU t9 40 fun t28 =>
 xO .add 3 t26 t28 fun t29 =>
 xU t9 40 fun t31 =>
 xO .rem 3 t29 t31 fun t32 =>
 xI 40 t9 t32 fun t33 =>
 xL 3 t33 fun t34 =>
 K t34) <|
 xO .add 3 t12 (.int .i64 1) fun t35 =>
 next1 t35) <|
 OpX Tryz.prog (.nilCheck (.const p0)) 0 fun t37 =>
 xF 80 t37 4 fun t38 =>
 xL 3 t38 fun t39 =>
 K t39
theorem P3 (p0 p1:Value):Lk 98 #[p0,p1] (MJ p0 p1):=lk [p0,p1] [(8,[12])] Tryz.func98
theorem HN:Ad Tryz.prog 98:=bd Tryz.func98
def Oi (p0 p1 p2:Value) (K:Value→World→Prop):World→Prop :=
 xC 28 [.const p0,.const p1] [3,3] 4 fun t10 =>
 xN 4 t10 fun t11 =>
 xW t11
 (K (.pointer none)) <|
 OpX Tryz.prog (.makeMap 76 none) 76 fun t15 =>
 OpX Tryz.prog (.build 80 #[(0,.const p0),(1,.const p1),(2,.const p2),(3,.const t15),(4,.const (.int .i64 1))]) 80 fun t16 =>
 OpX Tryz.prog (.box 80 (.const t16)) 27 fun t17 =>
 Aj <|
 xP (.nilCheck (.const t17)) 0 fun t19 =>
 qF 80 t19 3 fun t20 =>
 qL 76 t20 fun t21 =>
 qP .sub 3 p1 (.int .i64 1) fun t24 =>
 xC 29 [.const p0,.const t24,.const p2] [3,3,3] 81 fun t26 =>
 xT (qZ 76 t20 t21) <|
 OpX Tryz.prog (.mapUpdate 76 (.const t21) (.const (.int .i64 1)) (.const t26)) 0 fun _ =>
 K t17
theorem Qg (p0 p1 p2:Value):Lk 10 #[p0,p1,p2] (Oi p0 p1 p2):=lk [p0,p1,p2] [] Tryz.func10
theorem J9:Ad Tryz.prog 10:=bd Tryz.func10
def NH (p0 p1 p2:Value) (K:Value→World→Prop):World→Prop :=
 xC 50 [.const p0,.const p1] [3,3] 91 fun t10 =>
 OpX Tryz.prog (.makeMap 92 none) 92 fun t12 =>
 OpX Tryz.prog (.build 94 #[(0,.const t10),(1,.const (.int .i64 1)),(2,.const p2),(3,.const t12)]) 94 fun t13 =>
 OpX Tryz.prog (.box 94 (.const t13)) 81 fun t14 =>
 xC 51 [.const t14] [81] 0 fun _ =>
 K t14
theorem R1 (p0 p1 p2:Value):Lk 29 #[p0,p1,p2] (NH p0 p1 p2):=lk [p0,p1,p2] [] Tryz.func29
theorem Ma:Ad Tryz.prog 29:=bd Tryz.func29
def Nb (p0 p1:Value) (K:Value→World→Prop):World→Prop :=
 Join1 (fun k1 =>
 xO .geq 3 p0 (.int .i64 1) fun t6 =>
 xW t6
 (xO .leq 3 p0 (.int .i64 200) fun t9 =>
 xW t9
 (xO .geq 3 p1 (.int .i64 2) fun t13 =>
 xW t13
 (xO .leq 3 p1 (.int .i64 60) fun t17 =>
 k1 t17) <|
 k1 (.bool false)) <|
 k1 (.bool false)) <|
 k1 (.bool false)) fun t4 =>
 K t4
theorem QO (p0 p1:Value):Lk 28 #[p0,p1] (Nb p0 p1):=lk [p0,p1] [(3,[4])] Tryz.func28
theorem Jc:Ad Tryz.prog 28:=bd Tryz.func28
def Hn (p0 p1:Value) (K:Value→World→Prop):World→Prop :=
 xO .eql 81 p0 (.pointer none) fun t6 =>
 xW t6
 (K (.pointer none)) <|
 OpX Tryz.prog (.nilCheck (.const p0)) 0 fun t8 =>
 xF 94 t8 3 fun t9 =>
 xL 92 t9 fun t10 =>
 OpX Tryz.prog (.lookup 92 (.const t10) (.const p1) false) 99 fun t12 =>
 K t12
theorem K7 (p0 p1:Value):Lk 39 #[p0,p1] (Hn p0 p1):=lk [p0,p1] [] Tryz.func39
theorem Iq:Ad Tryz.prog 39:=bd Tryz.func39
def OG (p0:Value) (K:Value→World→Prop):World→Prop :=
 OpX Tryz.prog (.nilCheck (.const p0)) 0 fun t6 =>
 xF 94 t6 0 fun t7 =>
 xL 91 t7 fun t8 =>
 xC 36 [.const t8] [91] 37 fun t9 =>
 xU t9 37 fun t10 =>
 Loop1 (.int .i64 0) fun t11 next1 =>
 xO .lss 3 t11 t10 fun t12 =>
 xW t12
 (Join0 (fun k2 =>
 xI 37 t9 t11 fun t13 =>
 xL 51 t13 fun t14 =>
 xA 51 fun t3 =>
 xS 51 t3 t14 <|
 Aj <|
 xP (.nilCheck (.const p0)) 0 fun t16 =>
 qF 94 t16 3 fun t17 =>
 qL 92 t17 fun t18 =>
 qF 51 t3 0 fun t19 =>
 qL 3 t19 fun t20 =>
 xR (.lookup 92 (.const t18) (.const t20) false) 99 fun t21 =>
 xO .neq 99 t21 (.pointer none) fun t23 =>
 xW t23
 (xF 51 t3 1 fun t25 =>
 xF 49 t25 2 fun t26 =>
 xL 3 t26 fun t27 =>
 xF 51 t3 1 fun t28 =>
 xF 49 t28 3 fun t29 =>
 xL 3 t29 fun t30 =>
 xC 84 [.const t21,.const t27,.const t30] [99,3,3] 4 fun _ =>
 k2) <|
 Aj <|
 xP (.nilCheck (.const p0)) 0 fun t33 =>
 qF 94 t33 3 fun t34 =>
 qL 92 t34 fun t35 =>
 qF 51 t3 0 fun t36 =>
 qL 3 t36 fun t37 =>
 qF 51 t3 1 fun t38 =>
 qF 49 t38 2 fun t39 =>
 qL 3 t39 fun t40 =>
 qF 51 t3 1 fun t41 =>
 qF 49 t41 3 fun t42 =>
 qL 3 t42 fun t43 =>
 xP (.nilCheck (.const p0)) 0 fun t45 =>
 qF 94 t45 2 fun t46 =>
 qL 3 t46 fun t47 =>
 xC 85 [.const t40,.const t43,.const t47] [3,3,3] 99 fun t48 =>
 xT (qZ 3 t36 t37) <|
 xT (qZ 92 t34 t35) <|
 OpX Tryz.prog (.mapUpdate 92 (.const t35) (.const t37) (.const t48)) 0 fun _ =>
 k2) <|
 xO .add 3 t11 (.int .i64 1) fun t49 =>
 next1 t49) <|
 K (.tuple #[])
theorem Sg (p0:Value):Lk 51 #[p0] (OG p0):=lk [p0] [(3,[11]),(11,[])] Tryz.func51
theorem EX:Ad Tryz.prog 51:=bd Tryz.func51
def IP (p0 p1:Value) (K:Value→World→Prop):World→Prop :=
 Aj <|
 xP (.nilCheck (.const p0)) 0 fun t9 =>
 qF 94 t9 0 fun t10 =>
 qL 91 t10 fun t11 =>
 xP (.nilCheck (.const p0)) 0 fun t13 =>
 qF 94 t13 1 fun t14 =>
 qL 3 t14 fun t15 =>
 xC 131 [.const t11,.const t15,.const p1] [91,3,4] 180 fun t17 =>
 xP (.extract (.const t17) 0) 3 fun t18 =>
 xP (.extract (.const t17) 1) 30 fun t19 =>
 xK .neq 30 t19 fun t21 =>
 xW t21
 (K t19) <|
 OpX Tryz.prog (.nilCheck (.const p0)) 0 fun t25 =>
 xF 94 t25 1 fun t26 =>
 xS 3 t26 t18 <|
 xC 51 [.const p0] [81] 0 fun _ =>
 K .nilIface
theorem Yr (p0 p1:Value):Lk 92 #[p0,p1] (IP p0 p1):=lk [p0,p1] [] Tryz.func92
theorem Qx:Ad Tryz.prog 92:=bd Tryz.func92
def OS (p0 p1:Value) (K:Value→World→Prop):World→Prop :=
 Join1 (fun k1 =>
 Join1 (fun k2 =>
 xO .eql 3 p1 (.int .i64 1) fun t8 =>
 xW t8
 (k2 (.bool true)) <|
 xO .eql 3 p1 (.int .i64 3) fun t11 =>
 k2 t11) fun t12 =>
 xW t12
 (k1 (.int .i64 (-1))) <|
 k1 (.int .i64 1)) fun t5 =>
 Aj <|
 xP (.nilCheck (.const p0)) 0 fun t14 =>
 qF 94 t14 0 fun t15 =>
 qL 91 t15 fun t16 =>
 xP (.nilCheck (.const p0)) 0 fun t18 =>
 qF 94 t18 1 fun t19 =>
 qL 3 t19 fun t20 =>
 qP .leq 3 p1 (.int .i64 2) fun t22 =>
 xC 134 [.const t16,.const t20,.const t22,.const t5] [91,3,4,3] 30 fun t24 =>
 xK .neq 30 t24 fun t26 =>
 xW t26
 (K t24) <|
 xC 51 [.const p0] [81] 0 fun _ =>
 K .nilIface
theorem QM (p0 p1:Value):Lk 99 #[p0,p1] (OS p0 p1):=lk [p0,p1] [(4,[5]),(6,[12])] Tryz.func99
theorem VB:Ad Tryz.prog 99:=bd Tryz.func99
def Lm (p0:Value) (K:Value→World→Prop):World→Prop :=
 Aj <|
 xP (.nilCheck (.const p0)) 0 fun t7 =>
 qF 94 t7 1 fun t8 =>
 qL 3 t8 fun t9 =>
 xP (.nilCheck (.const p0)) 0 fun t11 =>
 qF 94 t11 0 fun t12 =>
 qL 91 t12 fun t13 =>
 xP (.nilCheck (.const p0)) 0 fun t15 =>
 qF 94 t15 1 fun t16 =>
 qL 3 t16 fun t17 =>
 xC 94 [.const t13,.const t17] [91,3] 3 fun t18 =>
 xT (qZ 3 t8 t9) <|
 xO .eql 3 t18 t9 fun t21 =>
 xW t21
 (K (.bool false)) <|
 OpX Tryz.prog (.nilCheck (.const p0)) 0 fun t23 =>
 xF 94 t23 0 fun t24 =>
 xL 91 t24 fun t25 =>
 xC 175 [.const t25,.const t9] [91,3] 30 fun t27 =>
 xK .neq 30 t27 fun t29 =>
 xW t29
 (K (.bool false)) <|
 OpX Tryz.prog (.nilCheck (.const p0)) 0 fun t31 =>
 xF 94 t31 3 fun t32 =>
 xL 92 t32 fun t33 =>
 OpX Tryz.prog (.call { callee:=.builtin .delete,args:=#[.const t33,.const t9],argTypes:=#[92,3] }) 0 fun _ =>
 OpX Tryz.prog (.nilCheck (.const p0)) 0 fun t37 =>
 xF 94 t37 1 fun t38 =>
 xS 3 t38 t18 <|
 xC 51 [.const p0] [81] 0 fun _ =>
 K (.bool true)
theorem SE (p0:Value):Lk 133 #[p0] (Lm p0):=lk [p0] [] Tryz.func133
theorem UT:Ad Tryz.prog 133:=bd Tryz.func133
end Go.Proofs.YtelplojmbjnplaaGreatDoor
namespace Lyc
open Go
section
variable {P:Program}
theorem KZ {t:TypeId} (h:Ag P t=some 10):∃ms,P.underlying t=some (.interface ms):=by
 unfold Ag at h
 cases hu:P.underlying t with
 | none=>rw[hu] at h;simp at h
 | some d=>rw[hu] at h;cases d<;>simp at h;exact⟨_,rfl⟩
theorem F7 {op:BinOp} {t:TypeId} {a v:Value} {K:Value→World→Prop} {w:World} (h:∀x,(A7 op t a .nilIface x (.const .nilIface)).run P w=.ok (.value v) w):BinN P op t a K w=K v w:=by
 apply propext
 constructor
 ·rintro⟨hx⟩
  have:=hx (.const undef)
  have e:=h (.const undef)
  unfold A7 at e
  rw[e] at this
  exact this
 ·exact fun hk=>⟨fun x=>by have e:=h x;unfold A7 at e;rw[e];exact hk⟩
theorem OY {t:TypeId} (h:Ag P t=some 10) (w:World):(Op.equal t .nilIface .nilIface).run P w=.ok true w:=by
 obtain⟨e,he⟩:=KZ h
 unfold Op.equal Op.maxDepth Op.equalIn
 simp [run_underlying he]
theorem Mz {t:TypeId} (h:Ag P t=some 10) (u:TypeId) (x:Value) (w:World):(Op.equal t (.iface u x) .nilIface).run P w=.ok false w:=by
 obtain⟨e,he⟩:=KZ h
 unfold Op.equal Op.maxDepth Op.equalIn
 simp [run_underlying he]
@[go_sem] theorem dC (t:TypeId) (K:Value→World→Prop) (w:World) (h:Ag P t=some 10):BinN P .eql t .nilIface K w=K (.bool true) w:=by
 refine F7 fun x=>?_
 unfold A7 eqGuard binOp
 simp [OY h]
@[go_sem] theorem cZ (t:TypeId) (K:Value→World→Prop) (w:World) (h:Ag P t=some 10):BinN P .neq t .nilIface K w=K (.bool false) w:=by
 refine F7 fun x=>?_
 unfold A7 eqGuard binOp
 simp [OY h]
@[go_sem] theorem cv (t u:TypeId) (x:Value) (K:Value→World→Prop) (w:World) (h:Ag P t=some 10):BinN P .eql t (.iface u x) K w=K (.bool false) w:=by
 refine F7 fun y=>?_
 unfold A7 eqGuard binOp
 simp [Mz h]
@[go_sem] theorem dO (t u:TypeId) (x:Value) (K:Value→World→Prop) (w:World) (h:Ag P t=some 10):BinN P .neq t (.iface u x) K w=K (.bool true) w:=by
 refine F7 fun y=>?_
 unfold A7 eqGuard binOp
 simp [Mz h]
theorem MF {u ty:TypeId} {x:Value} {K:Value→World→Prop} {w:World} (h:∃d,P.underlying u=some d∧∀ms,d≠.interface ms):OpX P (.makeInterface u (.const x)) ty K w=K (.iface u x) w:=by
 obtain⟨d,hd,hn⟩:=h
 refine AW fun ρ hg=>?_
 have:(Instr.makeInterface u x).run P w=.ok (.iface u x) w:=by
  unfold Instr.makeInterface
  rw[Sem.run_bind,run_underlying hd]
  cases d<;>first|rfl|exact absurd rfl (hn _)
 simp [execOp,An,hg.1,this]
@[go_sem] theorem cq (u ty:TypeId) (x:Value) (K:Value→World→Prop) (w:World) (h:Ag P u=some 4):OpX P (.makeInterface u (.const x)) ty K w=K (.iface u x) w:=by
 obtain⟨e,he⟩:=Hr h
 exact MF ⟨_,he,fun _ h=>by cases h⟩
@[go_sem] theorem bV (u ty:TypeId) (x:Value) (K:Value→World→Prop) (w:World) (h:Ag P u=some 8):OpX P (.makeInterface u (.const x)) ty K w=K (.iface u x) w:=by
 have:∃k,P.underlying u=some (.int k):=by
  unfold Ag at h
  cases hu:P.underlying u with
  | none=>rw[hu] at h;simp at h
  | some d=>rw[hu] at h;cases d<;>simp at h;exact⟨_,rfl⟩
 obtain⟨k,hk⟩:=this
 exact MF ⟨_,hk,fun _ h=>by cases h⟩
theorem Yq {t ty:TypeId} {kk:IntKind} {z:Value} {r c:Nat} {l:AG} {k:Int} {w:World} (ht:BO P t=some (kk,z)) (hh:w.heap[r]?=some (.map (Ar kk l) c)) :
  ∀ρ,BB ρ→(execOp ρ (An (.lookup t (.const (.map (some r))) (.const (.int kk k)) false) ty)).run P w=.ok (.value ((Bo l k).getD z)) w:=by
 obtain⟨kt,e,h1,h2,h3⟩:=E5 ht
 intro ρ hg
 simp only[execOp,An,hg.1,Instr.lookup]
 simp [run_underlying h1,DR hh,Ft h2,Gl h2,Ds h3]
 rw[←Iz l k 0]
 cases hp:Bn l k 0<;>simp [Ds h3]
@[go_sem] theorem cz (t ty:TypeId) (kk:IntKind) (r:Nat) (k:Int) (K:Value→Prop) (w:World) :
  RdX P (.lookup t (.const (.map (some r))) (.const (.int kk k)) false) ty K w =
   OrK (Cy P t kk) (fun z=>OrK (CI kk w.heap[r]?) (fun p=>K ((Bo p.1 k).getD z)) (RdX P (.lookup t (.const (.map (some r))) (.const (.int kk k)) false) ty K w) ()) (RdX P (.lookup t (.const (.map (some r))) (.const (.int kk k)) false) ty K w) () :=
 AF (fun z hz=>AF (fun p hp=>Fq (Yq (FF hz) (Fc hp))) rfl) rfl
theorem P1 {t te:TypeId} {n:Nat} (ht:Ag P t=some 4) (he:AA P t=some te) (hs:Ak P te=some n) (hn:n≠0) {a b:Nat} {ca cb:Array Value} {ta tb:TypeId} {K:Value→World→Prop} {w:World}
  (ha:w.heap[a]?=some (.cells ca ta (0,0))) (hb:w.heap[b]?=some (.cells cb tb (0,0))):BinX P .eql t (.pointer (some ⟨a,0,none⟩)) (.pointer (some ⟨b,0,none⟩)) K w=K (.bool (decide (a=b))) w:=by
 obtain⟨e,hu⟩:=Hr ht
 have hte:te=e:=by unfold AA at he;rw[hu] at he;simpa using he.symm
 subst hte
 have hi:∃j,P.info? te=some j∧j.size=n:=by
  unfold Ak at hs
  cases h:P.info? te with
  | none=>rw[h] at hs;simp at hs
  | some j=>rw[h] at hs;exact⟨j,rfl,by simpa using hs⟩
 obtain⟨j,hj,hjs⟩:=hi
 refine KN fun x y=>?_
 unfold A7 eqGuard
 by_cases hab:a=b
 ·subst hab
  simp [run_eql_ptr_same (P:=P) w ⟨a,0,none⟩ hu hj]
 ·simp [run_eql_ptr_other (P:=P) w hu hj (by omega) (show(⟨a,0,none⟩:Addr)≠⟨b,0,none⟩ by simp [hab]) ha hb,hab]
end
theorem Fj {α:Type} (f:α→Int × Value × Nat) (l:List α) (id:Int):Bo (l.map f) id=(l.find? fun x=>(f x).1 == id).map fun x=>(f x).2.1:=by
 induction l with
 | nil=>rfl
 | cons x l ih =>
  simp only[List.map_cons,Bo,List.find?_cons]
  by_cases h:id=(f x).1
  ·simp [h]
  ·have:((f x).1 == id)=false:=by simp;omega
   simp [h,this,ih]
theorem Jv {α:Type} (f:α→Int × Value × Nat) (l:List α) (id:Int):Ch (l.map f) id=(l.eraseP fun x=>(f x).1 == id).map f:=by
 induction l with
 | nil=>rfl
 | cons x l ih =>
  simp only[List.map_cons,Ch,List.eraseP_cons]
  by_cases h:id=(f x).1
  ·simp [h]
  ·have:((f x).1 == id)=false:=by simp;omega
   simp [h,this,ih]
theorem Hg {l:AG} {k:Int} (h:Bo l k=none) (v:Value) (c:Nat):Cr l k v c=l++[(k,v,c)]:=by
 induction l with
 | nil=>rfl
 | cons x l ih =>
  simp only[Bo] at h
  by_cases hk:k=x.1
  ·simp [hk] at h
  ·simp only[hk,if_false] at h
   simp [Cr,hk,ih h]
theorem Mu {α:Type} {R:α→α→Prop} (hs:∀x y,R x y→R y x) {l:List α} (h:l.Pairwise R) {x y:α} (hx:x∈l) (hy:y∈l) (hne:x≠y):R x y:=by
 induction l with
 | nil=>simp at hx
 | cons z l ih =>
  rw[List.pairwise_cons] at h
  rcases List.mem_cons.1 hx with rfl|hx'<;>rcases List.mem_cons.1 hy with rfl|hy'
  ·exact absurd rfl hne
  ·exact h.1 y hy'
  ·exact hs _ _ (h.1 x hx')
  ·exact ih h.2 hx' hy'
end Lyc
namespace Go.Proofs.YtelplojmbjnplaaGreatDoor
open Lyc Go
structure Pt where
 id:Int
 born:Nat
 t:Nat
 W:Nat
 H:Nat
 T:Tm
 M:Scm
 G:Hs
def Pt.own (p:Pt) (x:Nat):Prop:=Ff p.t p.T p.M p.G x
def Pt.ent (p:Pt):Int × Value × Nat:=(p.id,.pointer (some ⟨p.t,0,none⟩),p.born)
def BG (base:Nat) (w:World) (p:Pt):Prop:=TmAt base w p.t p.W p.H p.T p.M p.G∧p.M.rows=[]
def Qm (e:TypeId):Bool:=Nat.beq e 163 || Nat.beq e 236 || Nat.beq e 167 || Nat.beq e 57 || Nat.beq e 226
theorem BG.tag {base:Nat} {w:World} {p:Pt} (h:BG base w p):∀x,p.own x→∃c e fr,w.heap[x]?=some (.cells c e fr)∧Qm e=true:=by
 obtain⟨h,-⟩:=h
 obtain⟨⟨c1,f1,a1⟩,⟨c2,f2,a2⟩,⟨c3,f3,a3⟩,a4⟩:=h.scr.at_.tags
 obtain⟨⟨c5,f5,a5⟩,a6⟩:=h.his.tag2
 have hb:=h.hb
 unfold Tm.obj at hb
 rintro x (rfl|rfl|hx|rfl|hx|⟨r,hr,hne,o,ha⟩)
 ·exact⟨_,_,_,hb,rfl⟩
 ·exact⟨_,_,_,a1,rfl⟩
 ·simp only[Scm.blk,List.mem_cons] at hx
  rcases hx with rfl|rfl|hx
  ·exact⟨_,_,_,a2,rfl⟩
  ·exact⟨_,_,_,a3,rfl⟩
  ·obtain⟨c,f,b⟩:=a4 _ hx
   exact⟨_,_,_,b,rfl⟩
 ·exact⟨_,_,_,a5,rfl⟩
 ·obtain⟨c,f,b⟩:=a6 x hx
  exact⟨_,_,_,b,rfl⟩
 ·obtain⟨b,o',c,e',fr,pre,post,e1,e2,e3,-,-⟩:=(h.his.rows r hr).at_ hne
  rw[ha] at e1
  cases e1
  exact⟨_,_,_,e2,by rw[Lh e3];rfl⟩
theorem BG.lt {base:Nat} {w:World} {p:Pt} (h:BG base w p):∀x,p.own x→x<w.heap.size:=fun x hx=>let ⟨_,_,_,e,_⟩:=h.tag x hx;Aa e
theorem BG.chg {base:Nat} {w w':World} {p:Pt} {F:List Nat} (h:BG base w p) (hc:Chg F w w') (hF:∀x∈F,¬p.own x):BG base w' p:=⟨h.1.frame h.2 hc hF,h.2⟩
theorem BG.chg0 {base:Nat} {w w':World} {p:Pt} (h:BG base w p) (hc:Chg [] w w'):BG base w' p:=h.chg hc (by simp)
structure Wn where
 n:Int
 born:Nat
 b:Nat
 lb:Nat
 tm:Nat
 tc:Nat
 L:Ly
 active:Int
 room:Int
 pts:List Pt
def Wn.own (W:Wn) (x:Nat):Prop:=x=W.b∨x=W.lb∨x=W.tm∨x∈W.L.root.blks∨∃p∈W.pts,p.own x
def Wn.ent (W:Wn):Int × Value × Nat:=(W.n,.pointer (some ⟨W.b,0,none⟩),W.born)
structure WnAt (base:Nat) (w:World) (W:Wn):Prop where
 hb:w.heap[W.b]?=some (.cells #[.pointer (some ⟨W.lb,0,none⟩),.int .i64 W.active,.int .i64 W.room,.map (some W.tm)] 94)
 lay:LAt w W.lb W.L
 hm:w.heap[W.tm]?=some (.map (Ar .i64 (W.pts.map Pt.ent)) W.tc)
 each:∀p∈W.pts,BG base w p
 apart:W.pts.Pairwise fun p q=>∀x,p.own x→¬q.own x
 ids:(W.pts.map (·.id)).Nodup
 lo:∀x,W.own x→base≤x
structure Wn.ok (W:Wn):Prop where
 lay:W.L.ok
 act:W.active∈W.L.root.ids
 has:∀i,i∈W.pts.map (·.id)↔i∈W.L.root.ids
 size:∀p∈W.pts,∀r,(p.id,r)∈W.L.root.panes W.L.R→(p.W:Int)=r.w∧(p.H:Int)=r.h
section
variable {base:Nat} {w w':World} {W:Wn}
theorem WnAt.lt (h:WnAt base w W):∀x,W.own x→x<w.heap.size:=by
 rintro x (rfl|rfl|rfl|hx|⟨p,hp,hx⟩)
 ·exact Aa h.hb
 ·exact Aa h.lay.hb
 ·exact Aa h.hm
 ·exact h.lay.tree.lt x hx
 ·exact(h.each p hp).lt x hx
theorem WnAt.chg {F:List Nat} (h:WnAt base w W) (hc:Chg F w w') (hF:∀x∈F,¬W.own x):WnAt base w' W :=
 ⟨hc.keep h.hb fun hm=>hF _ hm (.inl rfl),h.lay.chg hc (fun hm=>hF _ hm (.inr (.inl rfl))) fun x hx hm=>hF _ hm (.inr (.inr (.inr (.inl hx)))),hc.keep h.hm fun hm=>hF _ hm (.inr (.inr (.inl rfl))),
  fun p hp=>(h.each p hp).chg hc fun x hx ho=>hF x hx (.inr (.inr (.inr (.inr ⟨p,hp,ho⟩)))),h.apart,h.ids,h.lo⟩
theorem WnAt.chg0 (h:WnAt base w W) (hc:Chg [] w w'):WnAt base w' W:=h.chg hc (by simp)
theorem WnAt.trn {o o':Nat→Prop} (h:WnAt base w W) (ht:Trn o o' w w') (hF:∀x,o x→¬W.own x):WnAt base w' W:=by
 obtain⟨F,hc,hf⟩:=ht.chg
 exact h.chg hc fun x hx=>hF x (hf x hx)
theorem WnAt.off (h:WnAt base w W) {p:Pt} (hp:p∈W.pts):¬p.own W.b∧¬p.own W.lb∧¬p.own W.tm∧∀x∈W.L.root.blks,¬p.own x:=by
 have ht:=(h.each p hp).tag
 refine⟨fun ho=>?_,fun ho=>?_,fun ho=>?_,fun x hx ho=>?_⟩
 ·obtain⟨c,e,fr,h1,h2⟩:=ht _ ho
  rw[h.hb] at h1
  simp only[Option.some.injEq,Obj.cells.injEq] at h1
  rw[←h1.2.1] at h2
  exact absurd h2 (by decide)
 ·obtain⟨c,e,fr,h1,h2⟩:=ht _ ho
  rw[h.lay.hb] at h1
  simp only[Option.some.injEq,Obj.cells.injEq] at h1
  rw[←h1.2.1] at h2
  exact absurd h2 (by decide)
 ·obtain⟨c,e,fr,h1,h2⟩:=ht _ ho
  rw[h.hm] at h1
  simp at h1
 ·obtain⟨c,e,fr,h1,h2⟩:=ht _ ho
  obtain⟨c',fr',h3⟩:=h.lay.tree.tag x hx
  rw[h3] at h1
  simp only[Option.some.injEq,Obj.cells.injEq] at h1
  rw[←h1.2.1] at h2
  exact absurd h2 (by decide)
theorem WnAt.ne (h:WnAt base w W):W.b≠W.lb∧W.b≠W.tm∧W.lb≠W.tm∧W.b∉W.L.root.blks∧W.lb∉W.L.root.blks∧W.tm∉W.L.root.blks:=by
 have hb:=h.hb
 have hl:=h.lay.hb
 have hm:=h.hm
 refine⟨BJ hb hl rfl,fun e=>?_,fun e=>?_,fun hx=>?_,fun hx=>?_,fun hx=>?_⟩
 ·rw[e,hm] at hb;simp at hb
 ·rw[e,hm] at hl;simp at hl
 ·obtain⟨c',fr',h3⟩:=h.lay.tree.tag _ hx;exact BJ hb h3 rfl rfl
 ·obtain⟨c',fr',h3⟩:=h.lay.tree.tag _ hx;exact BJ hl h3 rfl rfl
 ·obtain⟨c',fr',h3⟩:=h.lay.tree.tag _ hx;rw[hm] at h3;simp at h3
end
theorem Hx {l:List Pt} {id:Int} {p:Pt} (h:(l.find? fun x=>x.ent.1 == id)=some p):p∈l∧p.id=id:=⟨List.mem_of_find?_eq_some h,by simpa [Pt.ent] using List.find?_some h⟩
def Bf (l:List Pt) (q:Pt):List Pt:=l.map fun p=>if p.id=q.id then q else p
theorem Ip (l:List Pt) (q:Pt):(Bf l q).map (·.id)=l.map (·.id):=by
 unfold Bf
 rw[List.map_map]
 apply List.map_congr_left
 intro p _
 simp only[Function.comp]
 split
 ·rename_i h;exact h.symm
 ·rfl
theorem TL {l:List Pt} {p q:Pt} (hp:p∈l) (hn:(l.map (·.id)).Nodup) (he:q.ent=p.ent):(Bf l q).map Pt.ent=l.map Pt.ent:=by
 unfold Bf
 rw[List.map_map]
 apply List.map_congr_left
 intro r hr
 simp only[Function.comp]
 split
 ·rename_i h
  have hid:q.id=p.id:=congrArg Prod.fst he
  have:r=p:=by
   clear he
   induction l with
   | nil=>simp at hp
   | cons x l ih =>
    rw[List.map_cons,List.nodup_cons] at hn
    rcases List.mem_cons.1 hp with rfl|hp'<;>rcases List.mem_cons.1 hr with rfl|hr'
    ·rfl
    ·exact absurd (List.mem_map.2 ⟨r,hr',by omega⟩) hn.1
    ·exact absurd (List.mem_map.2 ⟨p,hp',by omega⟩) hn.1
    ·exact ih hp' hn.2 hr'
  rw[he,this]
 ·rfl
theorem Iw {l:List Pt} {q r:Pt} (h:r∈Bf l q):r=q∨(r∈l∧r.id≠q.id):=by
 unfold Bf at h
 obtain⟨p,hp,rfl⟩:=List.mem_map.1 h
 split
 ·exact .inl rfl
 ·rename_i h;exact .inr ⟨hp,h⟩
section
variable {base:Nat} {w w':World} {W:Wn}
theorem WnAt.turn (h:WnAt base w W) {p q:Pt} (hp:p∈W.pts) (he:q.ent=p.ent) (ht:Trn p.own q.own w w') (hq:BG base w' q) (hbase:base≤w.heap.size) :
  WnAt base w' { W with pts:=Bf W.pts q }∧Trn W.own ({ W with pts:=Bf W.pts q }:Wn).own w w':=by
 have hid:q.id=p.id:=congrArg Prod.fst he
 have hoff:=h.off hp
 have hoth:∀r∈W.pts,r.id≠q.id→∀x,p.own x→¬r.own x:=by
  intro r hr hne x hx hxr
  have hap:=h.apart
  have hrp:r≠p:=by rintro rfl;omega
  exact Mu (fun a b hab x hb ha=>hab x ha hb) hap hp hr (fun e=>hrp e.symm) x hx hxr
 have hgrow:∀x,({ W with pts:=Bf W.pts q }:Wn).own x→W.own x∨w.heap.size≤x:=by
  rintro x (rfl|rfl|rfl|hx|⟨r,hr,hx⟩)
  ·exact .inl (.inl rfl)
  ·exact .inl (.inr (.inl rfl))
  ·exact .inl (.inr (.inr (.inl rfl)))
  ·exact .inl (.inr (.inr (.inr (.inl hx))))
  ·rcases Iw hr with rfl|⟨hr,-⟩
   ·exact(ht.grow x hx).imp (fun hx=>.inr (.inr (.inr (.inr ⟨p,hp,hx⟩)))) id
   ·exact .inl (.inr (.inr (.inr (.inr ⟨r,hr,hx⟩))))
 obtain⟨F,hc,hF⟩:=ht.chg
 refine⟨⟨hc.keep h.hb fun hm=>hoff.1 (hF _ hm),h.lay.chg hc (fun hm=>hoff.2.1 (hF _ hm)) fun x hx hm=>hoff.2.2.2 x hx (hF _ hm),?_,fun r hr=>?_,?_,?_,fun x hx=>?_⟩,⟨⟨F,hc,fun x hx=>.inr (.inr (.inr (.inr ⟨p,hp,hF x hx⟩)))⟩,hgrow⟩⟩
 ·dsimp only
  rw[TL hp h.ids he]
  exact hc.keep h.hm fun hm=>hoff.2.2.1 (hF _ hm)
 ·rcases Iw hr with rfl|⟨hr,hne⟩
  ·exact hq
  ·exact(h.each r hr).chg hc fun x hx hxr=>hoth r hr hne x (hF x hx) hxr
 ·dsimp only[Bf]
  refine List.pairwise_map.2 ((List.pairwise_iff_getElem.2 fun i j hi hj hij=>?_))
  have hap:=List.pairwise_iff_getElem.1 h.apart i j hi hj hij
  have hids:W.pts[i].id≠W.pts[j].id:=by
   have:=List.pairwise_iff_getElem.1 (show(W.pts.map (·.id)).Pairwise (·≠·) from h.ids) i j (by simpa using hi) (by simpa using hj) hij
   simpa using this
  have lti:=fun x=>(h.each _ (List.getElem_mem hi)).lt x
  have ltj:=fun x=>(h.each _ (List.getElem_mem hj)).lt x
  by_cases hi':W.pts[i].id=q.id
  ·have hj':¬W.pts[j].id=q.id:=fun e=>hids (by rw[hi',e])
   rw[if_pos hi',if_neg hj']
   intro x hx hxj
   rcases ht.grow x hx with h1|h1
   ·exact hoth _ (List.getElem_mem hj) hj' x h1 hxj
   ·have:=ltj x hxj;omega
  ·rw[if_neg hi']
   by_cases hj':W.pts[j].id=q.id
   ·rw[if_pos hj']
    intro x hxi hx
    rcases ht.grow x hx with h1|h1
    ·exact hoth _ (List.getElem_mem hi) hi' x h1 hxi
    ·have:=lti x hxi;omega
   ·rw[if_neg hj']
    exact hap
 ·dsimp only
  rw[Ip]
  exact h.ids
 ·exact(hgrow x hx).elim (h.lo x) fun h=>by omega
theorem TmAt.base_le {base base':Nat} {w:World} {t W H:Nat} {T:Tm} {M:Scm} {G:Hs} (h:TmAt base w t W H T M G) (hb:base'≤base):TmAt base' w t W H T M G :=
 ⟨h.hb,⟨h.scr.at_,h.scr.ok,h.scr.w,h.scr.h,h.scr.gw,fun x hx=>Nat.le_trans hb (h.scr.lo x hx)⟩,h.his,h.eok,h.kl,h.dk,fun x hx=>Nat.le_trans hb (h.lo x hx),h.sep,h.far,h.rw⟩
theorem WnAt.add (h:WnAt base w W) {w1:World} (hc:Chg [] w w1) {q:Pt} (hq:BG base w1 q) (hid:q.id∉W.pts.map (·.id)) (hnew:∀x,q.own x→w.heap.size≤x) (hbase:base≤w.heap.size) :
  WnAt base (Ab w1 W.tm (.map (Ar .i64 (W.pts.map Pt.ent++[q.ent])) (W.tc+1))) { W with pts:=W.pts++[q],tc:=W.tc+1 }∧Trn W.own ({ W with pts:=W.pts++[q],tc:=W.tc+1 }:Wn).own w (Ab w1 W.tm (.map (Ar .i64 (W.pts.map Pt.ent++[q.ent])) (W.tc+1))):=by
 have hlt:=h.lt
 have h1:=h.chg0 hc
 have hne:=h.ne
 have hcs:Chg [W.tm] w1 (Ab w1 W.tm (.map (Ar .i64 (W.pts.map Pt.ent++[q.ent])) (W.tc+1))):=(Chg.refl _ _).set _ _ (by simp)
 have hm2:=Au w1 W.tm (.map (Ar .i64 (W.pts.map Pt.ent++[q.ent])) (W.tc+1)) W.tm rfl (Aa h1.hm)
 have hgrow:∀x,({ W with pts:=W.pts++[q],tc:=W.tc+1 }:Wn).own x→W.own x∨w.heap.size≤x:=by
  rintro x (rfl|rfl|rfl|hx|⟨r,hr,hx⟩)
  ·exact .inl (.inl rfl)
  ·exact .inl (.inr (.inl rfl))
  ·exact .inl (.inr (.inr (.inl rfl)))
  ·exact .inl (.inr (.inr (.inr (.inl hx))))
  ·rcases List.mem_append.1 hr with hr|hr
   ·exact .inl (.inr (.inr (.inr (.inr ⟨r,hr,hx⟩))))
   ·simp at hr;subst hr;exact .inr (hnew x hx)
 have htm:W.tm<w.heap.size:=Aa h.hm
 refine⟨⟨hcs.keep h1.hb (by simp;exact hne.2.1),h1.lay.chg hcs (by simp;exact hne.2.2.1) (fun x hx hm=>by simp at hm;subst hm;exact hne.2.2.2.2.2 hx),?_,fun r hr=>?_,?_,?_,fun x hx=>?_⟩,Trn.of ((hc.mono (by simp)).trans hcs (fun x hx=>.inl hx)) (by simp;exact .inr (.inr (.inl rfl))) hgrow⟩
 ·dsimp only
  rw[List.map_append]
  exact hm2
 ·rcases List.mem_append.1 hr with hr|hr
  ·exact(h1.each r hr).chg hcs fun x hx=>by simp at hx;subst hx;exact(h.off hr).2.2.1
  ·simp at hr;subst hr
   exact hq.chg hcs fun x hx hq=>by simp at hx;subst hx;have:=hnew _ hq;omega
 ·dsimp only
  rw[List.pairwise_append]
  refine⟨h.apart,by simp,fun a ha b hb x hxa hxb=>?_⟩
  simp at hb;subst hb
  have:=hnew x hxb
  have:=(h.each a ha).lt x hxa
  omega
 ·dsimp only
  rw[List.map_append,List.nodup_append]
  exact⟨h.ids,by simp,fun a ha b hb=>by simp at hb;subst hb;rintro rfl;exact hid ha⟩
 ·exact(hgrow x hx).elim (h.lo x) fun h=>by omega
theorem EW (h:WnAt base w W) (ok:W.L.ok) (hsub:∀i∈W.pts.map (·.id),i∈W.L.root.ids) (hbase:base≤w.heap.size):Calls Tryz.prog 51 #[.pointer (some ⟨W.b,0,none⟩)] w
  (Ac fun _ w'=>∃pts tc,WnAt base w' { W with pts:=pts,tc:=tc }∧(∀i,i∈pts.map (·.id)↔i∈W.L.root.ids)∧(∀p∈pts,∀r,(p.id,r)∈W.L.root.panes W.L.R→(p.W:Int)=r.w∧(p.H:Int)=r.h)∧Trn W.own ({ W with pts:=pts,tc:=tc }:Wn).own w w'):=by
 have hpl:=Mt.panes_len W.L.root W.L.R
 have hpi:=Mt.panes_ids W.L.root W.L.R
 have hfew:=ok.few
 have hpk:=Mt.panes_ok ok.fits ok.R
 have hnd:((W.L.root.panes W.L.R).map (·.1)).Nodup:=by rw[hpi];exact ok.nd
 have hb:=h.hb
 have hlt:=h.lt
 apply Sg
 intro K hK
 unfold OG
 simp -dsimp (disch:=first|omega|(simp only[go_sem,seval];try omega))only[go_sem,seval,hb]
 refine OpX.call Gb rfl (Calls.ret (Fp h.lay ok) ?_)
 rintro v w1 ⟨ho,hc1⟩
 obtain⟨a,cap,rfl,-,hs,hown,hfirst⟩:=ho.form
 have h1:=h.chg0 hc1
 have hz1:=hc1.size
 simp -dsimp (disch:=first|omega|(simp only[go_sem,seval];try omega))only[go_sem,seval]
 refine Loop1.st (fun q:Nat × List Pt × Nat=>.int .i64 (q.1:Int)) (fun q w'=>q.1≤(W.L.root.panes W.L.R).length∧WnAt base w' { W with pts:=q.2.1,tc:=q.2.2 }∧(∀i∈q.2.1.map (·.id),i∈W.L.root.ids) ∧
  (∀j,j<q.1→∀x,(W.L.root.panes W.L.R)[j]?=some x→∃p∈q.2.1,p.id=x.1∧(p.W:Int)=x.2.w∧(p.H:Int)=x.2.h)∧Trn W.own ({ W with pts:=q.2.1,tc:=q.2.2 }:Wn).own w1 w') (fun q=>(W.L.root.panes W.L.R).length-q.1) (0,W.pts,W.tc) rfl ⟨by simp,h1,hsub,by simp,Trn.refl _ _⟩ ?_
 rintro next ⟨i,pts,tc⟩ wi hn ⟨hi,hA,hsb,hdone,htr⟩
 dsimp only at hi hA hsb hdone htr ⊢
 simp -dsimp (disch:=first|omega|(simp only[go_sem,seval];try omega))only[go_sem,seval]
 refine BrW.dec (fun g=>?_) (fun g=>?_)
 ·have hi':i<(W.L.root.panes W.L.R).length:=by omega
  have hsi:Sx wi (some 51) Ck a (W.L.root.panes W.L.R):=by
   obtain⟨F,hc,hF⟩:=htr.chg
   refine hs.chg hc fun b o hb hne hm=>?_
   obtain⟨gb,e,hge,-⟩:=hfirst hne
   rw[e] at hb
   cases hb
   have:=hlt _ (hF _ hm)
   omega
  obtain⟨b',o,rfl,hbl,hcell⟩:=hsi.get FJ (List.getElem?_eq_getElem hi')
  have hxi:(W.L.root.panes W.L.R)[i]?=some (W.L.root.panes W.L.R)[i]:=List.getElem?_eq_getElem hi'
  have hxm:=List.getElem_mem hi'
  obtain⟨x,hx⟩:∃x,x=(W.L.root.panes W.L.R)[i]:=⟨_,rfl⟩
  rw[←hx] at hcell hxi hxm
  obtain⟨xr,-⟩:=hpk x hxm
  have hxid:x.1∈W.L.root.ids:=by rw[←hpi];exact List.mem_map.2 ⟨x,hxm,rfl⟩
  obtain⟨X,hX⟩:∃X:Nat,(X:Int)=x.2.w:=⟨x.2.w.toNat,by have:=xr.w0;omega⟩
  obtain⟨Y,hY⟩:∃Y:Nat,(Y:Int)=x.2.h:=⟨x.2.h.toNat,by have:=xr.h0;omega⟩
  have b1:=xr.w0
  have b2:=xr.h0
  have b3:=xr.xw
  have b4:=xr.yh
  have b5:=xr.x0
  have b6:=xr.y0
  simp only[Ck,Rc.cells] at hcell
  have hbi:=hA.hb
  have hmi:=hA.hm
  dsimp only at hbi hmi
  have hdist:∀j,j<i→∀y,(W.L.root.panes W.L.R)[j]?=some y→y.1≠x.1:=by
   intro j hj y hy
   have:=List.pairwise_iff_getElem.1 (show((W.L.root.panes W.L.R).map (·.1)).Pairwise (·≠·) from hnd) j i (by rw[List.length_map];omega) (by rw[List.length_map];omega) hj
   rw[List.getElem_map,List.getElem_map,←hx] at this
   obtain⟨hlt',e⟩:=List.getElem?_eq_some_iff.1 hy
   rw[e] at this
   exact this
  refine Join0.cut (fun w'=>∃pts' tc',WnAt base w' { W with pts:=pts',tc:=tc' }∧(∀i∈pts'.map (·.id),i∈W.L.root.ids)∧(∀j,j<i+1→∀x,(W.L.root.panes W.L.R)[j]?=some x→∃p∈pts',p.id=x.1∧(p.W:Int)=x.2.w∧(p.H:Int)=x.2.h)∧Trn W.own ({ W with pts:=pts',tc:=tc' }:Wn).own w1 w') ?_ ?_
  ·have lbi:=Aa hbi
   have lmi:=Aa hmi
   have hca:=AE wi (.cells #[.int .i64 x.1,.int .i64 x.2.x,.int .i64 x.2.y,.int .i64 x.2.w,.int .i64 x.2.h] 51)
   cases hf:pts.find? fun y=>y.ent.1 == x.1 with
   | some p =>
    obtain⟨hp,hpid⟩:=Hx hf
    have hfe:Bo (pts.map Pt.ent) x.1=some (.pointer (some ⟨p.t,0,none⟩)):=by rw[Fj,hf];rfl
    simp -dsimp (disch:=first|omega|(simp only[go_sem,seval];try omega))only[go_sem,seval,hcell,hbi,hmi,hfe,Option.getD_some]
    have hA1:=hA.chg0 hca.drew
    obtain⟨hpt,hpr⟩:=hA1.each p hp
    have hzi:base≤(wi.alloc (.cells #[.int .i64 x.1,.int .i64 x.2.x,.int .i64 x.2.y,.int .i64 x.2.w,.int .i64 x.2.h] 51)).drew.heap.size:=by
     have:=hca.size
     have:=htr.size
     have:wi.heap.size≤(wi.alloc (.cells #[.int .i64 x.1,.int .i64 x.2.x,.int .i64 x.2.y,.int .i64 x.2.w,.int .i64 x.2.h] 51)).drew.heap.size:=by assumption
     omega
    have T0:Trn ({ W with pts:=pts,tc:=tc }:Wn).own ({ W with pts:=pts,tc:=tc }:Wn).own wi (wi.alloc (.cells #[.int .i64 x.1,.int .i64 x.2.x,.int .i64 x.2.y,.int .i64 x.2.w,.int .i64 x.2.h] 51)).drew:=Trn.of0 hca.drew fun _ h=>.inl h
    generalize (wi.alloc (.cells #[.int .i64 x.1,.int .i64 x.2.x,.int .i64 x.2.y,.int .i64 x.2.w,.int .i64 x.2.h] 51)).drew=wj at hA1 hpt hzi T0 ⊢
    rw[←hX,←hY]
    refine OpX.call YA rfl (Calls.ret (Qh hpt hpr hzi X Y (by omega) (by omega) (by omega) (by omega)) ?_)
    rintro v w2 ⟨-,M',hT',hr',hc2,hk2,hS'⟩
    obtain⟨q,hq⟩:∃q:Pt,q=⟨p.id,p.born,p.t,X,Y,p.T,M',p.G⟩:=⟨_,rfl⟩
    have hqo:BG base w2 q:=by rw[hq];exact⟨hT',hr'⟩
    have hqt:Trn p.own q.own wj w2:=by
     rw[hq]
     refine Trn.of hc2 (fun x hx=>?_) fun x hx=>?_
     ·rcases List.mem_cons.1 hx with e|hx
      ·exact .inr (.inl e)
      ·exact .inr (.inr (.inl hx))
     ·rcases hx with hx|hx|hx|hx|hx|hx
      ·exact .inl (.inl hx)
      ·exact .inl (.inr (.inl hx))
      ·exact(hk2 x hx).imp (fun h=>.inr (.inr (.inl h))) id
      ·exact .inl (.inr (.inr (.inr (.inl hx))))
      ·exact .inl (.inr (.inr (.inr (.inr (.inl hx)))))
      ·exact .inl (.inr (.inr (.inr (.inr (.inr hx)))))
    obtain⟨n1,n2⟩:=hA1.turn hp (q:=q) (by rw[hq];rfl) hqt hqo hzi
    dsimp only at n1 n2
    have hqid:q.id=x.1:=by rw[hq];exact hpid
    refine⟨Bf pts q,tc,n1,fun i hi=>?_,fun j hj y hy=>?_,(htr.trans T0).trans n2⟩
    ·rw[Ip] at hi;exact hsb i hi
    ·have hqm:q∈Bf pts q:=by
      unfold Bf
      exact List.mem_map.2 ⟨p,hp,by rw[if_pos (by rw[hqid];exact hpid)]⟩
     rcases Nat.lt_or_ge j i with h1|h1
     ·obtain⟨p',hp',e⟩:=hdone j h1 y hy
      refine⟨p',?_,e⟩
      unfold Bf
      exact List.mem_map.2 ⟨p',hp',by rw[if_neg (by rw[hqid,e.1];exact hdist j h1 y hy)]⟩
     ·have:j=i:=by omega
      subst this
      rw[hxi] at hy
      cases hy
      exact⟨q,hqm,hqid,by rw[hq];exact⟨hX,hY⟩⟩
   | none =>
    have hfe:Bo (pts.map Pt.ent) x.1=none:=by rw[Fj,hf];rfl
    simp -dsimp (disch:=first|omega|(simp only[go_sem,seval];try omega))only[go_sem,seval,hcell,hbi,hmi,hfe,Option.getD_none]
    have hzi:base≤(wi.alloc (.cells #[.int .i64 x.1,.int .i64 x.2.x,.int .i64 x.2.y,.int .i64 x.2.w,.int .i64 x.2.h] 51)).drew.drew.heap.size:=by
     have:=hca.size
     have:=htr.size
     have:wi.heap.size≤(wi.alloc (.cells #[.int .i64 x.1,.int .i64 x.2.x,.int .i64 x.2.y,.int .i64 x.2.w,.int .i64 x.2.h] 51)).drew.drew.heap.size:=by assumption
     omega
    have hbj:=hca.keep hbi (by simp)
    have hmj:=hca.keep hmi (by simp)
    have a5:(wi.alloc (.cells #[.int .i64 x.1,.int .i64 x.2.x,.int .i64 x.2.y,.int .i64 x.2.w,.int .i64 x.2.h] 51)).heap[wi.heap.size]?=some (.cells #[.int .i64 x.1,.int .i64 x.2.x,.int .i64 x.2.y,.int .i64 x.2.w,.int .i64 x.2.h] 51):=by simp -dsimp (disch:=first|omega|(simp only[go_sem,seval];try omega))only[go_sem,seval]
    have hcj:Chg [] wi (wi.alloc (.cells #[.int .i64 x.1,.int .i64 x.2.x,.int .i64 x.2.y,.int .i64 x.2.w,.int .i64 x.2.h] 51)).drew.drew:=hca.drew.drew
    replace hbj:(wi.alloc (.cells #[.int .i64 x.1,.int .i64 x.2.x,.int .i64 x.2.y,.int .i64 x.2.w,.int .i64 x.2.h] 51)).drew.drew.heap[W.b]?=_:=hbj
    replace hmj:(wi.alloc (.cells #[.int .i64 x.1,.int .i64 x.2.x,.int .i64 x.2.y,.int .i64 x.2.w,.int .i64 x.2.h] 51)).drew.drew.heap[W.tm]?=_:=hmj
    replace a5:(wi.alloc (.cells #[.int .i64 x.1,.int .i64 x.2.x,.int .i64 x.2.y,.int .i64 x.2.w,.int .i64 x.2.h] 51)).drew.drew.heap[wi.heap.size]?=_:=a5
    generalize (wi.alloc (.cells #[.int .i64 x.1,.int .i64 x.2.x,.int .i64 x.2.y,.int .i64 x.2.w,.int .i64 x.2.h] 51)).drew.drew=wj at hcj hbj hmj a5 hzi ⊢
    rw[←hX,←hY]
    refine OpX.call TC rfl (Calls.ret (Qf wj X Y (by omega) (by omega) (by omega) (by omega) W.room) ?_)
    rintro v w2 ⟨t,s,hh,M,G,rfl,hT,-,-,-,hc2,hnew,hrows⟩
    have hc02:=hcj.trans0 hc2
    have hb2:=hc2.keep hbj (by simp)
    have hm2:=hc2.keep hmj (by simp)
    have a52:=hc2.keep a5 (by simp)
    obtain⟨q,hq⟩:∃q:Pt,q=⟨x.1,tc,t,X,Y,⟨s,hh,[],Esc.new⟩,M,G⟩:=⟨_,rfl⟩
    have hqo:BG base w2 q:=by rw[hq];exact⟨hT.base_le hzi,hrows⟩
    have hqid:q.id=x.1:=by rw[hq]
    have hqe:q.ent=(x.1,.pointer (some ⟨t,0,none⟩),tc):=by rw[hq];rfl
    have hzj:=hcj.size
    obtain⟨n1,n2⟩:=hA.add hc02 (q:=q) hqo (by
     dsimp only
     rw[hqid]
     intro hm
     obtain⟨p,hp,e⟩:=List.mem_map.1 hm
     have:=List.find?_eq_none.1 hf p hp
     simp [Pt.ent,e] at this) (fun y hy=>by rw[hq] at hy;exact Nat.le_trans hzj (hnew y hy)) (by have:=htr.size;omega)
    dsimp only at n1 n2
    rw[hqe] at n1 n2
    have hpc:CT (pts.map Pt.ent) x.1 tc=tc+1:=by simp [CT,hfe]
    simp -dsimp (disch:=first|omega|(simp only[go_sem,seval];try omega))only[go_sem,seval,hb2,hm2,a52,Hg hfe,hpc]
    refine⟨pts++[q],tc+1,n1,fun i hi=>?_,fun j hj y hy=>?_,htr.trans n2⟩
    ·rw[List.map_append] at hi
     rcases List.mem_append.1 hi with hi|hi
     ·exact hsb i hi
     ·simp at hi;rw[hi,hqid];exact hxid
    ·rcases Nat.lt_or_ge j i with h1|h1
     ·obtain⟨p',hp',e⟩:=hdone j h1 y hy
      exact⟨p',List.mem_append_left _ hp',e⟩
     ·have:j=i:=by omega
      subst this
      rw[hxi] at hy
      cases hy
      exact⟨q,by simp,hqid,by rw[hq];exact⟨hX,hY⟩⟩
  ·rintro w2 ⟨pts',tc',a1,a2,a3,a4⟩
   have e1:(i:Int)+1=((i+1:Nat):Int):=by omega
   simp -dsimp (disch:=first|omega|(simp only[go_sem,seval];try omega))only[go_sem,seval,e1]
   exact hn (i+1,pts',tc') _ ⟨by dsimp only;omega,a1,a2,a3,a4⟩ (by dsimp only;omega)
 ·have hil:i=(W.L.root.panes W.L.R).length:=by omega
  have hall:∀x∈W.L.root.panes W.L.R,∃p∈pts,p.id=x.1∧(p.W:Int)=x.2.w∧(p.H:Int)=x.2.h:=by
   intro x hx
   obtain⟨j,hj,e⟩:=List.mem_iff_getElem.1 hx
   exact hdone j (by omega) x (by rw[List.getElem?_eq_getElem hj,e])
  refine hK _ _ ⟨pts,tc,hA,fun i=>⟨hsb i,fun hi=>?_⟩,fun p hp r hr=>?_,(Trn.of0 hc1 fun _ h=>.inl h).trans htr⟩
  ·rw[←hpi] at hi
   obtain⟨x,hx,rfl⟩:=List.mem_map.1 hi
   obtain⟨p,hp,e,-⟩:=hall x hx
   exact List.mem_map.2 ⟨p,hp,e⟩
  ·obtain⟨p',hp',e,e1,e2⟩:=hall _ hr
   have:p'=p:=by
    have hids:=hA.ids
    dsimp only at hids e
    clear hn hdone hall hA hsb htr
    induction pts with
    | nil=>simp at hp
    | cons z l ih =>
     rw[List.map_cons,List.nodup_cons] at hids
     rcases List.mem_cons.1 hp with rfl|h1<;>rcases List.mem_cons.1 hp' with rfl|h2
     ·rfl
     ·exact absurd (List.mem_map.2 ⟨p',h2,e⟩) hids.1
     ·exact absurd (List.mem_map.2 ⟨p,h1,e.symm⟩) hids.1
     ·exact ih h1 h2 hids.2
   subst this
   exact⟨e1,e2⟩
end
set_option maxRecDepth 100000
def IJ (p0:Value) (K:Value→World→Prop):World→Prop :=
 xA 34 fun t3 =>
 Join1 (fun k1 =>
 xK .neq 30 p0 fun t5 =>
 xW t5
 (OpX Tryz.prog (.makeInterface 89 (.const t3)) 20 fun t8 =>
 xC 35 [.const p0,.const t8] [30,20] 4 fun t9 =>
 k1 t9) <|
 k1 (.bool false)) fun t10 =>
 xW t10
 (xL 34 t3 fun t11 =>
 K t11) <|
 K (.int .i64 0)
theorem KV (p0:Value):Lk 12 #[p0] (IJ p0):=lk [p0] [(6,[10])] Tryz.func12
theorem E8:Ad Tryz.prog 12:=bd Tryz.func12
def OW (p0 p1:Value) (K:Value→World→Prop):World→Prop :=
 xK .eql 30 p0 fun t6 =>
 xW t6
 (xO .eql 34 p1 (.int .i64 0) fun t8 =>
 K t8) <|
 OpX Tryz.prog (.makeInterface 34 (.const p1)) 30 fun t11 =>
 xC 47 [.const p0,.const t11] [30,30] 4 fun t12 =>
 K t12
theorem Qn (p0 p1:Value):Lk 26 #[p0,p1] (OW p0 p1):=lk [p0,p1] [] Tryz.func26
theorem VU:Ad Tryz.prog 26:=bd Tryz.func26
def Jd (p0:Value) (K:Value→World→Prop):World→Prop :=
 Join1 (fun k1 =>
 Loop2 p0 (.slice none 0 0) fun t0 t3 next2 =>
 xK .neq 30 t0 fun t10 =>
 xW t10
 (OpX Tryz.prog (.typeAssert (.const t0) 30 109 true) 0 fun t14 =>
 xE t14 1 4 fun t15 =>
 xE t14 0 109 fun t16 =>
 xW t15
 (OpX Tryz.prog (.nilCheck (.const t16)) 0 fun t18 =>
 xF 111 t18 0 fun t19 =>
 xL 30 t19 fun t20 =>
 next2 t20 t3) <|
 OpX Tryz.prog (.typeAssert (.const t0) 30 112 true) 0 fun t21 =>
 xE t21 1 4 fun t22 =>
 xE t21 0 112 fun t23 =>
 xW t22
 (OpX Tryz.prog (.nilCheck (.const t23)) 0 fun t26 =>
 xF 114 t26 1 fun t27 =>
 xL 9 t27 fun t28 =>
 OpX Tryz.prog (.buildSlice 108 1 #[(0,.const t28)]) 108 fun t29 =>
 OpX Tryz.prog (.call { callee:=.builtin .append,args:=#[.const t3,.const t29],argTypes:=#[108,108] }) 108 fun t30 =>
 OpX Tryz.prog (.nilCheck (.const t23)) 0 fun t32 =>
 xF 114 t32 0 fun t33 =>
 xL 30 t33 fun t34 =>
 next2 t34 t30) <|
 OpX Tryz.prog (.typeAssert (.const t0) 30 115 true) 0 fun t35 =>
 xE t35 1 4 fun t36 =>
 xE t35 0 115 fun t37 =>
 xW t36
 (OpX Tryz.prog (.nilCheck (.const t37)) 0 fun t39 =>
 xF 118 t39 0 fun t40 =>
 xL 116 t40 fun t41 =>
 xI 116 t41 (.int .i64 0) fun t42 =>
 xL 30 t42 fun t43 =>
 next2 t43 t3) <|
 OpX Tryz.prog (.typeAssert (.const t0) 30 34 true) 0 fun t44 =>
 xE t44 1 4 fun t45 =>
 xE t44 0 34 fun _ =>
 xW t45
 (k1 t3) <|
 xC 48 [.const t0] [30] 30 fun t13 =>
 next2 t13 t3) <|
 k1 t3) fun t3_1 =>
 xC 49 [.const t3_1,.const (.string { data:=#[47] })] [108,9] 9 fun t48 =>
 K t48
theorem S5 (p0:Value):Lk 27 #[p0] (Jd p0):=lk [p0] [(8,[3]),(9,[0,3])] Tryz.func27
theorem Y4:Ad Tryz.prog 27:=bd Tryz.func27
def Nh (p0:Value) (K:Value→World→Prop):World→Prop :=
 xO .eql 34 p0 (.int .i64 0) fun t4 =>
 xW t4
 (K .nilIface) <|
 OpX Tryz.prog (.makeInterface 34 (.const p0)) 30 fun t6 =>
 K t6
theorem Yl (p0:Value):Lk 31 #[p0] (Nh p0):=lk [p0] [] Tryz.func31
theorem BX:Ad Tryz.prog 31:=bd Tryz.func31
def Ib (p0 p1:Value) (K:Value→World→Prop):World→Prop :=
 xK .eql 30 p0 fun t6 =>
 xW t6
 (K .nilIface) <|
 OpX Tryz.prog (.build 111 #[(0,.const p0),(1,.const p1)]) 111 fun t9 =>
 OpX Tryz.prog (.box 111 (.const t9)) 109 fun t10 =>
 OpX Tryz.prog (.makeInterface 109 (.const t10)) 30 fun t11 =>
 K t11
theorem IV (p0 p1:Value):Lk 54 #[p0,p1] (Ib p0 p1):=lk [p0,p1] [] Tryz.func54
theorem K9:Ad Tryz.prog 54:=bd Tryz.func54
def HJ (p0 p1:Value) (K:Value→World→Prop):World→Prop :=
 xK .eql 30 p0 fun t6 =>
 xW t6
 (K .nilIface) <|
 OpX Tryz.prog (.build 114 #[(0,.const p0),(1,.const p1)]) 114 fun t9 =>
 OpX Tryz.prog (.box 114 (.const t9)) 112 fun t10 =>
 OpX Tryz.prog (.makeInterface 112 (.const t10)) 30 fun t11 =>
 K t11
theorem K3 (p0 p1:Value):Lk 55 #[p0,p1] (HJ p0 p1):=lk [p0,p1] [] Tryz.func55
theorem MY:Ad Tryz.prog 55:=bd Tryz.func55
def Ke (p0:Value) (K:Value→World→Prop):World→Prop :=
 xU p0 116 fun t7 =>
 Loop2 (.slice none 0 0) (.int .i64 0) fun t3 t8 next1 =>
 xO .lss 3 t8 t7 fun t9 =>
 xW t9
 (Join1 (fun k2 =>
 xI 116 p0 t8 fun t10 =>
 xL 30 t10 fun t11 =>
 xK .neq 30 t11 fun t13 =>
 xW t13
 (OpX Tryz.prog (.buildSlice 116 1 #[(0,.const t11)]) 116 fun t16 =>
 OpX Tryz.prog (.call { callee:=.builtin .append,args:=#[.const t3,.const t16],argTypes:=#[116,116] }) 116 fun t17 =>
 k2 t17) <|
 k2 t3) fun t3_1 =>
 xO .add 3 t8 (.int .i64 1) fun t18 =>
 next1 t3_1 t18) <|
 xU t3 116 fun t20 =>
 xO .eql 3 t20 (.int .i64 0) fun t22 =>
 xW t22
 (K .nilIface) <|
 xO .eql 3 t20 (.int .i64 1) fun t24 =>
 xW t24
 (xI 116 t3 (.int .i64 0) fun t26 =>
 xL 30 t26 fun t27 =>
 K t27) <|
 OpX Tryz.prog (.build 118 #[(0,.const t3)]) 118 fun t29 =>
 OpX Tryz.prog (.box 118 (.const t29)) 115 fun t30 =>
 OpX Tryz.prog (.makeInterface 115 (.const t30)) 30 fun t31 =>
 K t31
theorem ZK (p0:Value):Lk 56 #[p0] (Ke p0):=lk [p0] [(8,[3,8]),(15,[3])] Tryz.func56
theorem Ug:Ad Tryz.prog 56:=bd Tryz.func56
def JV (p0:Value) (K:Value→World→Prop):World→Prop :=
 OpX Tryz.prog (.nilCheck (.const p0)) 0 fun t4 =>
 xF 111 t4 0 fun t5 =>
 xL 30 t5 fun t6 =>
 K t6
theorem Zk (p0:Value):Lk 261 #[p0] (JV p0):=lk [p0] [] Tryz.func261
theorem MS:Ad Tryz.prog 261:=bd Tryz.func261
def O0 (p0:Value) (K:Value→World→Prop):World→Prop :=
 OpX Tryz.prog (.nilCheck (.const p0)) 0 fun t4 =>
 xF 114 t4 0 fun t5 =>
 xL 30 t5 fun t6 =>
 K t6
theorem Yx (p0:Value):Lk 263 #[p0] (O0 p0):=lk [p0] [] Tryz.func263
theorem Jk:Ad Tryz.prog 263:=bd Tryz.func263
def Ax (c:Int):Value:=.iface 34 (.int .i64 c)
theorem BV (w:World) (c:Int):Calls Tryz.prog 31 #[.int .i64 c] w (Ac fun v w'=>v=(if c=0 then .nilIface else Ax c)∧w'=w):=by
 apply Yl
 intro K hK
 unfold Nh
 simp -dsimp (disch:=first|omega|(simp only[go_sem,seval];try omega))only[go_sem,seval]
 refine BrW.dec (fun g=>?_) (fun g=>?_)
 ·exact hK _ _ ⟨by rw[if_pos g],rfl⟩
 ·simp -dsimp (disch:=first|omega|(simp only[go_sem,seval];try omega))only[go_sem,seval]
  exact hK _ _ ⟨by rw[if_neg g];rfl,rfl⟩
theorem QX (w:World) (i:Int):Calls Tryz.prog 54 #[.nilIface,.int .i64 i] w (Ac fun v w'=>v=.nilIface∧w'=w):=by
 apply IV
 intro K hK
 unfold Ib
 simp -dsimp (disch:=first|omega|(simp only[go_sem,seval];try omega))only[go_sem,seval]
 exact hK _ _ ⟨rfl,rfl⟩
theorem Yy (w:World) (s:ByteArray):Calls Tryz.prog 55 #[.nilIface,.string s] w (Ac fun v w'=>v=.nilIface∧w'=w):=by
 apply K3
 intro K hK
 unfold HJ
 simp -dsimp (disch:=first|omega|(simp only[go_sem,seval];try omega))only[go_sem,seval]
 exact hK _ _ ⟨rfl,rfl⟩
theorem RQ (w:World) (t:TypeId) (x:Value) (i:Int):Calls Tryz.prog 54 #[.iface t x,.int .i64 i] w (Ac fun v w'=>v=.iface 109 (.pointer (some ⟨w.heap.size,0,none⟩))∧w'.heap[w.heap.size]?=some (.cells #[.iface t x,.int .i64 i] 111)∧Chg [] w w'):=by
 apply IV
 intro K hK
 unfold Ib
 simp -dsimp (disch:=first|omega|(simp only[go_sem,seval];try omega))only[go_sem,seval]
 refine hK _ _ ⟨rfl,?_,by(repeat (first|exact Chg.refl _ _|apply Chg.drew|apply Chg.alloc|(refine Chg.set ?_ _ _ (by first|(left;simp;done)|(right;omega)))))⟩
 simp -dsimp (disch:=first|omega|(simp only[go_sem,seval];try omega))only[go_sem,seval]
theorem Ph (w:World) (t:TypeId) (x:Value) (s:ByteArray):Calls Tryz.prog 55 #[.iface t x,.string s] w (Ac fun v w'=>v=.iface 112 (.pointer (some ⟨w.heap.size,0,none⟩))∧w'.heap[w.heap.size]?=some (.cells #[.iface t x,.string s] 114)∧Chg [] w w'):=by
 apply K3
 intro K hK
 unfold HJ
 simp -dsimp (disch:=first|omega|(simp only[go_sem,seval];try omega))only[go_sem,seval]
 refine hK _ _ ⟨rfl,?_,by(repeat (first|exact Chg.refl _ _|apply Chg.drew|apply Chg.alloc|(refine Chg.set ?_ _ _ (by first|(left;simp;done)|(right;omega)))))⟩
 simp -dsimp (disch:=first|omega|(simp only[go_sem,seval];try omega))only[go_sem,seval]
end Go.Proofs.YtelplojmbjnplaaGreatDoor
