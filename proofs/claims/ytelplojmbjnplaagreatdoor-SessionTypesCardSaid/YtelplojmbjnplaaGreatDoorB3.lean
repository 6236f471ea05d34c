/- Helpers of this claim, part 3: engine, translated functions, contracts, plain laws. -/
import Derived.Test.YtelplojmbjnplaaGreatDoorB2
import Derived.Shelf.Small.Strs
import Derived.Shelf.LaysM
import Derived.Shelf.Strconv.Clone
import Derived.Shelf.Strings.Search1
import Derived.Shelf.Sort.Plain
import Derived.Shelf.Bits.Mul64
import Derived.Shelf.Slices.In.SortNone
import Derived.Test.YtelplojmbjnplaaGreatDoorProg
import Derived.Test.YtelplojmbjnplaaGreatDoorB1
import Derived.Laws.BytesString
import Derived.Test.YtelplojmbjnplaaGreatDoorB0
import Derived.Maps.RangeRun
import Derived.Sort.OwnSortedInts
import Derived.LaidEqlPtr
set_option linter.unusedSimpArgs false
set_option linter.unusedVariables false
namespace Go.Proofs.YtelplojmbjnplaaGreatDoor
open Lyc Go
theorem Did.calm {w w1:World} {s:Nat} {M:Scm} {T:Scr} (h:Did w s M w1 T):∃M1:Scm,w1.heap[s]?=some M1.obj∧M1.S=T∧M1.S.tabs.length=200∧Did w s M (Ab w1 s ({ M1 with S:={ M1.S with waits:=false } }:Scm).obj) T.calm:=by
 obtain⟨M1,hA,hS,hc,hb⟩:=h
 refine⟨M1,hA.hb,hS,hA.tl,?_⟩
 have:=Did.set hA hc hb M1.S.calm rfl rfl hA.tl rfl
 rw[hS] at this
 rw[←hS] at this ⊢
 exact this
theorem Rk {w:World} {s:Nat} {M:Scm} (h:SAt w s M) (ok:M.S.ok) (r:Int):Calls Tryz.prog 136 #[.pointer (some ⟨s,0,none⟩),.int .i32 r] w (Ac fun _ w'=>Did w s M w' (M.S.ctl r)):=by
 have hb:=h.hb
 have hl:=Aa hb
 have tl:=h.tl
 have w1b:=ok.w1
 have w0:=ok.w0
 have nx:=ok.nx
 apply Sn
 intro K hK
 unfold LY
 refine Join0.cut (fun w'=>∃T,Did w s M w' T∧M.S.ctl r=T.calm) ?_ ?_
 ·simp -dsimp (disch:=first|omega|(simp only[go_sem,seval];try omega))only[go_sem,seval]
  unfold Scr.ctl
  unfold Scr.ctl at hK
  refine BrW.dec (fun h2=>?_) (fun h2=>?_)
  ·subst h2
   have e1:max ((M.S.now.x:Int)-1) 0=((M.S.now.x-1:Nat):Int):=by omega
   simp -dsimp (disch:=first|omega|(simp only[go_sem,seval];try omega))only[go_sem,seval,hb,e1]
   exact⟨_,Did.set h (Chg.refl _ _) (fun b hb=>.inl hb) (M.S.at (M.S.now.x-1) M.S.now.y) rfl rfl tl rfl,rfl⟩
  ·rw[if_neg h2]
   rw[if_neg h2] at hK
   simp -dsimp (disch:=first|omega|(simp only[go_sem,seval];try omega))only[go_sem,seval]
   refine BrW.dec (fun h3=>?_) (fun h3=>?_)
   ·rw[if_pos h3]
    have e1:(M.S.now.x:Int)+1=((M.S.now.x+1:Nat):Int):=by omega
    simp -dsimp (disch:=first|omega|(simp only[go_sem,seval];try omega))only[go_sem,seval,hb,e1]
    refine Loop1.st (fun x:Nat=>.int .i64 (x:Int)) (fun x w'=>Chg [] w w'∧M.S.now.x+1≤x∧x≤M.S.w∧Dr M.S.tabs M.S.w (M.S.w-x) x=Dr M.S.tabs M.S.w (M.S.w-(M.S.now.x+1)) (M.S.now.x+1)) (fun x=>M.S.w-x) (M.S.now.x+1) rfl ⟨Chg.refl _ _,by omega,by omega,rfl⟩ ?_
    rintro next x w1 hn ⟨hc,k1,k2,k3⟩
    have hb1:=hc.keep hb (by simp)
    have hA1:=h.chg0 hc
    refine Join1.cut (fun v w'=>v=.bool (decide (x<M.S.w∧M.S.tabs.getD x false=false))∧w1=w') ?_ ?_
    ·simp -dsimp (disch:=first|omega|(simp only[go_sem,seval];try omega))only[go_sem,seval,hb1]
     refine BrW.dec (fun h4=>?_) (fun h4=>?_)
     ·simp -dsimp (disch:=first|omega|(simp only[go_sem,seval];try omega))only[go_sem,seval,hb1]
      refine congrArg Value.bool ?_
      have:x<M.S.w:=by omega
      simp [this]
     ·exact⟨congrArg Value.bool (decide_eq_false (by omega)).symm,rfl⟩
    ·rintro v w2 ⟨rfl,rfl⟩
     refine BrW.dec (fun h4=>?_) (fun h4=>?_)
     ·have e2:(x:Int)+1=((x+1:Nat):Int):=by omega
      simp -dsimp (disch:=first|omega|(simp only[go_sem,seval];try omega))only[go_sem,seval,e2]
      refine hn (x+1) _ ⟨hc,by omega,by omega,?_⟩ (by omega)
      rw[←k3]
      obtain⟨k,hk⟩:∃k,M.S.w-x=k+1:=⟨M.S.w-x-1,by omega⟩
      rw[hk]
      conv=>rhs;unfold Dr
      rw[if_pos h4]
      congr 1
      omega
     ·have k4:Dr M.S.tabs M.S.w (M.S.w-x) x=x:=by
       rcases Nat.eq_zero_or_pos (M.S.w-x) with hk|hk
       ·rw[hk];rfl
       ·obtain⟨k,hk⟩:∃k,M.S.w-x=k+1:=⟨M.S.w-x-1,by omega⟩
        rw[hk];unfold Dr;rw[if_neg h4]
      have e2:min (x:Int) ((M.S.w:Int)-1)=((min x (M.S.w-1):Nat):Int):=by omega
      simp -dsimp (disch:=first|omega|(simp only[go_sem,seval];try omega))only[go_sem,seval,hb1,e2]
      refine⟨_,Did.set hA1 (hc.mono (by simp)) (fun b hb=>.inl hb) (M.S.at (min x (M.S.w-1)) M.S.now.y) rfl rfl tl rfl,?_⟩
      unfold Scr.tab
      rw[←k3,k4]
   ·rw[if_neg h3]
    rw[if_neg h3] at hK
    refine Join1.cut (fun v w'=>v=.bool (decide (r=10∨r=11∨r=12))∧w=w') ?_ ?_
    ·simp -dsimp (disch:=first|omega|(simp only[go_sem,seval];try omega))only[go_sem,seval]
     refine BrW.dec (fun h4=>?_) (fun h4=>?_)
     ·exact⟨congrArg Value.bool (decide_eq_true (.inl h4)).symm,rfl⟩
     ·simp -dsimp (disch:=first|omega|(simp only[go_sem,seval];try omega))only[go_sem,seval]
      refine BrW.dec (fun h5=>?_) (fun h5=>?_)
      ·exact⟨congrArg Value.bool (decide_eq_true (.inr (.inl h5))).symm,rfl⟩
      ·simp -dsimp (disch:=first|omega|(simp only[go_sem,seval];try omega))only[go_sem,seval]
       simp [h4,h5]
    ·rintro v w2 ⟨rfl,rfl⟩
     refine BrW.dec (fun h4=>?_) (fun h4=>?_)
     ·rw[if_pos h4]
      refine OpX.call F5 rfl (Calls.ret (GM h ok) ?_)
      rintro v w1 hd
      exact⟨_,hd,rfl⟩
     ·rw[if_neg h4]
      rw[if_neg h4] at hK
      simp -dsimp (disch:=first|omega|(simp only[go_sem,seval];try omega))only[go_sem,seval]
      refine BrW.dec (fun h5=>?_) (fun h5=>?_)
      ·rw[if_pos h5]
       simp -dsimp (disch:=first|omega|(simp only[go_sem,seval];try omega))only[go_sem,seval,hb]
       exact⟨_,Did.set h (Chg.refl _ _) (fun b hb=>.inl hb) (M.S.at 0 M.S.now.y) rfl rfl tl rfl,rfl⟩
      ·rw[if_neg h5] at hK
       exact hK _ _ (Did.refl h)
 ·rintro w1 ⟨T,hd,e⟩
  obtain⟨M1,hb1,hS,tl1,hd⟩:=hd.calm
  rw[e] at hK
  simp -dsimp (disch:=first|omega|(simp only[go_sem,seval];try omega))only[go_sem,seval,hb1]
  exact hK _ _ hd
theorem VR {w:World} {s:Nat} {M:Scm} (h:SAt w s M) (ok:M.S.ok) (r:Int):Calls Tryz.prog 137 #[.pointer (some ⟨s,0,none⟩),.int .i32 r] w (Ac fun _ w'=>Did w s M w' (M.S.esc r)):=by
 have hb:=h.hb
 have hl:=Aa hb
 have tl:=h.tl
 have w1b:=ok.w1
 have w0:=ok.w0
 have nx:=ok.nx
 apply ZK
 intro K hK
 unfold Nk
 refine Join0.cut (fun w'=>∃T,Did w s M w' T∧M.S.esc r=T.calm) ?_ ?_
 ·unfold Scr.esc
  unfold Scr.esc at hK
  refine Join0.cut (fun w'=>∃M1:Scm,SAt w' s M1∧M1.S.ok∧Chg (s::M.blk) w w'∧M1.blk=M.blk∧M.S.esc r=M1.S.below.calm) ?_ ?_
  ·simp -dsimp (disch:=first|omega|(simp only[go_sem,seval];try omega))only[go_sem,seval]
   refine BrW.dec (fun h1=>?_) (fun h1=>?_)
   ·rw[if_pos h1] at hK
    simp -dsimp (disch:=first|omega|(simp only[go_sem,seval];try omega))only[go_sem,seval]
    refine OpX.call IM rfl (Calls.ret (HY h) ?_)
    rintro v w1 hd
    exact hK _ _ hd
   rw[if_neg h1] at hK ⊢
   simp -dsimp (disch:=first|omega|(simp only[go_sem,seval];try omega))only[go_sem,seval]
   refine BrW.dec (fun h2=>?_) (fun h2=>?_)
   ·rw[if_pos h2] at hK
    simp -dsimp (disch:=first|omega|(simp only[go_sem,seval];try omega))only[go_sem,seval,hb]
    exact hK _ _ (Did.trans0 (Did.set h (Chg.refl _ _) (fun b hb=>.inl hb) { M.S with tabs:=M.S.tabs.set M.S.now.x true } rfl rfl (by rw[List.length_set];exact tl) rfl) (Chg.refl _ _).drew)
   rw[if_neg h2] at hK ⊢
   simp -dsimp (disch:=first|omega|(simp only[go_sem,seval];try omega))only[go_sem,seval]
   refine BrW.dec (fun h3=>?_) (fun h3=>?_)
   ·simp -dsimp (disch:=first|omega|(simp only[go_sem,seval];try omega))only[go_sem,seval,hb]
    refine⟨_,h.set (M.S.at 0 M.S.now.y) rfl rfl tl rfl,(ok.at w0 ok.ny).ok,(Chg.refl _ _).set _ _ (by simp),rfl,?_⟩
    unfold Scr.esc
    rw[if_neg h1,if_neg h2,if_pos h3]
   rw[if_neg h3] at hK ⊢
   simp -dsimp (disch:=first|omega|(simp only[go_sem,seval];try omega))only[go_sem,seval]
   refine BrW.dec (fun h4=>?_) (fun h4=>?_)
   ·refine⟨_,h,ok,Chg.refl _ _,rfl,?_⟩
    unfold Scr.esc
    rw[if_neg h1,if_neg h2,if_neg h3,if_pos h4]
   rw[if_neg h4] at hK ⊢
   simp -dsimp (disch:=first|omega|(simp only[go_sem,seval];try omega))only[go_sem,seval]
   refine BrW.dec (fun h5=>?_) (fun h5=>?_)
   ·rw[if_pos h5]
    simp -dsimp (disch:=first|omega|(simp only[go_sem,seval];try omega))only[go_sem,seval]
    refine OpX.call PS rfl (Calls.ret (Uj h ok) ?_)
    rintro v w1 hd
    exact⟨_,hd,rfl⟩
   rw[if_neg h5] at hK ⊢
   simp -dsimp (disch:=first|omega|(simp only[go_sem,seval];try omega))only[go_sem,seval]
   refine BrW.dec (fun h6=>?_) (fun h6=>?_)
   ·rw[if_pos h6]
    simp -dsimp (disch:=first|omega|(simp only[go_sem,seval];try omega))only[go_sem,seval]
    refine OpX.call IK rfl (Calls.ret (Hm h) ?_)
    rintro v w1 hd
    exact⟨_,hd,rfl⟩
   rw[if_neg h6] at hK ⊢
   simp -dsimp (disch:=first|omega|(simp only[go_sem,seval];try omega))only[go_sem,seval]
   refine BrW.dec (fun h7=>?_) (fun h7=>?_)
   ·rw[if_pos h7]
    simp -dsimp (disch:=first|omega|(simp only[go_sem,seval];try omega))only[go_sem,seval]
    refine OpX.call MY rfl (Calls.ret (RF h ok) ?_)
    rintro v w1 hd
    exact⟨_,hd,rfl⟩
   rw[if_neg h7] at hK
   exact hK _ _ (Did.refl h)
  ·rintro w1 ⟨M1,hA,ok1,hc,hbl,e⟩
   refine OpX.call F5 rfl (Calls.ret (GM hA ok1) ?_)
   rintro v w2 hd
   refine⟨_,Did.trans hc (fun b hb=>.inl (by rw[←hbl];exact hb)) hd,?_⟩
   rw[←e];rfl
 ·rintro w1 ⟨T,hd,e⟩
  obtain⟨M1,hb1,hS,tl1,hd⟩:=hd.calm
  rw[e] at hK
  simp -dsimp (disch:=first|omega|(simp only[go_sem,seval];try omega))only[go_sem,seval,hb1]
  exact hK _ _ hd
theorem Uo (b:Bool):(BW b=0)=(b=false):=by cases b<;>simp [BW]
theorem Sj (b:Bool):(BW b=1)=(b=true):=by cases b<;>simp [BW]
theorem RO {w:World} {s:Nat} {M:Scm} (h:SAt w s M) (ok:M.S.ok) (n:Int) (on:Bool):Calls Tryz.prog 186 #[.pointer (some ⟨s,0,none⟩),.int .i64 n,.bool on] w (Ac fun _ w'=>Did w s M w' (M.S.mode n on)):=by
 have hb:=h.hb
 have hl:=Aa hb
 have tl:=h.tl
 apply Ve
 intro K hK
 unfold Lh
 unfold Scr.mode at hK
 simp -dsimp (disch:=first|omega|(simp only[go_sem,seval];try omega))only[go_sem,seval]
 refine BrW.dec (fun h1=>?_) (fun h1=>?_)
 ·rw[if_pos h1] at hK
  simp -dsimp (disch:=first|omega|(simp only[go_sem,seval];try omega))only[go_sem,seval,hb]
  refine Join0.inl ?_
  simp -dsimp (disch:=first|omega|(simp only[go_sem,seval];try omega))only[go_sem,seval,hb]
  refine BrW.by (fun h2=>?_) (fun h2=>?_)
  ·simp -dsimp (disch:=first|omega|(simp only[go_sem,seval];try omega))only[go_sem,seval,hb]
   rw[h2] at hK
   exact hK _ _ (Did.set h (Chg.refl _ _) (fun b hb=>.inl hb) { M.S with wraps:=on,waits:=true && on } rfl rfl tl rfl)
  ·simp -dsimp (disch:=first|omega|(simp only[go_sem,seval];try omega))only[go_sem,seval,hb]
   rw[h2] at hK
   exact hK _ _ (Did.set h (Chg.refl _ _) (fun b hb=>.inl hb) { M.S with wraps:=on,waits:=false } rfl rfl tl rfl)
 rw[if_neg h1] at hK
 simp -dsimp (disch:=first|omega|(simp only[go_sem,seval];try omega))only[go_sem,seval]
 refine BrW.dec (fun h2=>?_) (fun h2=>?_)
 ·rw[if_pos h2] at hK
  simp -dsimp (disch:=first|omega|(simp only[go_sem,seval];try omega))only[go_sem,seval,hb]
  exact hK _ _ (Did.set h (Chg.refl _ _) (fun b hb=>.inl hb) { M.S with shown:=on } rfl rfl tl rfl)
 rw[if_neg h2] at hK
 refine Join1.cut (fun v w'=>v=.bool (decide (n=47∨n=1047∨n=1049))∧w=w') ?_ ?_
 ·simp -dsimp (disch:=first|omega|(simp only[go_sem,seval];try omega))only[go_sem,seval]
  refine BrW.dec (fun h4=>?_) (fun h4=>?_)
  ·exact⟨congrArg Value.bool (decide_eq_true (.inl h4)).symm,rfl⟩
  ·simp -dsimp (disch:=first|omega|(simp only[go_sem,seval];try omega))only[go_sem,seval]
   refine BrW.dec (fun h5=>?_) (fun h5=>?_)
   ·exact⟨congrArg Value.bool (decide_eq_true (.inr (.inl h5))).symm,rfl⟩
   ·simp -dsimp (disch:=first|omega|(simp only[go_sem,seval];try omega))only[go_sem,seval]
    simp [h4,h5]
 rintro v w1 ⟨rfl,rfl⟩
 refine BrW.dec (fun h3=>?_) (fun h3=>?_)
 rotate_left
 ·rw[if_neg h3] at hK
  exact hK _ _ (Did.refl h)
 rw[if_pos h3] at hK
 refine Join1.cut (fun v w'=>v=.bool (decide (on=true∧M.S.alt=false))∧w=w') ?_ ?_
 ·simp -dsimp (disch:=first|omega|(simp only[go_sem,seval];try omega))only[go_sem,seval]
  refine BrW.by (fun h4=>?_) (fun h4=>?_)
  ·simp -dsimp (disch:=first|omega|(simp only[go_sem,seval];try omega))only[go_sem,seval,hb,Uo]
   simp [h4]
  ·simp [h4]
 rintro v w1 ⟨rfl,rfl⟩
 refine BrW.dec (fun h4=>?_) (fun h4=>?_)
 ·rw[if_pos h4] at hK
  simp -dsimp (disch:=first|omega|(simp only[go_sem,seval];try omega))only[go_sem,seval]
  refine OpX.call IM rfl (Calls.ret (HY h) ?_)
  rintro v w1 ⟨M1,hA1,hS1,hc1,hbl1⟩
  have hb1:=hA1.hb
  have hl1:=Aa hb1
  have tl1:=hA1.tl
  have ok1:M1.S.ok:=by rw[hS1];exact ok.save.ok
  rw[←hS1] at hK
  have hsz:M1.S.w=M.S.w∧M1.S.h=M.S.h:=by rw[hS1];exact⟨ok.save.w,ok.save.h⟩
  rw[←hsz.1,←hsz.2] at hK
  simp -dsimp (disch:=first|omega|(simp only[go_sem,seval];try omega))only[go_sem,seval,hb1]
  have hA2:=(hA1.set { M1.S with alt:=true } rfl rfl tl1 rfl).chg0 (Chg.refl _ _).drew
  refine OpX.call EB rfl (Calls.ret (E1 _ M1.S.w M1.S.h ok1.w0 ok1.w1 ok1.h0 ok1.h1) ?_)
  rintro v w2 ⟨⟨nb,cap,sp,rfl,q1,q2,q3⟩,hc2⟩
  obtain⟨hA3,hc3,hbl3⟩:=hA2.newCur1 hc2 q1 q2 q3
  have hb2:=(hA2.chg0 hc2).hb
  have hl2:=Aa hb2
  have hp:=Scm.wG1 { M1 with S:={ M1.S with alt:=true } } (Gr.plain M1.S.w M1.S.h Cel.blank) nb cap sp tl1
  simp -dsimp (disch:=first|omega|(simp only[go_sem,seval];try omega))only[go_sem,seval,Gr.val,hb2,hp]
  have hd4:=Did.set hA3 hc3 hbl3 { M1.S with g1:=Gr.plain M1.S.w M1.S.h Cel.blank,alt:=true,waits:=false } rfl rfl tl1 rfl
  have hd5:=Did.trans hc1 hbl1 (Did.trans (M1:={ M1 with S:={ M1.S with alt:=true } }) ((Chg.refl _ _).set _ _ (.inl (by simp))).drew (fun b hb=>.inl hb) hd4)
  rw[UL] at hd5
  exact hK _ _ hd5
 rw[if_neg h4] at hK
 refine Join1.cut (fun v w'=>v=.bool (decide (on=false∧M.S.alt=true))∧w=w') ?_ ?_
 ·simp -dsimp (disch:=first|omega|(simp only[go_sem,seval];try omega))only[go_sem,seval]
  refine BrW.by (fun h5=>?_) (fun h5=>?_)
  ·simp -dsimp (disch:=first|omega|(simp only[go_sem,seval];try omega))only[go_sem,seval,hb,Sj]
   simp at h5
   simp [h5]
  ·simp at h5
   simp [h5]
 rintro v w1 ⟨rfl,rfl⟩
 refine BrW.dec (fun h5=>?_) (fun h5=>?_)
 ·rw[if_pos h5] at hK
  simp -dsimp (disch:=first|omega|(simp only[go_sem,seval];try omega))only[go_sem,seval,hb]
  refine OpX.call IK rfl (Calls.ret (Hm (h.set { M.S with alt:=false } rfl rfl tl rfl)) ?_)
  rintro v w1 hd
  exact hK _ _ (Did.trans (M1:={ M with S:={ M.S with alt:=false } }) ((Chg.refl _ _).set _ _ (.inl (by simp))) (fun b hb=>.inl hb) hd)
 ·rw[if_neg h5] at hK
  exact hK _ _ (Did.refl h)
theorem Xr {w:World} {s:Nat} {M:Scm} (h:SAt w s M) (ok:M.S.ok) (t f:Int) (t0:0≤t) (t1:t≤1000000) (f0:0≤f) (f1:f≤9223372036854775807):Calls Tryz.prog 220 #[.pointer (some ⟨s,0,none⟩),.int .i64 t,.int .i64 f] w (Ac fun _ w'=>Did w s M w' (M.S.region t f)):=by
 have hb:=h.hb
 have hl:=Aa hb
 have tl:=h.tl
 have h0:=ok.h0
 have h1:=ok.h1
 apply YA
 intro K hK
 unfold JX
 unfold Scr.region at hK
 dsimp only at hK
 refine Join1.cut (fun v w'=>v=.int .i64 (if f=0∨(M.S.h:Int)<f then(M.S.h:Int) else f)∧w=w') ?_ ?_
 ·refine Join1.cut (fun v w'=>v=.bool (decide (f=0∨(M.S.h:Int)<f))∧w=w') ?_ ?_
  ·simp -dsimp (disch:=first|omega|(simp only[go_sem,seval];try omega))only[go_sem,seval]
   refine BrW.dec (fun h4=>?_) (fun h4=>?_)
   ·exact⟨congrArg Value.bool (decide_eq_true (.inl h4)).symm,rfl⟩
   ·simp -dsimp (disch:=first|omega|(simp only[go_sem,seval];try omega))only[go_sem,seval,hb]
    simp [h4]
  ·rintro v w1 ⟨rfl,rfl⟩
   refine BrW.dec (fun h4=>?_) (fun h4=>?_)
   ·simp -dsimp (disch:=first|omega|(simp only[go_sem,seval];try omega))only[go_sem,seval,hb]
    rw[if_pos h4]
   ·rw[if_neg h4]
    exact⟨rfl,rfl⟩
 ·rintro v w1 ⟨rfl,rfl⟩
  obtain⟨F,hF⟩:∃F:Int,F=if f=0∨(M.S.h:Int)<f then(M.S.h:Int) else f:=⟨_,rfl⟩
  rw[←hF] at hK ⊢
  have hF1:1≤F∧F≤M.S.h:=by rw[hF];split<;>omega
  clear hF
  simp -dsimp (disch:=first|omega|(simp only[go_sem,seval];try omega))only[go_sem,seval]
  refine BrW.dec (fun h2=>?_) (fun h2=>?_)
  ·rw[if_pos h2] at hK
   obtain⟨T,rfl⟩:∃T:Nat,t=(T:Int):=⟨t.toNat,by omega⟩
   obtain⟨E,rfl⟩:∃E:Nat,F=(E:Int):=⟨F.toNat,by omega⟩
   simp -dsimp (disch:=first|omega|(simp only[go_sem,seval];try omega))only[go_sem,seval,hb]
   have ok2:({ M.S with top:=T,fin:=E }:Scr).ok:=by
    refine { ok with tf:=?_,fh:=?_ }
    ·show T<E;omega
    ·show E≤M.S.h;omega
   refine OpX.call Dz rfl (Calls.ret (Ep (h.set { M.S with top:=T,fin:=E } rfl rfl tl rfl) ok2 0 0) ?_)
   rintro v w1 hd
   exact hK _ _ (Did.trans (M1:={ M with S:={ M.S with top:=T,fin:=E } }) ((Chg.refl _ _).set _ _ (.inl (by simp))) (fun b hb=>.inl hb) hd)
  ·rw[if_neg h2] at hK
   exact hK _ _ (Did.refl h)
theorem X7 {a:Act'} (hf:a.fits) {i:Nat} (hi:i<8):Bu (a.nums.getD i 0):=by
 refine hf.nums _ ?_
 have hl:a.nums.length=8:=rfl
 rw[List.getD_eq_getElem?_getD,List.getElem?_eq_getElem (by omega)]
 exact List.getElem_mem _
theorem Kb {a:Act'} (hf:a.fits) {i:Nat} {Bp:Int} (hl:Bu Bp):Bu (a.num i Bp):=by
 unfold Act'.num
 split
 ·exact hl
 ·have:=X7 hf (i:=i) (by omega)
  unfold Bu at *
  omega
theorem Dx (w:World) (a:Act') (i:Nat) (Bp:Int):Calls Tryz.prog 214 #[a.val,.int .i64 i,.int .i64 Bp] w (Ac fun v w'=>v=.int .i64 (a.num i Bp)∧Chg [] w w'):=by
 apply Ws
 intro K hK
 unfold LM
 simp -dsimp (disch:=first|omega|(simp only[go_sem,seval];try omega))only[go_sem,seval]
 have hc:Chg [] w (w.alloc (.cells a.cells.toArray 247)):=(Chg.refl _ _).alloc _
 refine Join1.cut (fun v w'=>v=.bool (decide (8≤i∨a.n≤i))∧w'=(w.alloc (.cells a.cells.toArray 247))) ?_ ?_
 ·simp -dsimp (disch:=first|omega|(simp only[go_sem,seval];try omega))only[go_sem,seval]
  refine BrW.dec (fun h2=>?_) (fun h2=>?_)
  ·omega
  simp -dsimp (disch:=first|omega|(simp only[go_sem,seval];try omega))only[go_sem,seval]
  refine BrW.dec (fun h3=>?_) (fun h3=>?_)
  ·exact⟨congrArg Value.bool (decide_eq_true (.inl (by omega))).symm,rfl⟩
  simp -dsimp (disch:=first|omega|(simp only[go_sem,seval];try omega))only[go_sem,seval]
  exact congrArg Value.bool (decide_eq_decide.2 (by omega))
 rintro v w1 ⟨rfl,rfl⟩
 unfold Act'.num at hK
 refine BrW.dec (fun h2=>?_) (fun h2=>?_)
 ·rw[if_pos h2] at hK
  exact hK _ _ ⟨rfl,hc⟩
 ·rw[if_neg h2] at hK
  have hi:i=0∨i=1∨i=2∨i=3∨i=4∨i=5∨i=6∨i=7:=by omega
  clear h2
  rcases hi with rfl|rfl|rfl|rfl|rfl|rfl|rfl|rfl<;>(simp -dsimp (disch:=first|omega|(simp only[go_sem,seval];try omega))only[go_sem,seval];exact hK _ _ ⟨rfl,hc⟩)
def E6 (S:Scr) (n:Int):Scr:=S.at S.now.x (max ((S.now.y:Int)-n) (if S.top≤S.now.y then(S.top:Int) else 0)).toNat
def EV (S:Scr) (n:Int):Scr:=S.at S.now.x (min ((S.now.y:Int)+n) (if S.now.y+1≤S.fin then(S.fin:Int)-1 else(S.h:Int)-1)).toNat
theorem VH {w:World} {s:Nat} {M:Scm} (h:SAt w s M) (ok:M.S.ok) (a:Act') (hf:a.fits):Calls Tryz.prog 188 #[.pointer (some ⟨s,0,none⟩),a.val] w
  (Ac fun v w'=>v=.bool (M.S.moved a).isSome∧Did w s M w' ((M.S.moved a).getD M.S)):=by
 have hls:=Aa h.hb
 have hlt:=h.lt
 have tl:=h.tl
 have w0:=ok.w0
 have w1b:=ok.w1
 have h0:=ok.h0
 have h1b:=ok.h1
 have nx:=ok.nx
 have ny:=ok.ny
 have tf:=ok.tf
 have fh:=ok.fh
 have n1:=DC a 0 1
 have n2:=DC a 1 1
 have n3:=Kb hf (i:=1) (Bp:=1) (by unfold Bu;omega)
 unfold Bu at n3
 apply Wk
 intro K hK
 unfold Lm
 simp -dsimp (disch:=first|omega|(simp only[go_sem,seval];try omega))only[go_sem,seval]
 have hc1:Chg [] w (w.alloc (.cells a.cells.toArray 247)):=(Chg.refl _ _).alloc _
 have ha1:(w.alloc (.cells a.cells.toArray 247)).heap[w.heap.size]?=some (.cells a.cells.toArray 247):=by simp -dsimp (disch:=first|omega|(simp only[go_sem,seval];try omega))only[go_sem,seval]
 refine OpX.gen fun w1 hw1=>?_
 replace hw1:w1=(w.alloc (.cells a.cells.toArray 247)):=hw1
 rw[←hw1] at hc1 ha1
 clear hw1
 refine OpX.call DG rfl (Calls.ret (Dx _ a 0 1) ?_)
 rintro v w2 ⟨rfl,hc2⟩
 replace ha1:=hc2.keep ha1 (by simp)
 replace hc1:=hc1.trans0 hc2
 clear hc2
 have hla:=Aa ha1
 have hA:=h.chg0 hc1
 have hb:=hA.hb
 have hs2:=hc1.size
 obtain⟨n,hn⟩:∃n,n=min (a.num 0 1) 9999:=⟨_,rfl⟩
 have hn1:1≤n∧n≤9999:=by omega
 simp -dsimp (disch:=first|omega|(simp only[go_sem,seval];try omega))only[go_sem,seval,ha1]
 rw[←hn]
 have hna:w.heap.size∉s::M.blk:=fun hm=>by have:=hlt _ hm;omega
 refine Join0.cut (fun w'=>∃T,Did w2 s M w' T∧M.S.moved a=some T) ?_ ?_
 ·refine Join0.cut (fun w'=>∃M1:Scm,SAt w' s M1∧M1.S.ok∧Chg (s::M.blk) w2 w'∧M1.blk=M.blk∧M.S.moved a=some (EV M1.S n)) ?_ ?_
  ·refine Join0.cut (fun w'=>∃M1:Scm,SAt w' s M1∧M1.S.ok∧Chg (s::M.blk) w2 w'∧M1.blk=M.blk∧M.S.moved a=some (E6 M1.S n)) ?_ ?_
   ·simp -dsimp (disch:=first|omega|(simp only[go_sem,seval];try omega))only[go_sem,seval]
    refine BrW.dec (fun c1=>?_) (fun c1=>?_)
    ·simp -dsimp (disch:=first|omega|(simp only[go_sem,seval];try omega))only[go_sem,seval,hb]
     refine⟨_,hA.set (M.S.at 0 M.S.now.y) rfl rfl tl rfl,(ok.at w0 ny).ok,(Chg.refl _ _).set _ _ (by simp),rfl,?_⟩
     unfold Scr.moved
     dsimp only
     rw[←hn,if_pos c1]
     rfl
    simp -dsimp (disch:=first|omega|(simp only[go_sem,seval];try omega))only[go_sem,seval]
    refine BrW.dec (fun c2=>?_) (fun c2=>?_)
    ·refine⟨_,hA,ok,Chg.refl _ _,rfl,?_⟩
     unfold Scr.moved
     dsimp only
     rw[←hn,if_neg c1,if_pos c2]
     rfl
    simp -dsimp (disch:=first|omega|(simp only[go_sem,seval];try omega))only[go_sem,seval]
    refine BrW.dec (fun c3=>?_) (fun c3=>?_)
    ·simp -dsimp (disch:=first|omega|(simp only[go_sem,seval];try omega))only[go_sem,seval,hb]
     refine⟨_,hA.set (M.S.at 0 M.S.now.y) rfl rfl tl rfl,(ok.at w0 ny).ok,(Chg.refl _ _).set _ _ (by simp),rfl,?_⟩
     unfold Scr.moved
     dsimp only
     rw[←hn,if_neg c1,if_neg c2,if_pos c3]
     rfl
    simp -dsimp (disch:=first|omega|(simp only[go_sem,seval];try omega))only[go_sem,seval]
    refine BrW.dec (fun c4=>?_) (fun c4=>?_)
    ·refine⟨_,hA,ok,Chg.refl _ _,rfl,?_⟩
     unfold Scr.moved
     dsimp only
     rw[←hn,if_neg c1,if_neg c2,if_neg c3,if_pos c4]
     rfl
    simp -dsimp (disch:=first|omega|(simp only[go_sem,seval];try omega))only[go_sem,seval]
    refine BrW.dec (fun c5=>?_) (fun c5=>?_)
    ·simp -dsimp (disch:=first|omega|(simp only[go_sem,seval];try omega))only[go_sem,seval,hb]
     refine OpX.call Dz rfl (Calls.ret (Ep (hA.chg0 (Chg.refl _ _).drew) ok (M.S.now.x+n) M.S.now.y) ?_)
     rintro v w3 hd
     refine⟨_,Did.trans (M1:=M) (Chg.refl _ _).drew (fun b hb=>.inl hb) hd,?_⟩
     unfold Scr.moved
     dsimp only
     rw[←hn,if_neg c1,if_neg c2,if_neg c3,if_neg c4,if_pos c5]
    simp -dsimp (disch:=first|omega|(simp only[go_sem,seval];try omega))only[go_sem,seval]
    refine BrW.dec (fun c6=>?_) (fun c6=>?_)
    ·simp -dsimp (disch:=first|omega|(simp only[go_sem,seval];try omega))only[go_sem,seval,hb]
     refine OpX.call Dz rfl (Calls.ret (Ep (hA.chg0 (Chg.refl _ _).drew) ok (M.S.now.x-n) M.S.now.y) ?_)
     rintro v w3 hd
     refine⟨_,Did.trans (M1:=M) (Chg.refl _ _).drew (fun b hb=>.inl hb) hd,?_⟩
     unfold Scr.moved
     dsimp only
     rw[←hn,if_neg c1,if_neg c2,if_neg c3,if_neg c4,if_neg c5,if_pos c6]
    refine Join1.cut (fun v w'=>v=.bool (decide (a.r=71∨a.r=96))∧w2=w') ?_ ?_
    ·simp -dsimp (disch:=first|omega|(simp only[go_sem,seval];try omega))only[go_sem,seval]
     refine BrW.dec (fun h4=>?_) (fun h4=>?_)
     ·exact⟨congrArg Value.bool (decide_eq_true (.inl h4)).symm,rfl⟩
     ·simp -dsimp (disch:=first|omega|(simp only[go_sem,seval];try omega))only[go_sem,seval]
      simp [h4]
    rintro v w3 ⟨rfl,rfl⟩
    refine BrW.dec (fun c7=>?_) (fun c7=>?_)
    ·simp -dsimp (disch:=first|omega|(simp only[go_sem,seval];try omega))only[go_sem,seval,hb]
     refine OpX.call Dz rfl (Calls.ret (Ep hA ok (n-1) M.S.now.y) ?_)
     rintro v w3 hd
     refine⟨_,hd,?_⟩
     unfold Scr.moved
     dsimp only
     rw[←hn,if_neg c1,if_neg c2,if_neg c3,if_neg c4,if_neg c5,if_neg c6,if_pos c7]
    simp -dsimp (disch:=first|omega|(simp only[go_sem,seval];try omega))only[go_sem,seval]
    refine BrW.dec (fun c8=>?_) (fun c8=>?_)
    ·simp -dsimp (disch:=first|omega|(simp only[go_sem,seval];try omega))only[go_sem,seval,hb]
     refine OpX.call Dz rfl (Calls.ret (Ep hA ok M.S.now.x (n-1)) ?_)
     rintro v w3 hd
     refine⟨_,hd,?_⟩
     unfold Scr.moved
     dsimp only
     rw[←hn,if_neg c1,if_neg c2,if_neg c3,if_neg c4,if_neg c5,if_neg c6,if_neg c7,if_pos c8]
    refine Join1.cut (fun v w'=>v=.bool (decide (a.r=72∨a.r=102))∧w2=w') ?_ ?_
    ·simp -dsimp (disch:=first|omega|(simp only[go_sem,seval];try omega))only[go_sem,seval]
     refine BrW.dec (fun h4=>?_) (fun h4=>?_)
     ·exact⟨congrArg Value.bool (decide_eq_true (.inl h4)).symm,rfl⟩
     ·simp -dsimp (disch:=first|omega|(simp only[go_sem,seval];try omega))only[go_sem,seval]
      simp [h4]
    rintro v w3 ⟨rfl,rfl⟩
    refine BrW.dec (fun c9=>?_) (fun c9=>?_)
    ·simp -dsimp (disch:=first|omega|(simp only[go_sem,seval];try omega))only[go_sem,seval,ha1]
     refine OpX.call DG rfl (Calls.ret (Dx _ a 1 1) ?_)
     rintro v w3 ⟨rfl,hc2⟩
     simp -dsimp (disch:=first|omega|(simp only[go_sem,seval];try omega))only[go_sem,seval]
     refine OpX.call Dz rfl (Calls.ret (Ep (hA.chg0 hc2) ok (a.num 1 1-1) (n-1)) ?_)
     rintro v w4 hd
     refine⟨_,Did.trans (M1:=M) (hc2.mono (by simp)) (fun b hb=>.inl hb) hd,?_⟩
     unfold Scr.moved
     dsimp only
     rw[←hn,if_neg c1,if_neg c2,if_neg c3,if_neg c4,if_neg c5,if_neg c6,if_neg c7,if_neg c8,if_pos c9]
    simp -dsimp (disch:=first|omega|(simp only[go_sem,seval];try omega))only[go_sem,seval]
    refine BrW.dec (fun c10=>?_) (fun c10=>?_)
    ·simp -dsimp (disch:=first|omega|(simp only[go_sem,seval];try omega))only[go_sem,seval,hb]
     refine OpX.call IK rfl (Calls.ret (Hm hA) ?_)
     rintro v w3 hd
     refine⟨_,hd,?_⟩
     unfold Scr.moved
     dsimp only
     rw[←hn,if_neg c1,if_neg c2,if_neg c3,if_neg c4,if_neg c5,if_neg c6,if_neg c7,if_neg c8,if_neg c9,if_pos c10]
    have e:M.S.moved a=none:=by
     unfold Scr.moved
     dsimp only
     rw[if_neg c1,if_neg c2,if_neg c3,if_neg c4,if_neg c5,if_neg c6,if_neg c7,if_neg c8,if_neg c9,if_neg c10]
    rw[e] at hK
    exact hK _ _ ⟨rfl,Did.trans (M1:=M) (hc1.mono (by simp)) (fun b hb=>.inl hb) (Did.refl hA)⟩
   ·rintro w3 ⟨M1,hA1,ok1,hcc,hbl,e⟩
    have hb1:=hA1.hb
    have tl1:=hA1.tl
    have ny1:=ok1.ny
    have h1c:=ok1.h1
    have tf1:=ok1.tf
    have fh1:=ok1.fh
    have hl1:=Aa hb1
    obtain⟨L,hL⟩:∃L:Nat,L=if M1.S.top≤M1.S.now.y then M1.S.top else 0:=⟨_,rfl⟩
    have hL2:(L:Int)=if M1.S.top≤M1.S.now.y then(M1.S.top:Int) else 0:=by rw[hL];split<;>rfl
    have hL3:L<M1.S.h:=by rw[hL];split<;>omega
    have hd:∀w4:World,Chg [] w3 w4→∃w5:World,w5=Ab w4 s ({ M1 with S:={ M1.S with now:={ M1.S.now with y:=(max ((M1.S.now.y:Int)-n) (L:Int)).toNat } } }:Scm).obj∧Did w2 s M w5 (E6 M1.S n):=by
     intro w4 hc4
     refine⟨_,rfl,Did.trans hcc (fun b hb=>.inl (by rw[←hbl];exact hb)) (Did.trans (M1:=M1) (hc4.mono (by simp)) (fun b hb=>.inl hb) ?_)⟩
     have:=Did.set (hA1.chg0 hc4) (Chg.refl _ _) (fun b hb=>.inl hb) (E6 M1.S n) rfl rfl tl1 rfl
     unfold E6 at this
     rw[←hL2] at this
     unfold E6
     rw[←hL2]
     exact this
    refine Join1.cut (fun v w'=>v=.int .i64 (L:Int)∧Chg [] w3 w') ?_ ?_
    ·simp -dsimp (disch:=first|omega|(simp only[go_sem,seval];try omega))only[go_sem,seval,hb1]
     refine BrW.dec (fun h4=>?_) (fun h4=>?_)
     ·rw[if_pos (by omega)] at hL
      simp -dsimp (disch:=first|omega|(simp only[go_sem,seval];try omega))only[go_sem,seval,hb1]
      exact⟨by rw[hL],(Chg.refl _ _).drew⟩
     ·rw[if_neg (by omega)] at hL
      exact⟨by rw[hL];rfl,(Chg.refl _ _).drew⟩
    ·rintro v w4 ⟨rfl,hc4⟩
     obtain⟨w5,e5,hd5⟩:=hd w4 hc4
     have hb4:=(hA1.chg0 hc4).hb
     have hl4:=Aa hb4
     have e1:max ((M1.S.now.y:Int)-n) (L:Int)=(((max ((M1.S.now.y:Int)-n) (L:Int)).toNat:Nat):Int):=by omega
     simp -dsimp (disch:=first|omega|(simp only[go_sem,seval];try omega))only[go_sem,seval,hb4]
     rw[e1]
     simp -dsimp (disch:=first|omega|(simp only[go_sem,seval];try omega))only[go_sem,seval,hb4]
     rw[←e5]
     exact⟨_,hd5,e⟩
  ·rintro w3 ⟨M1,hA1,ok1,hcc,hbl,e⟩
   have hb1:=hA1.hb
   have tl1:=hA1.tl
   have ny1:=ok1.ny
   have h1c:=ok1.h1
   have h0c:=ok1.h0
   have tf1:=ok1.tf
   have fh1:=ok1.fh
   have hl1:=Aa hb1
   obtain⟨L,hL⟩:∃L:Nat,L=if M1.S.now.y+1≤M1.S.fin then M1.S.fin-1 else M1.S.h-1:=⟨_,rfl⟩
   have hL2:(L:Int)=if M1.S.now.y+1≤M1.S.fin then(M1.S.fin:Int)-1 else(M1.S.h:Int)-1:=by rw[hL];split<;>omega
   have hL3:L<M1.S.h:=by rw[hL];split<;>omega
   have hd:∀w4:World,Chg [] w3 w4→∃w5:World,w5=Ab w4 s ({ M1 with S:={ M1.S with now:={ M1.S.now with y:=(min ((M1.S.now.y:Int)+n) (L:Int)).toNat } } }:Scm).obj∧Did w2 s M w5 (EV M1.S n):=by
    intro w4 hc4
    refine⟨_,rfl,Did.trans hcc (fun b hb=>.inl (by rw[←hbl];exact hb)) (Did.trans (M1:=M1) (hc4.mono (by simp)) (fun b hb=>.inl hb) ?_)⟩
    have:=Did.set (hA1.chg0 hc4) (Chg.refl _ _) (fun b hb=>.inl hb) (EV M1.S n) rfl rfl tl1 rfl
    unfold EV at this
    rw[←hL2] at this
    unfold EV
    rw[←hL2]
    exact this
   simp -dsimp (disch:=first|omega|(simp only[go_sem,seval];try omega))only[go_sem,seval,hb1]
   refine Join1.cut (fun v w'=>v=.int .i64 (L:Int)∧Chg [] w3 w') ?_ ?_
   ·simp -dsimp (disch:=first|omega|(simp only[go_sem,seval];try omega))only[go_sem,seval,hb1]
    refine BrW.dec (fun h4=>?_) (fun h4=>?_)
    ·rw[if_pos (by omega)] at hL
     simp -dsimp (disch:=first|omega|(simp only[go_sem,seval];try omega))only[go_sem,seval,hb1]
     exact⟨congrArg (Value.int .i64) (by omega),(Chg.refl _ _).drew⟩
    ·rw[if_neg (by omega)] at hL
     exact⟨congrArg (Value.int .i64) (by rw[G5 _ (by omega) (by omega)];omega),(Chg.refl _ _).drew⟩
   ·rintro v w4 ⟨rfl,hc4⟩
    obtain⟨w5,e5,hd5⟩:=hd w4 hc4
    have hb4:=(hA1.chg0 hc4).hb
    have hl4:=Aa hb4
    have e1:min ((M1.S.now.y:Int)+n) (L:Int)=(((min ((M1.S.now.y:Int)+n) (L:Int)).toNat:Nat):Int):=by omega
    simp -dsimp (disch:=first|omega|(simp only[go_sem,seval];try omega))only[go_sem,seval,hb4]
    rw[e1]
    simp -dsimp (disch:=first|omega|(simp only[go_sem,seval];try omega))only[go_sem,seval,hb4]
    rw[←e5]
    exact⟨_,hd5,e⟩
 ·rintro w3 ⟨T,hd,e⟩
  rw[e] at hK
  exact hK _ _ ⟨rfl,Did.trans (M1:=M) (hc1.mono (by simp)) (fun b hb=>.inl hb) hd⟩
theorem U7 (S:Scr) (k:Int):(S.wipeRows k).now=S.now:=by
 unfold Scr.wipeRows Scr.clear
 split
 ·exact Ei _
 ·split
  ·exact Ei _
  ·split
   ·exact Ei _
   ·rfl
theorem TQ {w:World} {s:Nat} {M:Scm} (h:SAt w s M) (ok:M.S.ok) {bp bx bn:Nat} {k:Int} (hp:w.heap[bp]?=some (.cells #[.pointer (some ⟨s,0,none⟩)] 155)) (hx:w.heap[bx]?=some (.cells #[.int .i64 M.S.now.x] 3)) (hn:w.heap[bn]?=some (.cells #[.int .i64 k] 3)) :
  Hp (.func (.func 217) #[] #[.pointer (some ⟨bx,0,none⟩),.pointer (some ⟨bn,0,none⟩),.pointer (some ⟨bp,0,none⟩)]) w s M (fun g=>g.shift M.S.now.x 0 k M.S.free):=by
 intro w2 g b o cap hc2 hg hcap hs
 refine Bj.of (us:=[]) (cs:=[_,_,_]) U9 ?_
 have hp2:=hc2.keep hp (by simp)
 have hx2:=hc2.keep hx (by simp)
 have hn2:=hc2.keep hn (by simp)
 have hA2:=h.chg0 hc2
 have hb2:=hA2.hb
 have hlp:=Aa hp2
 have hlx:=Aa hx2
 have hln:=Aa hn2
 have nx:=ok.nx
 have w1:=ok.w1
 have w1b:=hg.ok.w1
 have h1b:=hg.ok.h1
 apply Zt
 intro K hK
 unfold NT
 simp -dsimp (disch:=first|omega|(simp only[go_sem,seval];try omega))only[go_sem,seval,Gr.val,hx2,hp2,hn2]
 have hc3:Chg [] w2 (((w2.alloc (.cells #[.int .i64 g.w,.int .i64 g.h,.slice (some ⟨b,o,none⟩) g.cs.length cap] 59)).alloc (.cells #[.int .i64 0,.int .i64 0,.slice none 0 0] 59)).drew):=(BY _ _ _).drew
 have hg3:(((w2.alloc (.cells #[.int .i64 g.w,.int .i64 g.h,.slice (some ⟨b,o,none⟩) g.cs.length cap] 59)).alloc (.cells #[.int .i64 0,.int .i64 0,.slice none 0 0] 59)).drew).heap[w2.heap.size]?=some (.cells #[.int .i64 g.w,.int .i64 g.h,.slice (some ⟨b,o,none⟩) g.cs.length cap] 59):=by simp -dsimp (disch:=first|omega|(simp only[go_sem,seval];try omega))only[go_sem,seval]
 have ho3:(((w2.alloc (.cells #[.int .i64 g.w,.int .i64 g.h,.slice (some ⟨b,o,none⟩) g.cs.length cap] 59)).alloc (.cells #[.int .i64 0,.int .i64 0,.slice none 0 0] 59)).drew).heap[w2.heap.size+1]?=some (.cells #[.int .i64 0,.int .i64 0,.slice none 0 0] 59):=by simp -dsimp (disch:=first|omega|(simp only[go_sem,seval];try omega))only[go_sem,seval]
 have hz3:(w2.alloc (.cells #[.int .i64 g.w,.int .i64 g.h,.slice (some ⟨b,o,none⟩) g.cs.length cap] 59)).heap.size=w2.heap.size+1:=by simp -dsimp (disch:=first|omega|(simp only[go_sem,seval];try omega))only[go_sem,seval]
 rw[hz3]
 generalize (World.alloc _ _).drew=w3 at hc3 hg3 ho3 ⊢
 have hlo:=Aa ho3
 refine OpX.call FO rfl (Calls.ret (Fw (hA2.chg0 hc3)) ?_)
 rintro v w4 ⟨rfl,hc4⟩
 have hc5:=hc3.trans0 hc4
 have hn4:=hc5.keep hn2 (by simp)
 have hx4:=hc5.keep hx2 (by simp)
 have hg4:=hc4.keep hg3 (by simp)
 have ho4:=hc4.keep ho3 (by simp)
 simp -dsimp (disch:=first|omega|(simp only[go_sem,seval];try omega))only[go_sem,seval,hn4,hx4,hg4]
 refine OpX.call XE rfl (Calls.ret (Xx (X:=M.S.now.x) (Y:=0) (N:=k) hg.ok hg.r (hs.chg0 hc5) cap hcap (FP _) (by omega) (by omega)) ?_)
 rintro v w5 ⟨⟨nb,cap',sp,rfl,q1,q2,q3⟩,hc6⟩
 have ho5:=hc6.keep ho4 (by simp)
 have hc7:=hc5.trans0 hc6
 have hz:=hc5.size
 have hz4:=hc4.size
 have hlo5:=Aa ho5
 have hnb:=Aa q3
 simp -dsimp (disch:=first|omega|(simp only[go_sem,seval];try omega))only[go_sem,seval,Gr.val,ho5]
 refine hK _ _ ⟨⟨nb,cap',sp,rfl,q1,by omega,?_⟩,hc7.set _ _ (.inr (by omega))⟩
 simp -dsimp (disch:=first|omega|(simp only[go_sem,seval];try omega))only[go_sem,seval]
 exact q3
theorem XR {w:World} {s:Nat} {M:Scm} (h:SAt w s M) (ok:M.S.ok) (a:Act') (hf:a.fits):Calls Tryz.prog 189 #[.pointer (some ⟨s,0,none⟩),a.val] w
  (Ac fun v w'=>v=.bool (M.S.changed a).isSome∧Did w s M w' ((M.S.changed a).getD M.S)):=by
 have hls:=Aa h.hb
 have hlt:=h.lt
 have tl:=h.tl
 have w0:=ok.w0
 have w1b:=ok.w1
 have h0:=ok.h0
 have h1b:=ok.h1
 have nx:=ok.nx
 have ny:=ok.ny
 have tf:=ok.tf
 have fh:=ok.fh
 have n1:=DC a 0 1
 have n4:=DC a 1 0
 have n3:=Kb hf (i:=1) (Bp:=0) (by unfold Bu;omega)
 unfold Bu at n3
 apply XZ
 intro K hK
 unfold Oz
 simp -dsimp (disch:=first|omega|(simp only[go_sem,seval];try omega))only[go_sem,seval]
 have hz:(w.alloc (.cells #[.pointer (some ⟨s,0,none⟩)] 155)).heap.size=w.heap.size+1:=by simp -dsimp (disch:=first|omega|(simp only[go_sem,seval];try omega))only[go_sem,seval]
 rw[hz]
 refine OpX.gen fun w1 hw1=>?_
 have hc1:Chg [] w w1:=by rw[hw1];exact BY _ _ _
 have hp1:w1.heap[w.heap.size]?=some (.cells #[.pointer (some ⟨s,0,none⟩)] 155):=by rw[hw1];simp -dsimp (disch:=first|omega|(simp only[go_sem,seval];try omega))only[go_sem,seval]
 have ha1:w1.heap[w.heap.size+1]?=some (.cells a.cells.toArray 247):=by rw[hw1];simp -dsimp (disch:=first|omega|(simp only[go_sem,seval];try omega))only[go_sem,seval]
 clear hw1 hz
 refine OpX.call DG rfl (Calls.ret (Dx _ a 0 1) ?_)
 rintro v w2 ⟨rfl,hc2⟩
 replace ha1:=hc2.keep ha1 (by simp)
 replace hp1:=hc2.keep hp1 (by simp)
 replace hc1:=hc1.trans0 hc2
 clear hc2
 have hla:=Aa ha1
 have hlp:=Aa hp1
 have hA:=h.chg0 hc1
 have hb:=hA.hb
 have hs2:=hc1.size
 obtain⟨n,hn⟩:∃n,n=min (a.num 0 1) 9999:=⟨_,rfl⟩
 have hn1:1≤n∧n≤9999:=by omega
 simp -dsimp (disch:=first|omega|(simp only[go_sem,seval];try omega))only[go_sem,seval,ha1,hp1,hb]
 rw[←hn]
 have hz:(w2.alloc (.cells #[.int .i64 n] 3)).drew.heap.size=w2.heap.size+1:=by simp -dsimp (disch:=first|omega|(simp only[go_sem,seval];try omega))only[go_sem,seval]
 rw[hz]
 obtain⟨w3,hw3⟩:∃w3,w3=((w2.alloc (.cells #[.int .i64 n] 3)).alloc (.cells #[.int .i64 M.S.now.x] 3)).drew:=⟨_,rfl⟩
 rw[←hw3]
 have hc3:Chg [] w2 w3:=by rw[hw3];exact(BY _ _ _).drew
 have hn3:w3.heap[w2.heap.size]?=some (.cells #[.int .i64 n] 3):=by rw[hw3];simp -dsimp (disch:=first|omega|(simp only[go_sem,seval];try omega))only[go_sem,seval]
 have hx3:w3.heap[w2.heap.size+1]?=some (.cells #[.int .i64 M.S.now.x] 3):=by rw[hw3];simp -dsimp (disch:=first|omega|(simp only[go_sem,seval];try omega))only[go_sem,seval]
 clear hw3 hz
 replace hp1:=hc3.keep hp1 (by simp)
 replace ha1:=hc3.keep ha1 (by simp)
 replace hA:=hA.chg0 hc3
 replace hb:=hA.hb
 replace hc1:=hc1.trans0 hc3
 have hop:w.heap.size∉s::M.blk:=fun hm=>by have:=hlt _ hm;omega
 have hoa:w.heap.size+1∉s::M.blk:=fun hm=>by have:=hlt _ hm;omega
 have hon:w2.heap.size∉s::M.blk:=fun hm=>by have:=hlt _ hm;omega
 have hox:w2.heap.size+1∉s::M.blk:=fun hm=>by have:=hlt _ hm;omega
 have hlx:=Aa hx3
 clear hc3
 have hAn:∀w',Chg [w2.heap.size] w3 w'→SAt w' s M:=fun w' hc=>hA.chg hc (fun x hx hm=>hon (by rw[←List.mem_singleton.1 hm];exact hx)) (fun r hr b o hb' hne hm=>by
  have h9:=h.row_lt r hr b o hb' hne
  have h8:=List.mem_singleton.1 hm
  omega)
 have base:∀w' T,Did w3 s M w' T→Did w s M w' T:=fun w' T hd=>Did.trans (M1:=M) (hc1.mono (by simp)) (fun b hb=>.inl hb) hd
 refine Join0.cut (fun w'=>∃T,Did w s M w' T∧M.S.changed a=some T) ?_ ?_
 ·refine Join0.cut (fun w'=>∃k:Int,(-9999≤k∧k≤9999)∧Chg [w2.heap.size] w3 w'∧w'.heap[w2.heap.size]?=some (.cells #[.int .i64 k] 3)∧M.S.changed a=some (M.S.line fun g=>g.shift M.S.now.x 0 k M.S.free)) ?_ ?_
  ·refine Join0.cut (fun w'=>∃k:Int,(-9999≤k∧k≤9999)∧Chg [w2.heap.size] w3 w'∧w'.heap[w2.heap.size]?=some (.cells #[.int .i64 k] 3)∧M.S.changed a=some (M.S.shiftRows k)) ?_ ?_
   ·refine Join0.cut (fun w'=>∃T:Scr,Did w3 s M w' T∧T.now=M.S.now∧T.ok∧M.S.changed a=some (T.wipeLine (a.num 0 0))) ?_ ?_
    ·simp -dsimp (disch:=first|omega|(simp only[go_sem,seval];try omega))only[go_sem,seval]
     refine BrW.dec (fun c1=>?_) (fun c1=>?_)
     ·simp -dsimp (disch:=first|omega|(simp only[go_sem,seval];try omega))only[go_sem,seval,ha1]
      have e:M.S.changed a=some ((M.S.wipeRows (a.num 0 0)).wipeLine (a.num 0 0)):=by unfold Scr.changed;dsimp only;rw[if_pos c1]
      refine OpX.call DG rfl (Calls.ret (Dx _ a 0 0) ?_)
      rintro v w4 ⟨rfl,hc4⟩
      have hp4:=hc4.keep hp1 (by simp)
      have hA4:=hA.chg0 hc4
      have hb4:=hA4.hb
      have fin:∀w',Did w4 s M w' (M.S.wipeRows (a.num 0 0))→∃T:Scr,Did w3 s M w' T∧T.now=M.S.now∧T.ok∧M.S.changed a=some (T.wipeLine (a.num 0 0)):=fun w' hd=>⟨_,Did.trans (M1:=M) (hc4.mono (by simp)) (fun b hb=>.inl hb) hd,U7 _ _,ok.wipeRows.ok,e⟩
      unfold Scr.wipeRows at fin
      simp -dsimp (disch:=first|omega|(simp only[go_sem,seval];try omega))only[go_sem,seval]
      refine BrW.dec (fun d1=>?_) (fun d1=>?_)
      ·rw[if_pos d1] at fin
       simp -dsimp (disch:=first|omega|(simp only[go_sem,seval];try omega))only[go_sem,seval,hp4,hb4]
       refine OpX.call HM rfl (Calls.ret (Hr (hA4.chg0 (Chg.refl _ _).drew) ok (M.S.now.y+1) M.S.h (by omega) (by omega)) ?_)
       rintro v w5 hd
       exact fin _ (Did.trans (M1:=M) (Chg.refl _ _).drew (fun b hb=>.inl hb) hd)
      rw[if_neg d1] at fin
      simp -dsimp (disch:=first|omega|(simp only[go_sem,seval];try omega))only[go_sem,seval]
      refine BrW.dec (fun d2=>?_) (fun d2=>?_)
      ·rw[if_pos d2] at fin
       simp -dsimp (disch:=first|omega|(simp only[go_sem,seval];try omega))only[go_sem,seval,hp4,hb4]
       refine OpX.call HM rfl (Calls.ret (Hr hA4 ok 0 M.S.now.y (by omega) (by omega)) ?_)
       rintro v w5 hd
       exact fin _ hd
      rw[if_neg d2] at fin
      simp -dsimp (disch:=first|omega|(simp only[go_sem,seval];try omega))only[go_sem,seval]
      refine BrW.dec (fun d3=>?_) (fun d3=>?_)
      ·rw[if_pos d3] at fin
       simp -dsimp (disch:=first|omega|(simp only[go_sem,seval];try omega))only[go_sem,seval,hp4,hb4]
       refine OpX.call HM rfl (Calls.ret (Hr (hA4.chg0 (Chg.refl _ _).drew) ok 0 M.S.h (by omega) (by omega)) ?_)
       rintro v w5 hd
       exact fin _ (Did.trans (M1:=M) (Chg.refl _ _).drew (fun b hb=>.inl hb) hd)
      rw[if_neg d3] at fin
      exact fin _ (Did.refl hA4)
     simp -dsimp (disch:=first|omega|(simp only[go_sem,seval];try omega))only[go_sem,seval]
     refine BrW.dec (fun c2=>?_) (fun c2=>?_)
     ·exact⟨_,Did.refl hA,rfl,ok,by unfold Scr.changed;dsimp only;rw[if_neg c1,if_pos c2]⟩
     simp -dsimp (disch:=first|omega|(simp only[go_sem,seval];try omega))only[go_sem,seval]
     refine BrW.dec (fun c3=>?_) (fun c3=>?_)
     ·simp -dsimp (disch:=first|omega|(simp only[go_sem,seval];try omega))only[go_sem,seval,hn3]
      exact⟨-n,by omega,(Chg.refl _ _).set _ _ (by simp),(by simp -dsimp (disch:=first|omega|(simp only[go_sem,seval];try omega))only[go_sem,seval]),by unfold Scr.changed;dsimp only;rw[if_neg c1,if_neg c2,if_pos c3,hn]⟩
     simp -dsimp (disch:=first|omega|(simp only[go_sem,seval];try omega))only[go_sem,seval]
     refine BrW.dec (fun c4=>?_) (fun c4=>?_)
     ·exact⟨n,by omega,Chg.refl _ _,hn3,by unfold Scr.changed;dsimp only;rw[if_neg c1,if_neg c2,if_neg c3,if_pos c4,hn]⟩
     simp -dsimp (disch:=first|omega|(simp only[go_sem,seval];try omega))only[go_sem,seval]
     refine BrW.dec (fun c5=>?_) (fun c5=>?_)
     ·simp -dsimp (disch:=first|omega|(simp only[go_sem,seval];try omega))only[go_sem,seval,hn3]
      exact⟨-n,by omega,(Chg.refl _ _).set _ _ (by simp),(by simp -dsimp (disch:=first|omega|(simp only[go_sem,seval];try omega))only[go_sem,seval]),by unfold Scr.changed;dsimp only;rw[if_neg c1,if_neg c2,if_neg c3,if_neg c4,if_pos c5,hn]⟩
     simp -dsimp (disch:=first|omega|(simp only[go_sem,seval];try omega))only[go_sem,seval]
     refine BrW.dec (fun c6=>?_) (fun c6=>?_)
     ·exact⟨n,by omega,Chg.refl _ _,hn3,by unfold Scr.changed;dsimp only;rw[if_neg c1,if_neg c2,if_neg c3,if_neg c4,if_neg c5,if_pos c6,hn]⟩
     simp -dsimp (disch:=first|omega|(simp only[go_sem,seval];try omega))only[go_sem,seval]
     refine BrW.dec (fun c7=>?_) (fun c7=>?_)
     ·simp -dsimp (disch:=first|omega|(simp only[go_sem,seval];try omega))only[go_sem,seval,hp1,hx3,hn3]
      refine OpX.call Ge rfl (Calls.ret (F2 hA ok M.S.now.x n (by omega) (by omega)) ?_)
      rintro v w4 hd
      exact⟨_,base _ _ hd,by unfold Scr.changed;dsimp only;rw[if_neg c1,if_neg c2,if_neg c3,if_neg c4,if_neg c5,if_neg c6,if_pos c7,hn]⟩
     simp -dsimp (disch:=first|omega|(simp only[go_sem,seval];try omega))only[go_sem,seval]
     refine BrW.dec (fun c8=>?_) (fun c8=>?_)
     ·simp -dsimp (disch:=first|omega|(simp only[go_sem,seval];try omega))only[go_sem,seval,hp1,hn3]
      refine OpX.call K8 rfl (Calls.ret (Ov hA ok n) ?_)
      rintro v w4 hd
      exact⟨_,base _ _ hd,by unfold Scr.changed;dsimp only;rw[if_neg c1,if_neg c2,if_neg c3,if_neg c4,if_neg c5,if_neg c6,if_neg c7,if_pos c8,hn]⟩
     simp -dsimp (disch:=first|omega|(simp only[go_sem,seval];try omega))only[go_sem,seval]
     refine BrW.dec (fun c9=>?_) (fun c9=>?_)
     ·simp -dsimp (disch:=first|omega|(simp only[go_sem,seval];try omega))only[go_sem,seval,hp1,hn3,hb]
      refine OpX.call Gm rfl (Calls.ret (F3 (hA.chg0 (Chg.refl _ _).drew) ok M.S.top (-n)) ?_)
      rintro v w4 hd
      exact⟨_,base _ _ (Did.trans (M1:=M) (Chg.refl _ _).drew (fun b hb=>.inl hb) hd),by unfold Scr.changed;dsimp only;rw[if_neg c1,if_neg c2,if_neg c3,if_neg c4,if_neg c5,if_neg c6,if_neg c7,if_neg c8,if_pos c9,hn]⟩
     simp -dsimp (disch:=first|omega|(simp only[go_sem,seval];try omega))only[go_sem,seval]
     refine BrW.dec (fun c10=>?_) (fun c10=>?_)
     ·simp -dsimp (disch:=first|omega|(simp only[go_sem,seval];try omega))only[go_sem,seval,hp1,hn3,ha1]
      refine OpX.call DG rfl (Calls.ret (Dx _ a 1 0) ?_)
      rintro v w4 ⟨rfl,hc4⟩
      have hc5:Chg [] w3 w4:=(Chg.refl _ _).drew.trans0 hc4
      have hp4:=hc5.keep hp1 (by simp)
      have hn4:=hc5.keep hn3 (by simp)
      simp -dsimp (disch:=first|omega|(simp only[go_sem,seval];try omega))only[go_sem,seval,hp4,hn4]
      refine OpX.call Rp rfl (Calls.ret (Xr (hA.chg0 hc5) ok (n-1) (a.num 1 0) (by omega) (by omega) (by omega) (by omega)) ?_)
      rintro v w5 hd
      exact⟨_,base _ _ (Did.trans (M1:=M) (hc5.mono (by simp)) (fun b hb=>.inl hb) hd),by unfold Scr.changed;dsimp only;rw[if_neg c1,if_neg c2,if_neg c3,if_neg c4,if_neg c5,if_neg c6,if_neg c7,if_neg c8,if_neg c9,if_pos c10,hn]⟩
     have e:M.S.changed a=none:=by
      unfold Scr.changed
      dsimp only
      rw[if_neg c1,if_neg c2,if_neg c3,if_neg c4,if_neg c5,if_neg c6,if_neg c7,if_neg c8,if_neg c9,if_neg c10]
     rw[e] at hK
     exact hK _ _ ⟨rfl,Did.trans (M1:=M) (hc1.mono (by simp)) (fun b hb=>.inl hb) (Did.refl hA)⟩
    ·rintro w4 ⟨T,hd,hnw,ok4,e⟩
     have hp4:=hd.keep hp1 hop
     have ha4:=hd.keep ha1 hoa
     have hx4:=hd.keep hx3 hox
     obtain⟨M4,hA4,rfl,hc4,hbl4⟩:=hd
     simp -dsimp (disch:=first|omega|(simp only[go_sem,seval];try omega))only[go_sem,seval,ha4]
     refine OpX.call DG rfl (Calls.ret (Dx _ a 0 0) ?_)
     rintro v w5 ⟨rfl,hc5⟩
     have hp5:=hc5.keep hp4 (by simp)
     have hx5:=hc5.keep hx4 (by simp)
     have hA5:=hA4.chg0 hc5
     have hb5:=hA5.hb
     have w15:=ok4.w1
     have nx5:=ok4.nx
     rw[hnw] at nx5
     have fin:∀w',Did w5 s M4 w' (M4.S.wipeLine (a.num 0 0))→∃T,Did w s M w' T∧M.S.changed a=some T:=fun w' hd=>⟨_,base _ _ (Did.trans hc4 hbl4 (Did.trans (M1:=M4) (hc5.mono (by simp)) (fun b hb=>.inl hb) hd)),e⟩
     unfold Scr.wipeLine at fin
     rw[hnw] at fin
     simp -dsimp (disch:=first|omega|(simp only[go_sem,seval];try omega))only[go_sem,seval]
     refine BrW.dec (fun d1=>?_) (fun d1=>?_)
     ·rw[if_pos d1] at fin
      simp -dsimp (disch:=first|omega|(simp only[go_sem,seval];try omega))only[go_sem,seval,hp5,hb5,hx5]
      refine OpX.call Ge rfl (Calls.ret (F2 (hA5.chg0 (Chg.refl _ _).drew) ok4 M.S.now.x M4.S.w (by omega) (by omega)) ?_)
      rintro v w6 hd
      exact fin _ (Did.trans (M1:=M4) (Chg.refl _ _).drew (fun b hb=>.inl hb) hd)
     rw[if_neg d1] at fin
     simp -dsimp (disch:=first|omega|(simp only[go_sem,seval];try omega))only[go_sem,seval]
     refine BrW.dec (fun d2=>?_) (fun d2=>?_)
     ·rw[if_pos d2] at fin
      simp -dsimp (disch:=first|omega|(simp only[go_sem,seval];try omega))only[go_sem,seval,hp5,hb5,hx5]
      refine OpX.call Ge rfl (Calls.ret (F2 hA5 ok4 0 (M.S.now.x+1) (by omega) (by omega)) ?_)
      rintro v w6 hd
      exact fin _ hd
     rw[if_neg d2] at fin
     simp -dsimp (disch:=first|omega|(simp only[go_sem,seval];try omega))only[go_sem,seval]
     refine BrW.dec (fun d3=>?_) (fun d3=>?_)
     ·rw[if_pos d3] at fin
      simp -dsimp (disch:=first|omega|(simp only[go_sem,seval];try omega))only[go_sem,seval,hp5,hb5,hx5]
      refine OpX.call Ge rfl (Calls.ret (F2 (hA5.chg0 (Chg.refl _ _).drew) ok4 0 M4.S.w (by omega) (by omega)) ?_)
      rintro v w6 hd
      exact fin _ (Did.trans (M1:=M4) (Chg.refl _ _).drew (fun b hb=>.inl hb) hd)
     rw[if_neg d3] at fin
     exact fin _ (Did.refl hA5)
   ·rintro w4 ⟨k,hk,hc4,hn4,e⟩
    have hp4:=hc4.keep hp1 (by simp;omega)
    have hA4:=hAn w4 hc4
    have hb4:=hA4.hb
    have hl4:=Aa hb4
    have hc5:Chg [] w w4:=hc1.trans hc4 (by simp;omega)
    unfold Scr.shiftRows at e
    refine Join1.cut (fun v w'=>v=.bool (decide (M.S.top≤M.S.now.y∧M.S.now.y<M.S.fin))∧w4=w') ?_ ?_
    ·simp -dsimp (disch:=first|omega|(simp only[go_sem,seval];try omega))only[go_sem,seval,hp4,hb4]
     refine BrW.dec (fun d1=>?_) (fun d1=>?_)
     ·simp -dsimp (disch:=first|omega|(simp only[go_sem,seval];try omega))only[go_sem,seval,hp4,hb4]
      exact congrArg Value.bool (decide_eq_decide.2 (by omega))
     ·exact⟨congrArg Value.bool (decide_eq_false (by omega)).symm,rfl⟩
    ·rintro v w5 ⟨rfl,rfl⟩
     refine BrW.dec (fun d1=>?_) (fun d1=>?_)
     ·rw[if_pos d1] at e
      simp -dsimp (disch:=first|omega|(simp only[go_sem,seval];try omega))only[go_sem,seval,hp4,hn4]
      refine OpX.call Gm rfl (Calls.ret (F3 hA4 ok M.S.now.y (-k)) ?_)
      rintro v w5 hd
      have hp5:=hd.keep hp4 hop
      obtain⟨M5,hA5,hS5,hc6,hbl5⟩:=hd
      have hb5:=hA5.hb
      have tl5:=hA5.tl
      have hl5:=Aa hb5
      simp -dsimp (disch:=first|omega|(simp only[go_sem,seval];try omega))only[go_sem,seval,hp5,hb5]
      have hx5:M5.S.now=M.S.now:=by rw[hS5];exact Ei _
      rw[←hS5,←hx5] at e
      exact⟨_,Did.trans (M1:=M) (hc5.mono (by simp)) (fun b hb=>.inl hb) (Did.trans hc6 hbl5 (Did.set hA5 (Chg.refl _ _) (fun b hb=>.inl hb) _ rfl rfl tl5 rfl)),e⟩
     ·rw[if_neg d1] at e
      exact⟨_,Did.trans (M1:=M) (hc5.mono (by simp)) (fun b hb=>.inl hb) (Did.refl hA4),e⟩
  ·rintro w4 ⟨k,hk,hc4,hn4,e⟩
   have hp4:=hc4.keep hp1 (by simp;omega)
   have hx4:=hc4.keep hx3 (by simp)
   have hA4:=hAn w4 hc4
   simp -dsimp (disch:=first|omega|(simp only[go_sem,seval];try omega))only[go_sem,seval,hp4]
   refine OpX.call Hy rfl (Calls.ret (Hk hA4 ok (TQ hA4 ok hp4 hx4 hn4) (fun _ hg=>hg.shift)) ?_)
   rintro v w5 hd
   have hc5:Chg [] w w4:=hc1.trans hc4 (by simp;omega)
   exact⟨_,Did.trans (M1:=M) (hc5.mono (by simp)) (fun b hb=>.inl hb) hd,e⟩
 ·rintro w4 ⟨T,hd,e⟩
  rw[e] at hK
  exact hK _ _ ⟨rfl,hd⟩
end Go.Proofs.YtelplojmbjnplaaGreatDoor
namespace Lyc
open Go
section
variable {P:Program}
theorem Uz {t:TypeId} {q:Nat × Nat} (h:Bf P t=some q):∃e,P.underlying t=some (.array q.1 e)∧Ak P e=some q.2:=by
 unfold Bf at h
 cases hu:P.underlying t with
 | none=>rw[hu] at h;simp at h
 | some d =>
  rw[hu] at h
  cases d<;>simp at h
  obtain⟨m,hm,rfl⟩:=h
  exact⟨_,rfl,hm⟩
theorem Pv (t ty:TypeId) (b o:Nat) (q:Nat × Nat) (k:IntKind) (i:Int) (h:Bf P t=some q) (h0:0≤i) (h1:i≤q.1):PureRun P (.slice t (.const (.pointer (some ⟨b,o,none⟩))) none (some (.const (.int k i))) none) ty (.slice (some ⟨b,o,none⟩) i.toNat q.1):=by
 obtain⟨e,hu,hs⟩:=Uz h
 refine⟨fun ρ hg w=>?_⟩
 simp [execOp,An,hg.1,Instr.sliceAt,Instr.sureAddr,Instr.sliceBounds,Instr.sliceBound,asIntOf,run_underlying hu,Bk hs,h0,h1,Addr.add]
@[go_sem] theorem bU (t ty:TypeId) (b o:Nat) (k:IntKind) (i:Int) (K:Value→World→Prop) (w:World) (h0:0≤i) (h1:i≤((Bf P t).getD (0,0)).1):OpX P (.slice t (.const (.pointer (some ⟨b,o,none⟩))) none (some (.const (.int k i))) none) ty K w=OrK (Bf P t) (fun q=>K (.slice (some ⟨b,o,none⟩) i.toNat q.1) w) (OpX P (.slice t (.const (.pointer (some ⟨b,o,none⟩))) none (some (.const (.int k i))) none) ty K w) () :=
 AG (fun q h=>(Pv t ty b o q k i h h0 (by rw[h] at h1;exact h1)).op K w) rfl
theorem Xo (t ty:TypeId) (a:Option Addr) (len cap n:Nat) (k k':IntKind) (i q:Int) (h:AJ P t=some n) (h0:0≤i) (h1:i≤q) (h2:q≤cap):PureRun P (.slice t (.const (.slice a len cap)) none (some (.const (.int k i))) (some (.const (.int k' q)))) ty (.slice a i.toNat q.toNat):=by
 obtain⟨e,hu,hs⟩:=Dg h
 refine⟨fun ρ hg w=>?_⟩
 have h4:0≤q:=by omega
 have h6:i≤max q 0:=by omega
 cases a with
 | none =>
  simp [execOp,An,hg.1,Instr.sliceAt,Instr.slice,Instr.sliceBounds,Instr.sliceBound,asIntOf,run_underlying hu,Bk hs,h0,h2,h4]
  intro hc;omega
 | some a =>
  obtain⟨b,o,sp⟩:=a
  simp [execOp,An,hg.1,Instr.sliceAt,Instr.slice,Instr.sliceBounds,Instr.sliceBound,asIntOf,run_underlying hu,Bk hs,h0,h2,h4,Addr.add]
  intro hc;omega
@[go_sem] theorem da (t ty:TypeId) (a:Option Addr) (len cap:Nat) (k k':IntKind) (i q:Int) (K:Value→World→Prop) (w:World) (h0:0≤i) (h1:i≤q) (h2:q≤cap):OpX P (.slice t (.const (.slice a len cap)) none (some (.const (.int k i))) (some (.const (.int k' q)))) ty K w=OrK (AJ P t) (fun _=>K (.slice a i.toNat q.toNat) w) (OpX P (.slice t (.const (.slice a len cap)) none (some (.const (.int k i))) (some (.const (.int k' q)))) ty K w) () :=
 AG (fun n h=>(Xo t ty a len cap n k k' i q h h0 h1 h2).op K w) rfl
end
theorem OU (x:Int):IntKind.u8.wrap x=((BitVec.ofInt 8 x).toNat:Int):=by
 rw[BitVec.toNat_ofInt]
 show x % 256=_
 omega
end Lyc
namespace Go.Proofs.YtelplojmbjnplaaGreatDoor
open Lyc Go
theorem EF (w:World) (n:Int):Calls Tryz.prog 235 #[.int .i64 n] w (Ac fun v w'=>v=.int .u8 (hue n).toNat∧w=w'):=by
 apply Qq
 intro K hK
 unfold Nr
 simp -dsimp (disch:=first|omega|(simp only[go_sem,seval];try omega))only[go_sem,seval]
 refine hK _ _ ⟨?_,rfl⟩
 rw[OU]
 rfl
theorem Hg (w:World) (n:Int):Calls Tryz.prog 241 #[.int .i64 n] w (Ac fun v w'=>v=.int .i64 (Cm n)∧w=w'):=by
 apply Vz
 intro K hK
 unfold LU
 simp -dsimp (disch:=first|omega|(simp only[go_sem,seval];try omega))only[go_sem,seval]
 have e:(min (max n 0) 255).tdiv 43=Cm n:=by unfold Cm;rw[Int.tdiv_eq_ediv_of_nonneg (by omega)]
 have hb:0≤Cm n∧Cm n≤255:=by unfold Cm;omega
 rw[e,G5 _ (by omega) (by omega)]
 exact hK _ _ ⟨rfl,rfl⟩
theorem G6 (n:Int):0≤Cm n∧Cm n≤5:=by unfold Cm;omega
theorem Q2 (w:World) (r g b:Int):Calls Tryz.prog 236 #[.int .i64 r,.int .i64 g,.int .i64 b] w (Ac fun v w'=>v=.int .u8 (rgb r g b).toNat∧w=w'):=by
 have h1:=G6 r
 have h2:=G6 g
 have h3:=G6 b
 apply X4
 intro K hK
 unfold OH
 refine OpX.callV (us:=[]) (cs:=[]) Ir rfl (Calls.ret (Hg w r) ?_)
 rintro v w1 ⟨rfl,rfl⟩
 simp -dsimp (disch:=first|omega|(simp only[go_sem,seval];try omega))only[go_sem,seval]
 refine OpX.callV (us:=[]) (cs:=[]) Ir rfl (Calls.ret (Hg w g) ?_)
 rintro v w1 ⟨rfl,rfl⟩
 simp -dsimp (disch:=first|omega|(simp only[go_sem,seval];try omega))only[go_sem,seval]
 refine OpX.callV (us:=[]) (cs:=[]) Ir rfl (Calls.ret (Hg w b) ?_)
 rintro v w1 ⟨rfl,rfl⟩
 simp -dsimp (disch:=first|omega|(simp only[go_sem,seval];try omega))only[go_sem,seval]
 refine hK _ _ ⟨congrArg (Value.int .u8) ?_,rfl⟩
 unfold rgb
 rw[←OU,IA _ (by omega) (by omega)]
section
attribute [-go_sem] Ft Fk
theorem Rn (w:World):Calls Tryz.prog 237 #[] w (Ac fun v w'=>v=.agg #[.int .u8 0,.int .u8 1,.int .u8 2,.int .u8 4,.int .u8 8,.int .u8 16,.int .u8 0,.int .u8 32]∧Chg [] w w'):=by
 apply Sk
 intro K hK
 unfold OJ
 simp -dsimp (disch:=first|omega|(simp only[go_sem,seval];try omega))only[go_sem,seval]
 refine OpX.build (c:=#[.int .u8 0,.int .u8 1,.int .u8 2,.int .u8 4,.int .u8 8,.int .u8 16,.int .u8 0,.int .u8 32]) (by kernel_rfl) ?_
 simp -dsimp (disch:=first|omega|(simp only[go_sem,seval];try omega))only[go_sem,seval]
 exact hK _ _ ⟨rfl,(Chg.refl _ _).alloc _⟩
end
def fI (n:Int):List Value:=[.int .i64 n]
def BV (w:World) (b5:Nat) (l:List Int):Prop:=∃g o cap,w.heap[b5]?=some (.cells #[.slice (some ⟨g,o,none⟩) l.length cap] 40)∧l.length≤cap∧l.length≤8∧g≠b5∧∃e,(e=247∨e=3)∧Sx w (some e) fI (some ⟨g,o,none⟩) l
theorem BV.chg0 {w w':World} {b5:Nat} {l:List Int} (h:BV w b5 l) (hc:Chg [] w w'):BV w' b5 l:=by
 obtain⟨g,o,cap,h1,h2,h3,h4,e,he,h5⟩:=h
 exact⟨g,o,cap,hc.keep h1 (by simp),h2,h3,h4,e,he,h5.chg0 hc⟩
theorem BV.low {w w':World} {b b5:Nat} {l:List Int} (h:BV w b5 l) (hc:Chg [b] w w') (hb:b≠b5) {c:Array Value} {fr:Nat × Nat} (hg:w.heap[b]?=some (.cells c 167 fr)):BV w' b5 l:=by
 obtain⟨g,o,cap,h1,h2,h3,h4,e,he,h5⟩:=h
 refine⟨g,o,cap,hc.keep h1 (by simp;omega),h2,h3,h4,e,he,h5.chg hc ?_⟩
 intro b' o' ha hne hm
 rw[List.mem_singleton.1 hm] at ha
 rcases he with rfl|rfl
 ·exact h5.ne ha hne hg rfl rfl
 ·exact h5.ne ha hne hg rfl rfl
theorem E5 {w:World} {b5:Nat} {l:List Int} (hL:BV w b5 l) (k:Nat) (hk:k≤8):Calls Tryz.prog 226 #[.int .i64 k,.pointer (some ⟨b5,0,none⟩)] w
  (Ac fun v w'=>(∃g o cap,v=.slice (some ⟨g,o,none⟩) (l.take k).length cap∧g≠b5∧Sx w' none fI (some ⟨g,o,none⟩) (l.take k))∧BV w' b5 (l.drop k)∧Chg [b5] w w'):=by
 obtain⟨g,o,cap,h1,h2,h3,h4,e5,he5,h5⟩:=hL
 have hl:=Aa h1
 apply QD
 intro K hK
 unfold KP
 have e:min (k:Int) (l.length:Int)=((min k l.length:Nat):Int):=by omega
 simp -dsimp (disch:=first|omega|(simp only[go_sem,seval];try omega))only[go_sem,seval,h1,e]
 have hc:Chg [b5] w (Ab w b5 (.cells #[.slice (some ⟨g,slo o cap (min k l.length) 1,none⟩) (l.length-min k l.length) (cap-min k l.length)] 40)):=(Chg.refl _ _).set _ _ (by simp)
 have h5':=h5.chg hc (fun b o' ha hne hm=>by cases ha;exact h4 (List.mem_singleton.1 hm))
 have ht:l.take k=(l.drop 0).take (min k l.length):=by rw[List.drop_zero];exact(List.take_eq_take_min ..).trans (by rfl)
 have hd:l.drop k=(l.drop (min k l.length)).take (l.length-min k l.length):=by
  rcases Nat.le_total k l.length with hkl|hkl
  ·rw[Nat.min_eq_left hkl,List.take_of_length_le (by simp)]
  ·rw[Nat.min_eq_right hkl,List.drop_eq_nil_of_le hkl,List.drop_eq_nil_of_le (Nat.le_refl _)];simp
 refine hK _ _ ⟨⟨g,o,min k l.length,by rw[List.length_take],h4,?_⟩,⟨g,slo o cap (min k l.length) 1,cap-min k l.length,?_,?_,?_,h4,e5,he5,?_⟩,hc⟩
 ·rw[ht]
  exact(h5'.sub (m:=1) (fun _=>rfl) 0 _ _ (.inr (.inr (by simp)))).untag
 ·have:(l.drop k).length=l.length-min k l.length:=by rw[List.length_drop];omega
  rw[this]
  simp -dsimp (disch:=first|omega|(simp only[go_sem,seval];try omega))only[go_sem,seval]
 ·rw[List.length_drop];omega
 ·rw[List.length_drop];omega
 ·rw[hd]
  refine h5'.sub (m:=1) (fun _=>rfl) (min k l.length) _ _ ?_
  unfold slo
  split
  ·left;omega
  ·right;right;rfl
theorem C9 {w:World} {g o:Nat} {l:List Int} (h:Sx w none fI (some ⟨g,o,none⟩) l) {i:Nat} {n:Int} (hi:l[i]?=some n):Au w.heap[g]? (o+i)=some (.int .i64 n):=by
 obtain⟨b,o',h1,h2,h3⟩:=h.get1 (g:=fun n=>Value.int .i64 n) (fun _=>rfl) hi
 cases h1;exact h3
def K6 (b5:Nat):Value:=.func (.func 226) #[] #[.pointer (some ⟨b5,0,none⟩)]
theorem Wm {w:World} {b5:Nat} {l:List Int} (hL:BV w b5 l):Calls Tryz.prog 227 #[K6 b5] w
  (Ac fun v w'=>v=.tuple #[.int .u8 ((AV l).1.getD 0).toNat,.bool (AV l).1.isSome]∧BV w' b5 (AV l).2∧Chg [b5] w w'):=by
 apply Zi
 intro K hK
 unfold L4
 refine OpX.callV (us:=[]) (cs:=[_]) EI rfl (Calls.ret (E5 hL 1 (by omega)) ?_)
 rintro v w1 ⟨⟨g,o,cap,rfl,hg,hs⟩,hL1,hc1⟩
 have last:∀(w2:World) (l2:List Int),Chg [b5] w w2→BV w2 b5 l2→AV l=(none,[])→OpX Tryz.prog (.call { callee:=.value (.const (K6 b5)),args:=#[.const (.int .i64 8)],argTypes:=#[3] }) 40 (fun _=>K (.tuple #[(.int .u8 0),(.bool false)])) w2:=by
  intro w2 l2 hc2 hL2 e
  have hl2:l2.length≤8:=by obtain⟨_,_,_,_,_,h3,_⟩:=hL2;exact h3
  refine OpX.callV (us:=[]) (cs:=[_]) EI rfl (Calls.ret (E5 hL2 8 (by omega)) ?_)
  rintro v w3 ⟨-,hL3,hc3⟩
  rw[List.drop_eq_nil_of_le hl2] at hL3
  refine hK _ _ ⟨by rw[e];rfl,by rw[e];exact hL3,hc2.trans hc3 (by simp)⟩
 rcases l with _|⟨n,l⟩
 ·refine Join0.cut (fun w'=>w1=w') ?_ ?_
  ·refine Join1.cut (fun v w'=>v=.bool false∧w1=w') ?_ ?_
   ·simp -dsimp (disch:=first|omega|(simp only[go_sem,seval];try omega))only[go_sem,seval]
    exact BrW.dec (fun h=>by simp at h) (fun _=>⟨rfl,rfl⟩)
   ·rintro v w2 ⟨rfl,rfl⟩
    simp -dsimp (disch:=first|omega|(simp only[go_sem,seval];try omega))only[go_sem,seval]
  ·rintro w2 rfl
   refine Join0.cut (fun w'=>w1=w') ?_ ?_
   ·refine Join1.cut (fun v w'=>v=.bool false∧w1=w') ?_ ?_
    ·simp -dsimp (disch:=first|omega|(simp only[go_sem,seval];try omega))only[go_sem,seval]
     exact BrW.dec (fun h=>by simp at h) (fun _=>⟨rfl,rfl⟩)
    ·rintro v w2 ⟨rfl,rfl⟩
     simp -dsimp (disch:=first|omega|(simp only[go_sem,seval];try omega))only[go_sem,seval]
   ·rintro w2 rfl
    exact last _ _ hc1 hL1 rfl
 ·have e1:(n::l).take 1=[n]:=rfl
  have e2:(n::l).drop 1=l:=rfl
  rw[e1] at hs ⊢
  rw[e2] at hL1
  have hcell:=C9 hs (i:=0) rfl
  simp only[Nat.add_zero] at hcell
  refine Join0.cut (fun w'=>(∃l2,BV w' b5 l2∧(n≠5→l2=l))∧(n=5→AV (n::l)=(none,[]))∧Chg [b5] w w'∧Sx w' none fI (some ⟨g,o,none⟩) [n]) ?_ ?_
  ·refine Join1.cut (fun v w'=>v=.bool (decide (n=5))∧w1=w') ?_ ?_
   ·simp -dsimp (disch:=first|omega|(simp only[go_sem,seval];try omega))only[go_sem,seval,hcell]
   ·rintro v w2 ⟨rfl,rfl⟩
    refine BrW.dec (fun h5=>?_) (fun h5=>?_)
    ·subst h5
     refine OpX.callV (us:=[]) (cs:=[_]) EI rfl (Calls.ret (E5 hL1 1 (by omega)) ?_)
     rintro v w2 ⟨⟨g2,o2,cap2,rfl,hg2,hs2⟩,hL2,hc2⟩
     have hs':=hs.chg hc2 (fun b o' ha hne hm=>by cases ha;exact hg (List.mem_singleton.1 hm))
     have hc3:=hc1.trans hc2 (by simp)
     rcases l with _|⟨m,l⟩
     ·simp -dsimp (disch:=first|omega|(simp only[go_sem,seval];try omega))only[go_sem,seval]
      refine BrW.dec (fun h=>by simp at h) (fun _=>?_)
      exact⟨⟨_,hL2,fun h=>absurd rfl h⟩,fun _=>rfl,hc3,hs'⟩
     ·have e3:(m::l).take 1=[m]:=rfl
      have e4:(m::l).drop 1=l:=rfl
      rw[e3] at hs2 ⊢
      rw[e4] at hL2
      have hcell2:=C9 hs2 (i:=0) rfl
      simp only[Nat.add_zero] at hcell2
      simp -dsimp (disch:=first|omega|(simp only[go_sem,seval];try omega))only[go_sem,seval,hcell2]
      refine Join1.cut (fun v w'=>v=.bool (decide (m<0∨255<m))∧w2=w') ?_ ?_
      ·simp -dsimp (disch:=first|omega|(simp only[go_sem,seval];try omega))only[go_sem,seval]
       refine BrW.dec (fun d1=>?_) (fun d1=>?_)
       ·exact⟨congrArg Value.bool (decide_eq_true (.inl d1)).symm,rfl⟩
       ·simp -dsimp (disch:=first|omega|(simp only[go_sem,seval];try omega))only[go_sem,seval]
        exact congrArg Value.bool (decide_eq_decide.2 (by omega))
      ·rintro v w3 ⟨rfl,rfl⟩
       refine BrW.dec (fun d1=>?_) (fun d1=>?_)
       ·have e:AV (5::m::l)=(none,l):=by unfold AV;simp;omega
        rw[e] at hK
        exact hK _ _ ⟨rfl,hL2,hc3⟩
       ·have e:AV (5::m::l)=(some (hue m),l):=by unfold AV;simp;omega
        rw[e] at hK
        refine OpX.call Ff rfl (Calls.ret (EF w2 m) ?_)
        rintro v w3 ⟨rfl,rfl⟩
        exact hK _ _ ⟨rfl,hL2,hc3⟩
    ·exact⟨⟨_,hL1,fun _=>rfl⟩,fun h=>absurd h h5,hc1,hs⟩
  ·rintro w2 ⟨⟨l2,hL2,hl2⟩,h5,hc2,hs2⟩
   have hcell2:=C9 hs2 (i:=0) rfl
   simp only[Nat.add_zero] at hcell2
   refine Join0.cut (fun w'=>(∃l2,BV w' b5 l2)∧AV (n::l)=(none,[])∧Chg [b5] w w') ?_ ?_
   ·refine Join1.cut (fun v w'=>v=.bool (decide (n=2))∧w2=w') ?_ ?_
    ·simp -dsimp (disch:=first|omega|(simp only[go_sem,seval];try omega))only[go_sem,seval,hcell2]
    ·rintro v w3 ⟨rfl,rfl⟩
     refine BrW.dec (fun d1=>?_) (fun d1=>?_)
     ·subst d1
      have:=hl2 (by decide)
      subst this
      refine OpX.callV (us:=[]) (cs:=[_]) EI rfl (Calls.ret (E5 hL2 3 (by omega)) ?_)
      rintro v w3 ⟨⟨g3,o3,cap3,rfl,hg3,hs3⟩,hL3,hc3⟩
      have hc4:=hc2.trans hc3 (by simp)
      simp -dsimp (disch:=first|omega|(simp only[go_sem,seval];try omega))only[go_sem,seval]
      refine BrW.dec (fun h=>?_) (fun h=>?_)
      ·rcases l2 with _|⟨r,_|⟨gg,_|⟨bb,l3⟩⟩⟩
       ·simp at h
       ·simp at h
       ·simp at h
       have e3:(r::gg::bb::l3).take 3=[r,gg,bb]:=rfl
       rw[e3] at hs3 ⊢
       have q0:=C9 hs3 (i:=0) rfl
       have q1:=C9 hs3 (i:=1) rfl
       have q2:=C9 hs3 (i:=2) rfl
       simp only[Nat.add_zero] at q0
       have e:AV (2::r::gg::bb::l3)=(some (rgb r gg bb),l3):=rfl
       rw[e] at hK
       simp -dsimp (disch:=first|omega|(simp only[go_sem,seval];try omega))only[go_sem,seval,q0,q1,q2]
       refine OpX.call Pm rfl (Calls.ret (Q2 _ r gg bb) ?_)
       rintro v w4 ⟨rfl,rfl⟩
       exact hK _ _ ⟨rfl,hL3.chg0 (Chg.refl _ _).drew,hc4.drew⟩
      ·refine⟨⟨_,hL3⟩,?_,hc4⟩
       rcases l2 with _|⟨r,_|⟨gg,_|⟨bb,l3⟩⟩⟩
       ·rfl
       ·rfl
       ·rfl
       ·simp at h
     ·refine⟨⟨_,hL2⟩,?_,hc2⟩
      by_cases h:n=5
      ·exact h5 h
      ·unfold AV
       split
       ·simp_all
       ·simp_all
       ·rfl
   ·rintro w3 ⟨⟨l3,hL3⟩,e,hc3⟩
    exact last _ _ hc3 hL3 e
def N4 (w:World) (d:Cel) (w':World):Prop:=Chg [] w w'∧w'.heap[w.heap.size]?=some (.cells d.cells.toArray 167)∧w'.heap[w.heap.size+1]?=some (.cells #[.int .i32 0,.int .u8 0,.int .u8 0,.int .u8 0] 167)
theorem Rj (w:World) (c:Cel) (n:Int) (n0:Bu n):Calls Tryz.prog 228 #[c.val,.int .i64 n] w (Ac fun v w'=>v=(EZ c n).val∧Chg [] w w'):=by
 unfold Bu at n0
 apply Pw
 intro K hK
 unfold Me
 simp -dsimp (disch:=first|omega|(simp only[go_sem,seval];try omega))only[go_sem,seval]
 have hc1:Chg [] w ((w.alloc (.cells c.cells.toArray 167)).alloc (.cells #[.int .i32 0,.int .u8 0,.int .u8 0,.int .u8 0] 167)):=BY _ _ _
 have hz:(w.alloc (.cells #[.int .i32 c.r,.int .u8 c.fg.toNat,.int .u8 c.bg.toNat,.int .u8 c.a.toNat] 167)).heap.size=w.heap.size+1:=by simp -dsimp (disch:=first|omega|(simp only[go_sem,seval];try omega))only[go_sem,seval]
 rw[hz]
 obtain⟨w1,hw1⟩:∃w1,w1=((w.alloc (.cells #[.int .i32 c.r,.int .u8 c.fg.toNat,.int .u8 c.bg.toNat,.int .u8 c.a.toNat] 167)).alloc (.cells #[.int .i32 0,.int .u8 0,.int .u8 0,.int .u8 0] 167)):=⟨_,rfl⟩
 rw[←hw1]
 simp only[Cel.cells] at hc1
 rw[←hw1] at hc1
 have hp1:w1.heap[w.heap.size]?=some (.cells #[.int .i32 c.r,.int .u8 c.fg.toNat,.int .u8 c.bg.toNat,.int .u8 c.a.toNat] 167):=by rw[hw1];simp -dsimp (disch:=first|omega|(simp only[go_sem,seval];try omega))only[go_sem,seval]
 have ho1:w1.heap[w.heap.size+1]?=some (.cells #[.int .i32 0,.int .u8 0,.int .u8 0,.int .u8 0] 167):=by rw[hw1];simp -dsimp (disch:=first|omega|(simp only[go_sem,seval];try omega))only[go_sem,seval]
 clear hw1 hz
 refine OpX.call XB rfl (Calls.ret (Rn w1) ?_)
 rintro v w2 ⟨rfl,hc2⟩
 have hl1:=Aa (hc2.keep ho1 (by simp))
 simp -dsimp (disch:=first|omega|(simp only[go_sem,seval];try omega))only[go_sem,seval]
 obtain⟨w3,hw3⟩:∃w3,w3=(w2.alloc (.cells #[.int .u8 0,.int .u8 1,.int .u8 2,.int .u8 4,.int .u8 8,.int .u8 16,.int .u8 0,.int .u8 32] 327)):=⟨_,rfl⟩
 rw[←hw3]
 have hc3:Chg [] w w3:=by rw[hw3];exact(hc1.trans0 hc2).alloc _
 have hp:w3.heap[w.heap.size]?=some (.cells #[.int .i32 c.r,.int .u8 c.fg.toNat,.int .u8 c.bg.toNat,.int .u8 c.a.toNat] 167):=by rw[hw3];exact((Chg.refl [] _).alloc _).keep (hc2.keep hp1 (by simp)) (by simp)
 have ho:w3.heap[w.heap.size+1]?=some (.cells #[.int .i32 0,.int .u8 0,.int .u8 0,.int .u8 0] 167):=by rw[hw3];exact((Chg.refl [] _).alloc _).keep (hc2.keep ho1 (by simp)) (by simp)
 have hq:w3.heap[w2.heap.size]?=some (.cells #[.int .u8 0,.int .u8 1,.int .u8 2,.int .u8 4,.int .u8 8,.int .u8 16,.int .u8 0,.int .u8 32] 327):=by rw[hw3];simp -dsimp (disch:=first|omega|(simp only[go_sem,seval];try omega))only[go_sem,seval]
 have hl3:=Aa ho
 clear hw3 hc1 hc2 hp1 ho1
 obtain⟨D,hD⟩:∃D,D=EZ c n:=⟨_,rfl⟩
 rw[←hD] at hK
 refine Join0.cut (fun w'=>N4 w D w') ?_ ?_
 ·have done:∀(f b a:BitVec 8) (w4:World),(w4=Ab w3 w.heap.size (.cells #[.int .i32 c.r,.int .u8 f.toNat,.int .u8 b.toNat,.int .u8 a.toNat] 167)∨w4=(Ab w3 w.heap.size (.cells #[.int .i32 c.r,.int .u8 f.toNat,.int .u8 b.toNat,.int .u8 a.toNat] 167)).drew)→D=⟨c.r,f,b,a⟩ →
    N4 w D w4:=by
   intro f b a w4 h4 e
   rw[e]
   have hcc:=hc3.set w.heap.size (.cells #[.int .i32 c.r,.int .u8 f.toNat,.int .u8 b.toNat,.int .u8 a.toNat] 167) (.inr (Nat.le_refl _))
   rcases h4 with rfl|rfl
   ·exact⟨hcc,(by simp -dsimp (disch:=first|omega|(simp only[go_sem,seval];try omega))only[go_sem,seval]),(by simp -dsimp (disch:=first|omega|(simp only[go_sem,seval];try omega))only[go_sem,seval,ho])⟩
   ·exact⟨hcc.drew,(by simp -dsimp (disch:=first|omega|(simp only[go_sem,seval];try omega))only[go_sem,seval]),(by simp -dsimp (disch:=first|omega|(simp only[go_sem,seval];try omega))only[go_sem,seval,ho])⟩
  unfold EZ at hD
  simp -dsimp (disch:=first|omega|(simp only[go_sem,seval];try omega))only[go_sem,seval]
  refine BrW.dec (fun d1=>?_) (fun d1=>?_)
  ·rw[if_pos d1] at hD
   simp -dsimp (disch:=first|omega|(simp only[go_sem,seval];try omega))only[go_sem,seval,hp]
   exact done 0 0 0 _ (.inl rfl) hD
  rw[if_neg d1] at hD
  refine Join1.cut (fun v w'=>v=.bool (decide (0<n∧n<8))∧w3=w') ?_ ?_
  ·simp -dsimp (disch:=first|omega|(simp only[go_sem,seval];try omega))only[go_sem,seval]
   refine BrW.dec (fun g1=>?_) (fun g1=>?_)
   ·simp -dsimp (disch:=first|omega|(simp only[go_sem,seval];try omega))only[go_sem,seval]
    exact congrArg Value.bool (decide_eq_decide.2 (by omega))
   ·exact⟨congrArg Value.bool (decide_eq_false (by omega)).symm,rfl⟩
  rintro v w4 ⟨rfl,rfl⟩
  refine BrW.dec (fun d2=>?_) (fun d2=>?_)
  ·rw[if_pos d2] at hD
   have hn:n=1∨n=2∨n=3∨n=4∨n=5∨n=6∨n=7:=by omega
   rcases hn with rfl|rfl|rfl|rfl|rfl|rfl|rfl<;>(simp -dsimp (disch:=first|omega|(simp only[go_sem,seval];try omega))only[go_sem,seval,hp,hq,HT];exact done c.fg c.bg _ _ (.inr rfl) hD)
  rw[if_neg d2] at hD
  simp -dsimp (disch:=first|omega|(simp only[go_sem,seval];try omega))only[go_sem,seval]
  refine BrW.dec (fun d3=>?_) (fun d3=>?_)
  ·rw[if_pos d3] at hD
   simp -dsimp (disch:=first|omega|(simp only[go_sem,seval];try omega))only[go_sem,seval,hp,Gq]
   exact done c.fg c.bg _ _ (.inl rfl) hD
  rw[if_neg d3] at hD
  refine Join1.cut (fun v w'=>v=.bool (decide (23≤n∧n≤27))∧w3=w') ?_ ?_
  ·simp -dsimp (disch:=first|omega|(simp only[go_sem,seval];try omega))only[go_sem,seval]
   refine BrW.dec (fun g1=>?_) (fun g1=>?_)
   ·simp -dsimp (disch:=first|omega|(simp only[go_sem,seval];try omega))only[go_sem,seval]
    exact congrArg Value.bool (decide_eq_decide.2 (by omega))
   ·exact⟨congrArg Value.bool (decide_eq_false (by omega)).symm,rfl⟩
  rintro v w4 ⟨rfl,rfl⟩
  refine BrW.dec (fun d4=>?_) (fun d4=>?_)
  ·rw[if_pos d4] at hD
   have hn:n=23∨n=24∨n=25∨n=26∨n=27:=by omega
   rcases hn with rfl|rfl|rfl|rfl|rfl<;>(simp -dsimp (disch:=first|omega|(simp only[go_sem,seval];try omega))only[go_sem,seval,hp,hq,Gq];exact done c.fg c.bg _ _ (.inr rfl) hD)
  rw[if_neg d4] at hD
  refine Join1.cut (fun v w'=>v=.bool (decide (30≤n∧n≤37))∧w3=w') ?_ ?_
  ·simp -dsimp (disch:=first|omega|(simp only[go_sem,seval];try omega))only[go_sem,seval]
   refine BrW.dec (fun g1=>?_) (fun g1=>?_)
   ·simp -dsimp (disch:=first|omega|(simp only[go_sem,seval];try omega))only[go_sem,seval]
    exact congrArg Value.bool (decide_eq_decide.2 (by omega))
   ·exact⟨congrArg Value.bool (decide_eq_false (by omega)).symm,rfl⟩
  rintro v w4 ⟨rfl,rfl⟩
  refine BrW.dec (fun d5=>?_) (fun d5=>?_)
  ·rw[if_pos d5] at hD
   simp -dsimp (disch:=first|omega|(simp only[go_sem,seval];try omega))only[go_sem,seval]
   refine OpX.call Ff rfl (Calls.ret (EF _ (n-30)) ?_)
   rintro v w4 ⟨rfl,rfl⟩
   simp -dsimp (disch:=first|omega|(simp only[go_sem,seval];try omega))only[go_sem,seval,hp]
   exact done (hue (n-30)) c.bg c.a _ (.inl rfl) hD
  rw[if_neg d5] at hD
  simp -dsimp (disch:=first|omega|(simp only[go_sem,seval];try omega))only[go_sem,seval]
  refine BrW.dec (fun d6=>?_) (fun d6=>?_)
  ·rw[if_pos d6] at hD
   simp -dsimp (disch:=first|omega|(simp only[go_sem,seval];try omega))only[go_sem,seval,hp]
   exact done 0 c.bg c.a _ (.inl rfl) hD
  rw[if_neg d6] at hD
  refine Join1.cut (fun v w'=>v=.bool (decide (40≤n∧n≤47))∧w3=w') ?_ ?_
  ·simp -dsimp (disch:=first|omega|(simp only[go_sem,seval];try omega))only[go_sem,seval]
   refine BrW.dec (fun g1=>?_) (fun g1=>?_)
   ·simp -dsimp (disch:=first|omega|(simp only[go_sem,seval];try omega))only[go_sem,seval]
    exact congrArg Value.bool (decide_eq_decide.2 (by omega))
   ·exact⟨congrArg Value.bool (decide_eq_false (by omega)).symm,rfl⟩
  rintro v w4 ⟨rfl,rfl⟩
  refine BrW.dec (fun d7=>?_) (fun d7=>?_)
  ·rw[if_pos d7] at hD
   simp -dsimp (disch:=first|omega|(simp only[go_sem,seval];try omega))only[go_sem,seval]
   refine OpX.call Ff rfl (Calls.ret (EF _ (n-40)) ?_)
   rintro v w4 ⟨rfl,rfl⟩
   simp -dsimp (disch:=first|omega|(simp only[go_sem,seval];try omega))only[go_sem,seval,hp]
   exact done c.fg (hue (n-40)) c.a _ (.inl rfl) hD
  rw[if_neg d7] at hD
  simp -dsimp (disch:=first|omega|(simp only[go_sem,seval];try omega))only[go_sem,seval]
  refine BrW.dec (fun d8=>?_) (fun d8=>?_)
  ·rw[if_pos d8] at hD
   simp -dsimp (disch:=first|omega|(simp only[go_sem,seval];try omega))only[go_sem,seval,hp]
   exact done c.fg 0 c.a _ (.inl rfl) hD
  rw[if_neg d8] at hD
  refine Join1.cut (fun v w'=>v=.bool (decide (90≤n∧n≤97))∧w3=w') ?_ ?_
  ·simp -dsimp (disch:=first|omega|(simp only[go_sem,seval];try omega))only[go_sem,seval]
   refine BrW.dec (fun g1=>?_) (fun g1=>?_)
   ·simp -dsimp (disch:=first|omega|(simp only[go_sem,seval];try omega))only[go_sem,seval]
    exact congrArg Value.bool (decide_eq_decide.2 (by omega))
   ·exact⟨congrArg Value.bool (decide_eq_false (by omega)).symm,rfl⟩
  rintro v w4 ⟨rfl,rfl⟩
  refine BrW.dec (fun d9=>?_) (fun d9=>?_)
  ·rw[if_pos d9] at hD
   simp -dsimp (disch:=first|omega|(simp only[go_sem,seval];try omega))only[go_sem,seval]
   refine OpX.call Ff rfl (Calls.ret (EF _ (n-82)) ?_)
   rintro v w4 ⟨rfl,rfl⟩
   simp -dsimp (disch:=first|omega|(simp only[go_sem,seval];try omega))only[go_sem,seval,hp]
   exact done (hue (n-82)) c.bg c.a _ (.inl rfl) hD
  rw[if_neg d9] at hD
  refine Join1.cut (fun v w'=>v=.bool (decide (100≤n∧n≤107))∧w3=w') ?_ ?_
  ·simp -dsimp (disch:=first|omega|(simp only[go_sem,seval];try omega))only[go_sem,seval]
   refine BrW.dec (fun g1=>?_) (fun g1=>?_)
   ·simp -dsimp (disch:=first|omega|(simp only[go_sem,seval];try omega))only[go_sem,seval]
    exact congrArg Value.bool (decide_eq_decide.2 (by omega))
   ·exact⟨congrArg Value.bool (decide_eq_false (by omega)).symm,rfl⟩
  rintro v w4 ⟨rfl,rfl⟩
  refine BrW.dec (fun d10=>?_) (fun d10=>?_)
  ·rw[if_pos d10] at hD
   simp -dsimp (disch:=first|omega|(simp only[go_sem,seval];try omega))only[go_sem,seval]
   refine OpX.call Ff rfl (Calls.ret (EF _ (n-92)) ?_)
   rintro v w4 ⟨rfl,rfl⟩
   simp -dsimp (disch:=first|omega|(simp only[go_sem,seval];try omega))only[go_sem,seval,hp]
   exact done c.fg (hue (n-92)) c.a _ (.inl rfl) hD
  rw[if_neg d10] at hD
  subst hD
  exact⟨hc3,hp,ho⟩
 ·rintro w4 ⟨hc4,hp4,ho4⟩
  have hl4:=Aa ho4
  simp -dsimp (disch:=first|omega|(simp only[go_sem,seval];try omega))only[go_sem,seval,hp4,ho4]
  exact hK _ _ ⟨rfl,hc4.set _ _ (.inr (by omega))⟩
theorem UJ {l:List Int} {x:Int} (h:x∈(AV l).2):x∈l:=by
 unfold AV at h
 split at h
 ·exact List.mem_cons_of_mem _ (List.mem_cons_of_mem _ h)
 ·exact List.mem_cons_of_mem _ (List.mem_cons_of_mem _ (List.mem_cons_of_mem _ (List.mem_cons_of_mem _ h)))
 ·simp at h
theorem QV {a:Act'} (hf:a.fits):∀x∈a.left,Bu x:=by
 intro x hx
 unfold Act'.left at hx
 dsimp only at hx
 split at hx
 ·simp at hx;subst hx;unfold Bu;omega
 ·exact hf.nums x (List.mem_of_mem_take hx)
def Ob (w:World) (b b5:Nat) (R:Cel) (l:List Int) (c:Cel) (w':World):Prop :=
 Chg [] w w'∧w'.heap[b]?=some (.cells c.cells.toArray 167)∧w'.heap[b+2]?=some (.cells #[.int .i32 0,.int .u8 0,.int .u8 0,.int .u8 0] 167)∧BV w' b5 l∧(∀x∈l,Bu x)∧∃k,l.length≤k∧CT k l c=R
theorem Zm (k:Nat) (c:Cel):CT k [] c=c:=by cases k<;>rfl
theorem SF (w:World) (c:Cel) (a:Act') (hf:a.fits):Calls Tryz.prog 213 #[c.val,a.val] w (Ac fun v w'=>v=(Fz c a).val∧Chg [] w w'):=by
 apply PW
 intro K hK
 unfold NI
 simp -dsimp (disch:=first|omega|(simp only[go_sem,seval];try omega))only[go_sem,seval]
 have hz:(w.alloc (.cells #[.int .i32 c.r,.int .u8 c.fg.toNat,.int .u8 c.bg.toNat,.int .u8 c.a.toNat] 167)).heap.size=w.heap.size+1:=by simp -dsimp (disch:=first|omega|(simp only[go_sem,seval];try omega))only[go_sem,seval]
 have hz2:((w.alloc (.cells #[.int .i32 c.r,.int .u8 c.fg.toNat,.int .u8 c.bg.toNat,.int .u8 c.a.toNat] 167)).alloc (.cells a.cells.toArray 247)).heap.size=w.heap.size+2:=by simp -dsimp (disch:=first|omega|(simp only[go_sem,seval];try omega))only[go_sem,seval]
 simp only[Act'.cells] at hz2
 rw[hz2,hz]
 obtain⟨w1,hw1⟩:∃w1,w1=(((w.alloc (.cells c.cells.toArray 167)).alloc (.cells a.cells.toArray 247)).alloc (.cells #[.int .i32 0,.int .u8 0,.int .u8 0,.int .u8 0] 167)):=⟨_,rfl⟩
 have hc1:Chg [] w w1:=by rw[hw1];exact Fm _ _ _ _
 have hp1:w1.heap[w.heap.size]?=some (.cells c.cells.toArray 167):=by rw[hw1];simp -dsimp (disch:=first|omega|(simp only[go_sem,seval];try omega))only[go_sem,seval]
 have ha1:w1.heap[w.heap.size+1]?=some (.cells a.cells.toArray 247):=by rw[hw1];simp -dsimp (disch:=first|omega|(simp only[go_sem,seval];try omega))only[go_sem,seval]
 have ho1:w1.heap[w.heap.size+2]?=some (.cells #[.int .i32 0,.int .u8 0,.int .u8 0,.int .u8 0] 167):=by rw[hw1];simp -dsimp (disch:=first|omega|(simp only[go_sem,seval];try omega))only[go_sem,seval]
 have hl1:=Aa ho1
 simp only[Act'.cells,Cel.cells] at hw1
 rw[←hw1]
 clear hw1 hz hz2
 refine Join1.cut (fun v w'=>v=.bool (decide (a.kind≠4∨a.r≠109∨a.priv≠0∨a.mid≠0))∧w1=w') ?_ ?_
 ·simp -dsimp (disch:=first|omega|(simp only[go_sem,seval];try omega))only[go_sem,seval,ha1]
  refine BrW.dec (fun g1=>?_) (fun g1=>?_)
  ·exact⟨congrArg Value.bool (decide_eq_true (.inl g1)).symm,rfl⟩
  simp -dsimp (disch:=first|omega|(simp only[go_sem,seval];try omega))only[go_sem,seval,ha1]
  refine BrW.dec (fun g2=>?_) (fun g2=>?_)
  ·exact⟨congrArg Value.bool (decide_eq_true (.inr (.inl g2))).symm,rfl⟩
  simp -dsimp (disch:=first|omega|(simp only[go_sem,seval];try omega))only[go_sem,seval,ha1]
  refine BrW.dec (fun g3=>?_) (fun g3=>?_)
  ·exact⟨congrArg Value.bool (decide_eq_true (.inr (.inr (.inl g3)))).symm,rfl⟩
  simp -dsimp (disch:=first|omega|(simp only[go_sem,seval];try omega))only[go_sem,seval,ha1]
  refine congrArg Value.bool (decide_eq_decide.2 ⟨fun h=>.inr (.inr (.inr h)),fun h=>?_⟩)
  rcases h with h|h|h|h
  ·exact absurd h g1
  ·exact absurd h g2
  ·exact absurd h g3
  ·exact h
 rintro v w2 ⟨rfl,rfl⟩
 unfold Fz at hK
 refine BrW.dec (fun d1=>?_) (fun d1=>?_)
 ·rw[if_pos d1] at hK
  simp -dsimp (disch:=first|omega|(simp only[go_sem,seval];try omega))only[go_sem,seval,hp1,ho1]
  exact hK _ _ ⟨rfl,hc1.set _ _ (.inr (by omega))⟩
 rw[if_neg d1] at hK
 obtain⟨R,hR⟩:∃R,R=CT 9 a.left c:=⟨_,rfl⟩
 rw[←hR] at hK
 simp -dsimp (disch:=first|omega|(simp only[go_sem,seval];try omega))only[go_sem,seval,ha1]
 refine Join0.cut (fun w'=>Ob w w.heap.size w1.heap.size R a.left c w') ?_ ?_
 ·obtain⟨n,hn⟩:∃n,n=(min (max a.n 0) 8).toNat:=⟨_,rfl⟩
  have hn8:n≤8:=by omega
  rw[←hn]
  obtain⟨w2,hw2⟩:∃w2,w2=w1.alloc (.cells #[.slice (some ⟨w.heap.size+1,5,none⟩) n 8] 40):=⟨_,rfl⟩
  have hc2:Chg [] w1 w2:=by rw[hw2];exact AB _ _
  have h52:w2.heap[w1.heap.size]?=some (.cells #[.slice (some ⟨w.heap.size+1,5,none⟩) n 8] 40):=by rw[hw2];simp -dsimp (disch:=first|omega|(simp only[go_sem,seval];try omega))only[go_sem,seval]
  have hl52:=Aa h52
  have ha2:=hc2.keep ha1 (by simp)
  have hsx:Sx w2 (some 247) fI (some ⟨w.heap.size+1,5,none⟩) (a.nums.take n):=by
   have h0:Sx w2 (some 247) fI (some ⟨w.heap.size+1,5,none⟩) a.nums:=⟨fun _=>⟨w.heap.size+1,5,_,_,_,a.cells.take 5,[],rfl,ha2,by simp [BR],rfl,rfl⟩⟩
   have:=h0.sub (m:=1) (fun _=>rfl) 0 n (some ⟨w.heap.size+1,5,none⟩) (.inr (.inr rfl))
   simpa using this
  have hlen:(a.nums.take n).length=n:=by rw[List.length_take,show a.nums.length=8 from rfl];omega
  rw[←hw2]
  have hp2:=hc2.keep hp1 (by simp)
  have ho2:=hc2.keep ho1 (by simp)
  clear hw2
  simp -dsimp (disch:=first|omega|(simp only[go_sem,seval];try omega))only[go_sem,seval,h52]
  refine BrW.dec (fun d2=>?_) (fun d2=>?_)
  ·have hleft:a.left=[0]:=by
    unfold Act'.left
    dsimp only
    rw[←hn,if_pos (List.eq_nil_of_length_eq_zero (by omega))]
   simp -dsimp (disch:=first|omega|(simp only[go_sem,seval];try omega))only[go_sem,seval,h52]
   rw[hleft] at hR ⊢
   refine⟨?_,?_,?_,⟨w2.heap.size,0,1,?_,by simp,by simp,Nat.ne_of_gt hl52,3,.inr rfl,?_⟩,by simp [Bu],9,by simp,hR.symm⟩
   ·exact((hc1.trans0 hc2).set w1.heap.size _ (.inr (by omega))).alloc _
   ·simp -dsimp (disch:=first|omega|(simp only[go_sem,seval];try omega))only[go_sem,seval,hp2]
   ·simp -dsimp (disch:=first|omega|(simp only[go_sem,seval];try omega))only[go_sem,seval,ho2]
   ·simp -dsimp (disch:=first|omega|(simp only[go_sem,seval];try omega))only[go_sem,seval]
   ·refine Sx.built (c:=[.int .i64 0]) ?_ rfl
    simp -dsimp (disch:=first|omega|(simp only[go_sem,seval];try omega))only[go_sem,seval]
  ·have hleft:a.left=a.nums.take n:=by
    unfold Act'.left
    dsimp only
    rw[←hn,if_neg (fun h=>d2 (by rw[h] at hlen;simp at hlen;omega))]
   refine⟨hc1.trans0 hc2,hp2,ho2,⟨w.heap.size+1,5,8,?_,?_,?_,by omega,247,.inl rfl,?_⟩,QV hf,9,?_,hR.symm⟩
   ·rw[hleft,hlen];exact h52
   ·rw[hleft,hlen];exact hn8
   ·rw[hleft,hlen];exact hn8
   ·rw[hleft];exact hsx
   ·rw[hleft,hlen];omega
 ·intro w2 hI
  simp -dsimp (disch:=first|omega|(simp only[go_sem,seval];try omega))only[go_sem,seval]
  refine Loop0.st (fun(st:List Int × Cel) w'=>Ob w w.heap.size w1.heap.size R st.1 st.2 w') (fun st=>st.1.length) (a.left,c) hI ?_
  clear hI hp1 ha1 ho1 w2
  rintro next ⟨l,c2⟩ w2 hn ⟨hc2,hp2,ho2,hL,hi,k,hk,hR⟩
  dsimp only at hp2 hL hi hk hR
  have hl2:=Aa ho2
  have hL':=hL
  obtain⟨g,o,cap,q1,q2,q3,q4,-⟩:=hL'
  have hl3:=Aa q1
  simp -dsimp (disch:=first|omega|(simp only[go_sem,seval];try omega))only[go_sem,seval,q1]
  refine BrW.dec (fun d2=>?_) (fun d2=>?_)
  ·rcases l with _|⟨n,l⟩
   ·simp at d2
   obtain⟨k,rfl⟩:∃k',k=k'+1:=⟨k-1,by simp at hk;omega⟩
   refine OpX.callV (us:=[]) (cs:=[_]) EI rfl (Calls.ret (E5 hL 1 (by omega)) ?_)
   rintro v w3 ⟨⟨g3,o3,cap3,rfl,hg3,hs3⟩,hL3,hc3⟩
   have e1:(n::l).take 1=[n]:=rfl
   have e2:(n::l).drop 1=l:=rfl
   rw[e1] at hs3 ⊢
   rw[e2] at hL3
   have hcell:=C9 hs3 (i:=0) rfl
   simp only[Nat.add_zero] at hcell
   have hc4:Chg [] w w3:=hc2.trans hc3 (by simp;omega)
   have hp3:=hc3.keep hp2 (by simp;omega)
   have ho3:=hc3.keep ho2 (by simp;omega)
   have hl4:=Aa ho3
   simp -dsimp (disch:=first|omega|(simp only[go_sem,seval];try omega))only[go_sem,seval,hcell]
   refine Join1.cut (fun v w'=>v=.bool (decide (n=38∨n=48))∧w3=w') ?_ ?_
   ·simp -dsimp (disch:=first|omega|(simp only[go_sem,seval];try omega))only[go_sem,seval]
    refine BrW.dec (fun g1=>?_) (fun g1=>?_)
    ·exact⟨congrArg Value.bool (decide_eq_true (.inl g1)).symm,rfl⟩
    ·simp -dsimp (disch:=first|omega|(simp only[go_sem,seval];try omega))only[go_sem,seval]
     simp [g1]
   rintro v w4 ⟨rfl,rfl⟩
   unfold CT at hR
   refine BrW.dec (fun d3=>?_) (fun d3=>?_)
   ·refine OpX.call YI rfl (Calls.ret (Wm hL3) ?_)
    rintro v w4 ⟨rfl,hL4,hc5⟩
    have hc6:Chg [] w w4:=hc4.trans hc5 (by simp;omega)
    have hp4:=hc5.keep hp3 (by simp;omega)
    have ho4:=hc5.keep ho3 (by simp;omega)
    have hl5:=Aa ho4
    have hi':∀x∈(AV l).2,Bu x:=fun x hx=>hi x (List.mem_cons_of_mem _ (UJ hx))
    have hlen:=XM l
    have hlk:(AV l).2.length≤k:=by simp at hk;omega
    have hlt:(AV l).2.length<(n::l).length:=by simp;omega
    have hlt4:w.heap.size<w4.heap.size:=by omega
    obtain⟨q,hq⟩:∃q,q=(AV l).1:=⟨_,rfl⟩
    rw[←hq] at hR ⊢
    have nx:∀(f b:BitVec 8) (w5:World),w5=Ab w4 w.heap.size (.cells #[.int .i32 c2.r,.int .u8 f.toNat,.int .u8 b.toNat,.int .u8 c2.a.toNat] 167)→CT k (AV l).2 ⟨c2.r,f,b,c2.a⟩=R→next w5:=by
     intro f b w5 h5 e
     subst h5
     refine hn ((AV l).2,⟨c2.r,f,b,c2.a⟩) _ ⟨hc6.set _ _ (.inr (Nat.le_refl _)),?_,?_,?_,hi',k,hlk,e⟩ hlt
     ·simp -dsimp (disch:=first|omega|(simp only[go_sem,seval];try omega))only[go_sem,seval]
     ·simp -dsimp (disch:=first|omega|(simp only[go_sem,seval];try omega))only[go_sem,seval,ho4]
     ·exact hL4.low ((Chg.refl [w.heap.size] w4).set _ _ (by simp)) (by omega) hp4
    simp -dsimp (disch:=first|omega|(simp only[go_sem,seval];try omega))only[go_sem,seval]
    rcases q with _|x
    ·refine Join1.cut (fun v w'=>v=.bool false∧w4=w') ?_ ?_
     ·exact BrW.by (fun h=>by simp at h) (fun _=>⟨rfl,rfl⟩)
     rintro v w5 ⟨rfl,rfl⟩
     simp -dsimp (disch:=first|omega|(simp only[go_sem,seval];try omega))only[go_sem,seval]
     refine hn ((AV l).2,c2) _ ⟨hc6,hp4,ho4,hL4,hi',k,hlk,?_⟩ hlt
     rw[←hR]
     split
     ·rfl
     ·split
      ·rfl
      ·omega
    ·refine Join1.cut (fun v w'=>v=.bool (decide (n=38))∧w4=w') ?_ ?_
     ·refine BrW.by (fun _=>?_) (fun h=>by simp at h)
      simp -dsimp (disch:=first|omega|(simp only[go_sem,seval];try omega))only[go_sem,seval]
     rintro v w5 ⟨rfl,rfl⟩
     refine BrW.dec (fun g1=>?_) (fun g1=>?_)
     ·rw[if_pos g1] at hR
      simp -dsimp (disch:=first|omega|(simp only[go_sem,seval];try omega))only[go_sem,seval,hp4]
      exact nx x c2.bg _ rfl hR
     ·rw[if_neg g1,if_pos (by omega)] at hR
      refine BrW.by (fun _=>?_) (fun h=>by simp at h)
      simp -dsimp (disch:=first|omega|(simp only[go_sem,seval];try omega))only[go_sem,seval,hp4]
      exact nx c2.fg x _ rfl hR
   ·rw[if_neg (by omega),if_neg (by omega)] at hR
    simp -dsimp (disch:=first|omega|(simp only[go_sem,seval];try omega))only[go_sem,seval,hp3]
    refine OpX.call PR rfl (Calls.ret (Rj _ c2 n (hi n (by simp))) ?_)
    rintro v w4 ⟨rfl,hc5⟩
    have hp4:=hc5.keep hp3 (by simp)
    have ho4:=hc5.keep ho3 (by simp)
    have hl5:=Aa ho4
    have hc6:=hc4.trans0 hc5
    simp -dsimp (disch:=first|omega|(simp only[go_sem,seval];try omega))only[go_sem,seval,hp4]
    refine hn (l,EZ c2 n) _ ⟨hc6.set _ _ (.inr (Nat.le_refl _)),?_,?_,?_,fun x hx=>hi x (List.mem_cons_of_mem _ hx),k,by simp at hk;exact hk,hR⟩ (by simp)
    ·simp -dsimp (disch:=first|omega|(simp only[go_sem,seval];try omega))only[go_sem,seval]
    ·simp -dsimp (disch:=first|omega|(simp only[go_sem,seval];try omega))only[go_sem,seval,ho4]
    ·exact(hL3.chg0 hc5).low ((Chg.refl [w.heap.size] w4).set _ _ (by simp)) (by omega) hp4
  ·have hl0:l=[]:=by cases l with|nil=>rfl|cons x l=>simp at d2
   subst hl0
   rw[Zm] at hR
   simp -dsimp (disch:=first|omega|(simp only[go_sem,seval];try omega))only[go_sem,seval,hp2,ho2]
   exact hK _ _ ⟨by rw[hR];rfl,hc2.set _ _ (.inr (by omega))⟩
theorem Scm.wTabs (M:Scm) (h:M.S.tabs.length=200):Ay (some M.obj) 29 (List.replicate 200 (.bool false))=some ({ M with S:={ M.S with tabs:=List.replicate 200 false } }:Scm).obj:=by
 refine M.put _ 29 _ h (by rw[List.length_replicate];omega) ?_
 have e1:M.cells=M.cells.take 29++(M.S.tabs.map Value.bool++[.bool M.S.wraps,.bool M.S.waits,.bool M.S.shown,M.gv]):=rfl
 have e2:M.cells.drop (29+(List.replicate 200 (Value.bool false)).length)=[.bool M.S.wraps,.bool M.S.waits,.bool M.S.shown,M.gv]:=by
  rw[List.length_replicate,e1,←List.append_assoc]
  exact List.drop_left' (by rw[List.length_append,List.length_map,h];rfl)
 rw[e2]
 unfold Scm.cells Scm.end
 dsimp only
 rw[List.map_replicate]
 rfl
section
attribute [-go_sem] Ft Fk
theorem QU {w:World} {s:Nat} {M:Scm} (h:SAt w s M) (ok:M.S.ok) (a:Act') (hf:a.fits):Calls Tryz.prog 187 #[.pointer (some ⟨s,0,none⟩),a.val] w
  (Ac fun v w'=>v=.bool (M.S.set a).isSome∧Did w s M w' ((M.S.set a).getD M.S)):=by
 have hls:=Aa h.hb
 have tl:=h.tl
 have w1b:=ok.w1
 have nx:=ok.nx
 apply WM
 intro K hK
 unfold KB
 simp -dsimp (disch:=first|omega|(simp only[go_sem,seval];try omega))only[go_sem,seval]
 obtain⟨w1,hw1⟩:∃w1,w1=w.alloc (.cells a.cells.toArray 247):=⟨_,rfl⟩
 have hc1:Chg [] w w1:=by rw[hw1];exact AB _ _
 have ha1:w1.heap[w.heap.size]?=some (.cells a.cells.toArray 247):=by rw[hw1];simp -dsimp (disch:=first|omega|(simp only[go_sem,seval];try omega))only[go_sem,seval]
 simp only[Act'.cells] at hw1
 rw[←hw1]
 clear hw1
 have hla:=Aa ha1
 have hA:=h.chg0 hc1
 have hb:=hA.hb
 have base:∀w' T,Did w1 s M w' T→Did w s M w' T:=fun w' T hd=>Did.trans (M1:=M) (hc1.mono (by simp)) (fun b hb=>.inl hb) hd
 refine Join0.cut (fun w'=>∃T,Did w s M w' T∧M.S.set a=some T) ?_ ?_
 ·simp -dsimp (disch:=first|omega|(simp only[go_sem,seval];try omega))only[go_sem,seval,ha1]
  refine BrW.dec (fun c1=>?_) (fun c1=>?_)
  ·simp -dsimp (disch:=first|omega|(simp only[go_sem,seval];try omega))only[go_sem,seval,ha1,hb]
   refine OpX.call We rfl (Calls.ret (SF _ M.S.now.pen a hf) ?_)
   rintro v w2 ⟨rfl,hc2⟩
   have hc3:Chg [] w1 w2:=(Chg.refl _ _).drew.trans0 hc2
   have hA2:=hA.chg0 hc3
   have hb2:=hA2.hb
   have hl2:=Aa hb2
   simp -dsimp (disch:=first|omega|(simp only[go_sem,seval];try omega))only[go_sem,seval,hb2]
   refine⟨_,base _ _ (Did.set hA2 (hc3.mono (by simp)) (fun b hb=>.inl hb) { M.S with now:={ M.S.now with pen:=Fz M.S.now.pen a } } rfl rfl tl rfl),?_⟩
   unfold Scr.set
   rw[if_pos c1]
  simp -dsimp (disch:=first|omega|(simp only[go_sem,seval];try omega))only[go_sem,seval,ha1]
  refine BrW.dec (fun c2=>?_) (fun c2=>?_)
  ·simp -dsimp (disch:=first|omega|(simp only[go_sem,seval];try omega))only[go_sem,seval,ha1]
   refine OpX.call DG rfl (Calls.ret (Dx _ a 0 0) ?_)
   rintro v w2 ⟨rfl,hc2⟩
   have hA2:=hA.chg0 hc2
   have hb2:=hA2.hb
   have hl2:=Aa hb2
   have e:M.S.set a=some (if a.num 0 0=0 then { M.S with tabs:=M.S.tabs.set M.S.now.x false } else if a.num 0 0=3 then { M.S with tabs:=List.replicate 200 false } else M.S):=by
    unfold Scr.set
    rw[if_neg c1,if_pos c2]
   simp -dsimp (disch:=first|omega|(simp only[go_sem,seval];try omega))only[go_sem,seval]
   refine BrW.dec (fun d1=>?_) (fun d1=>?_)
   ·rw[if_pos d1] at e
    simp -dsimp (disch:=first|omega|(simp only[go_sem,seval];try omega))only[go_sem,seval,hb2]
    exact⟨_,base _ _ (Did.set (hA2.chg0 (Chg.refl _ _).drew) (hc2.mono (by simp)).drew (fun b hb=>.inl hb) { M.S with tabs:=M.S.tabs.set M.S.now.x false } rfl rfl (by rw[List.length_set];exact tl) rfl),e⟩
   rw[if_neg d1] at e
   simp -dsimp (disch:=first|omega|(simp only[go_sem,seval];try omega))only[go_sem,seval]
   refine BrW.dec (fun d2=>?_) (fun d2=>?_)
   ·rw[if_pos d2] at e
    refine OpX.build (c:=(List.replicate 200 (.bool false)).toArray) (by kernel_rfl) ?_
    obtain⟨z,hz⟩:∃z,z=(List.replicate 200 (Value.bool false)).toArray:=⟨_,rfl⟩
    rw[←hz]
    simp -dsimp (disch:=first|omega|(simp only[go_sem,seval];try omega))only[go_sem,seval]
    rw[Es _ _ _ _ _ _ _ (by rw[hz];kernel_rfl) (by rw[hz];kernel_rfl)]
    have hp:Ay w2.heap[s]? 29 (Value.agg z).cells.toList=some ({ M with S:={ M.S with tabs:=List.replicate 200 false } }:Scm).obj:=by
     rw[hz,hb2]
     exact M.wTabs tl
    rw[hp,DV]
    exact⟨_,base _ _ (Did.set hA2 (hc2.mono (by simp)) (fun b hb=>.inl hb) { M.S with tabs:=List.replicate 200 false } rfl rfl (by rw[List.length_replicate]) rfl),e⟩
   ·rw[if_neg d2] at e
    exact⟨_,base _ _ (Did.trans (M1:=M) (hc2.mono (by simp)) (fun b hb=>.inl hb) (Did.refl hA2)),e⟩
  simp -dsimp (disch:=first|omega|(simp only[go_sem,seval];try omega))only[go_sem,seval]
  refine BrW.dec (fun c3=>?_) (fun c3=>?_)
  ·simp -dsimp (disch:=first|omega|(simp only[go_sem,seval];try omega))only[go_sem,seval]
   refine OpX.call IM rfl (Calls.ret (HY hA) ?_)
   rintro v w2 hd
   refine⟨_,base _ _ hd,?_⟩
   unfold Scr.set
   rw[if_neg c1,if_neg c2,if_pos c3]
  have e:M.S.set a=none:=by
   unfold Scr.set
   rw[if_neg c1,if_neg c2,if_neg c3]
  rw[e] at hK
  exact hK _ _ ⟨rfl,base _ _ (Did.refl hA)⟩
 ·rintro w2 ⟨T,hd,e⟩
  rw[e] at hK
  exact hK _ _ ⟨rfl,hd⟩
end
theorem SO (S:Scr) (l:List Int) (x:Int) (on:Bool):S.modes (l++[x]) on=(S.modes l on).mode x on:=by unfold Scr.modes;rw[List.foldl_append];rfl
theorem Pk {w:World} {b:Nat} {a:Act'} (h:w.heap[b]?=some (.cells a.cells.toArray 247)):Sx w none fI (some ⟨b,5,none⟩) a.nums:=⟨fun _=>⟨b,5,_,_,_,a.cells.take 5,[],rfl,h,by simp [BR],rfl,rfl⟩⟩
theorem Qd {w:World} {s:Nat} {M:Scm} (h:SAt w s M) (ok:M.S.ok) (a:Act') (hf:a.fits):Calls Tryz.prog 138 #[.pointer (some ⟨s,0,none⟩),a.val] w
  (Ac fun _ w'=>Did w s M w' (M.S.csi a)):=by
 have hls:=Aa h.hb
 have hlt:=h.lt
 have tl:=h.tl
 apply X3
 intro K hK
 unfold Ma
 simp -dsimp (disch:=first|omega|(simp only[go_sem,seval];try omega))only[go_sem,seval]
 obtain⟨w1,hw1⟩:∃w1,w1=w.alloc (.cells a.cells.toArray 247):=⟨_,rfl⟩
 have hc1:Chg [] w w1:=by rw[hw1];exact AB _ _
 have ha1:w1.heap[w.heap.size]?=some (.cells a.cells.toArray 247):=by rw[hw1];simp -dsimp (disch:=first|omega|(simp only[go_sem,seval];try omega))only[go_sem,seval]
 simp only[Act'.cells] at hw1
 rw[←hw1]
 clear hw1
 have hla:=Aa ha1
 have hA:=h.chg0 hc1
 have hoa:w.heap.size∉s::M.blk:=fun hm=>by have:=hlt _ hm;omega
 have base:∀w' T,Did w1 s M w' T→Did w s M w' T:=fun w' T hd=>Did.trans (M1:=M) (hc1.mono (by simp)) (fun b hb=>.inl hb) hd
 obtain⟨C,hC⟩:∃C,C=M.S.csi a:=⟨_,rfl⟩
 rw[←hC] at hK
 unfold Scr.csi at hC
 refine Join1.cut (fun v w'=>v=.bool (decide (a.priv=63∧a.mid=0∧(a.r=104∨a.r=108)))∧w1=w') ?_ ?_
 ·simp -dsimp (disch:=first|omega|(simp only[go_sem,seval];try omega))only[go_sem,seval,ha1]
  refine BrW.dec (fun g1=>?_) (fun g1=>?_)
  ·simp -dsimp (disch:=first|omega|(simp only[go_sem,seval];try omega))only[go_sem,seval,ha1]
   refine BrW.dec (fun g2=>?_) (fun g2=>?_)
   ·simp -dsimp (disch:=first|omega|(simp only[go_sem,seval];try omega))only[go_sem,seval,ha1]
    refine BrW.dec (fun g3=>?_) (fun g3=>?_)
    ·exact⟨congrArg Value.bool (decide_eq_true ⟨g1,g2,.inl g3⟩).symm,rfl⟩
    ·simp -dsimp (disch:=first|omega|(simp only[go_sem,seval];try omega))only[go_sem,seval,ha1]
     exact congrArg Value.bool (decide_eq_decide.2 ⟨fun h=>⟨g1,g2,.inr h⟩,fun h=>h.2.2.resolve_left g3⟩)
   ·exact⟨congrArg Value.bool (decide_eq_false (fun h=>g2 h.2.1)).symm,rfl⟩
  ·exact⟨congrArg Value.bool (decide_eq_false (fun h=>g1 h.1)).symm,rfl⟩
 rintro v w2 ⟨rfl,rfl⟩
 refine BrW.dec (fun d1=>?_) (fun d1=>?_)
 ·rw[if_pos d1] at hC
  obtain⟨n,hn⟩:∃n,n=(min (max a.n 0) 8).toNat:=⟨_,rfl⟩
  have hn8:n≤8:=by omega
  rw[←hn] at hC
  simp -dsimp (disch:=first|omega|(simp only[go_sem,seval];try omega))only[go_sem,seval,ha1]
  rw[←hn]
  refine Loop1.st (fun i:Nat=>.int .i64 (i:Int)) (fun i w'=>i≤n∧Did w1 s M w' (M.S.modes (a.nums.take i) (decide (a.r=104)))) (fun i=>n-i) 0 rfl ⟨by omega,Did.refl hA⟩ ?_
  rintro next i w2 hnx ⟨hi,hd⟩
  have ha2:=hd.keep ha1 hoa
  have hl2:=Aa ha2
  simp -dsimp (disch:=first|omega|(simp only[go_sem,seval];try omega))only[go_sem,seval]
  refine BrW.dec (fun d2=>?_) (fun d2=>?_)
  ·have hi8:i<a.nums.length:=by rw[show a.nums.length=8 from rfl];omega
   have hcell:=C9 (Pk ha2) (i:=i) (List.getElem?_eq_getElem hi8)
   have hx:=hf.nums _ (List.getElem_mem hi8)
   obtain⟨M2,hA2,hS2,hc2,hbl2⟩:=hd
   have ok2:M2.S.ok:=by rw[hS2];exact ok.modes.ok
   simp -dsimp (disch:=first|omega|(simp only[go_sem,seval];try omega))only[go_sem,seval,hcell]
   simp -dsimp (disch:=first|omega|(simp only[go_sem,seval];try omega))only[go_sem,seval,ha2]
   refine OpX.call Va rfl (Calls.ret (RO hA2 ok2 (a.nums[i]) (decide (a.r=104))) ?_)
   rintro v w3 hd3
   have e1:(i:Int)+1=((i+1:Nat):Int):=by omega
   simp -dsimp (disch:=first|omega|(simp only[go_sem,seval];try omega))only[go_sem,seval,e1]
   refine hnx (i+1) _ ⟨by omega,?_⟩ (by omega)
   rw[CC hi8,SO,←hS2]
   exact Did.trans hc2 hbl2 hd3
  ·have:i=n:=by omega
   subst this
   exact hK _ _ (base _ _ (by rw[hC];exact hd))
 rw[if_neg d1] at hC
 refine Join1.cut (fun v w'=>v=.bool (decide (a.priv≠0∨a.mid≠0))∧w1=w') ?_ ?_
 ·simp -dsimp (disch:=first|omega|(simp only[go_sem,seval];try omega))only[go_sem,seval,ha1]
  refine BrW.dec (fun g1=>?_) (fun g1=>?_)
  ·exact⟨congrArg Value.bool (decide_eq_true (.inl g1)).symm,rfl⟩
  ·simp -dsimp (disch:=first|omega|(simp only[go_sem,seval];try omega))only[go_sem,seval,ha1]
   refine congrArg Value.bool (decide_eq_decide.2 ⟨fun h=>.inr h,fun h=>?_⟩)
   rcases h with h|h
   ·exact absurd h g1
   ·exact h
 rintro v w2 ⟨rfl,rfl⟩
 refine BrW.dec (fun d2=>?_) (fun d2=>?_)
 ·rw[if_pos d2] at hC
  exact hK _ _ (base _ _ (by rw[hC];exact Did.refl hA))
 rw[if_neg d2] at hC
 simp -dsimp (disch:=first|omega|(simp only[go_sem,seval];try omega))only[go_sem,seval,ha1]
 refine OpX.call P9 rfl (Calls.ret (QU hA ok a hf) ?_)
 rintro v w2 ⟨rfl,hd2⟩
 have ha2:=hd2.keep ha1 hoa
 rcases hs:M.S.set a with _|T
 ·rw[hs] at hd2 hC
  dsimp only[Option.getD] at hd2 hC
  obtain⟨M2,hA2,hS2,hc2,hbl2⟩:=hd2
  have ok2:M2.S.ok:=by rw[hS2];exact ok
  have hz2:=hc2.size
  have hoa2:=FY hbl2 hoa hla
  rw[←hS2] at hC
  refine BrW.by (fun h=>by simp at h) (fun _=>?_)
  refine Join1.cut (fun v w'=>∃b T,v=.bool b∧Did w1 s M w' T∧C=bif b then T.calm else T) ?_ ?_
  ·simp -dsimp (disch:=first|omega|(simp only[go_sem,seval];try omega))only[go_sem,seval,ha2]
   refine OpX.call RM rfl (Calls.ret (VH hA2 ok2 a hf) ?_)
   rintro v w3 ⟨rfl,hd3⟩
   have ha3:=hd3.keep ha2 hoa2
   rcases hm:M2.S.moved a with _|T
   ·rw[hm] at hd3 hC
    dsimp only[Option.getD] at hd3 hC
    obtain⟨M3,hA3,hS3,hc3,hbl3⟩:=hd3
    have ok3:M3.S.ok:=by rw[hS3];exact ok2
    rw[←hS3] at hC
    refine BrW.by (fun h=>by simp at h) (fun _=>?_)
    simp -dsimp (disch:=first|omega|(simp only[go_sem,seval];try omega))only[go_sem,seval,ha3]
    refine OpX.call Sf rfl (Calls.ret (XR hA3 ok3 a hf) ?_)
    rintro v w4 ⟨rfl,hd4⟩
    rcases hch:M3.S.changed a with _|T
    ·rw[hch] at hd4 hC
     exact⟨false,_,rfl,Did.trans hc2 hbl2 (Did.trans hc3 hbl3 hd4),hC⟩
    ·rw[hch] at hd4 hC
     exact⟨true,_,rfl,Did.trans hc2 hbl2 (Did.trans hc3 hbl3 hd4),hC⟩
   ·rw[hm] at hd3 hC
    exact BrW.by (fun _=>⟨true,_,rfl,Did.trans hc2 hbl2 hd3,hC⟩) (fun h=>by simp at h)
  ·rintro v w3 ⟨b,T,rfl,hd3,e⟩
   cases b with
   | true =>
    obtain⟨M4,hb4,hS4,tl4,hd4⟩:=hd3.calm
    refine BrW.by (fun _=>?_) (fun h=>by simp at h)
    simp -dsimp (disch:=first|omega|(simp only[go_sem,seval];try omega))only[go_sem,seval,hb4]
    exact hK _ _ (base _ _ (by rw[e];exact hd4))
   | false=>exact BrW.by (fun h=>by simp at h) (fun _=>hK _ _ (base _ _ (by rw[e];exact hd3)))
 ·rw[hs] at hd2 hC
  exact BrW.by (fun _=>hK _ _ (base _ _ (by rw[hC];exact hd2))) (fun h=>by simp at h)
theorem Ym {w:World} {s:Nat} {M:Scm} (h:SAt w s M) (ok:M.S.ok) {e:Option TypeId} {ad:Option Addr} {l:List Act'} (hs:Sx w e Act'.cells ad l) (hfar:∀b o,ad=some ⟨b,o,none⟩→l≠[]→b∉s::M.blk) (cap:Nat) (hl:l.length≤1000000) (hf:∀a∈l,a.fits):Calls Tryz.prog 100 #[.pointer (some ⟨s,0,none⟩),.slice ad l.length cap] w
  (Ac fun _ w'=>Did w s M w' (M.S.acts l)):=by
 have w0:=ok.w0
 apply ZP
 intro K hK
 unfold Om
 refine OpX.call GA rfl (Calls.ret (GH h w0) ?_)
 rintro v w1 ⟨rfl,rfl⟩
 simp -dsimp (disch:=first|omega|(simp only[go_sem,seval];try omega))only[go_sem,seval]
 refine Loop1.st (fun i:Nat=>.int .i64 (i:Int)) (fun i w'=>i≤l.length∧Did w s M w' (M.S.acts (l.take i))) (fun i=>l.length-i) 0 rfl ⟨by omega,Did.refl h⟩ ?_
 rintro next i w2 hnx ⟨hi,hd⟩
 simp -dsimp (disch:=first|omega|(simp only[go_sem,seval];try omega))only[go_sem,seval]
 refine BrW.dec (fun d2=>?_) (fun d2=>?_)
 ·have hi8:i<l.length:=by omega
  have hne:l≠[]:=by rintro rfl;simp at hi8
  obtain⟨M2,hA2,hS2,hc2,hbl2⟩:=hd
  have ok2:M2.S.ok:=by rw[hS2];exact ok.acts.ok
  have hs2:=hs.chg hc2 hfar
  obtain⟨b,o,rfl,hlb,hag⟩:=hs2.get (m:=13) Act'.len (List.getElem?_eq_getElem hi8)
  have hfa:=hf _ (List.getElem_mem hi8)
  have e2:M.S.acts (l.take (i+1))=M2.S.act l[i]:=by rw[CC hi8,hS2];unfold Scr.acts;rw[List.foldl_append];rfl
  obtain⟨a,ha⟩:∃a,a=l[i]:=⟨_,rfl⟩
  rw[←ha] at hag hfa e2
  have e1:(i:Int)+1=((i+1:Nat):Int):=by omega
  refine Join0.cut (fun w'=>Did w2 s M2 w' (M2.S.act a)) ?_ ?_
  ·simp -dsimp (disch:=first|omega|(simp only[go_sem,seval];try omega))only[go_sem,seval,hag]
   obtain⟨w3,hw3⟩:∃w3,w3=w2.alloc (.cells a.cells.toArray 247):=⟨_,rfl⟩
   have hc3:Chg [] w2 w3:=by rw[hw3];exact AB _ _
   have ha3:w3.heap[w2.heap.size]?=some (.cells a.cells.toArray 247):=by rw[hw3];simp -dsimp (disch:=first|omega|(simp only[go_sem,seval];try omega))only[go_sem,seval]
   simp only[Act'.cells] at hw3
   rw[←hw3]
   clear hw3
   have hA3:=hA2.chg0 hc3
   have base:∀w' T,Did w3 s M2 w' T→Did w2 s M2 w' T:=fun w' T hd=>Did.trans (M1:=M2) (hc3.mono (by simp)) (fun b hb=>.inl hb) hd
   obtain⟨C,hC⟩:∃C,C=M2.S.act a:=⟨_,rfl⟩
   rw[←hC]
   unfold Scr.act at hC
   refine BrW.dec (fun c1=>?_) (fun c1=>?_)
   ·rw[if_pos c1] at hC
    simp -dsimp (disch:=first|omega|(simp only[go_sem,seval];try omega))only[go_sem,seval,ha3]
    refine OpX.call YL rfl (Calls.ret (Tt hA3 ok2 a.r) ?_)
    rintro v w4 hd
    rw[hC];exact base _ _ hd
   rw[if_neg c1] at hC
   simp -dsimp (disch:=first|omega|(simp only[go_sem,seval];try omega))only[go_sem,seval]
   refine BrW.dec (fun c2=>?_) (fun c2=>?_)
   ·rw[if_pos c2] at hC
    simp -dsimp (disch:=first|omega|(simp only[go_sem,seval];try omega))only[go_sem,seval,ha3]
    refine OpX.call Wx rfl (Calls.ret (Rk hA3 ok2 a.r) ?_)
    rintro v w4 hd
    rw[hC];exact base _ _ hd
   rw[if_neg c2] at hC
   simp -dsimp (disch:=first|omega|(simp only[go_sem,seval];try omega))only[go_sem,seval]
   refine BrW.dec (fun c3=>?_) (fun c3=>?_)
   ·rw[if_pos c3] at hC
    simp -dsimp (disch:=first|omega|(simp only[go_sem,seval];try omega))only[go_sem,seval,ha3]
    refine BrW.dec (fun c4=>?_) (fun c4=>?_)
    ·rw[if_pos c4] at hC
     simp -dsimp (disch:=first|omega|(simp only[go_sem,seval];try omega))only[go_sem,seval,ha3]
     refine OpX.call RS rfl (Calls.ret (VR hA3 ok2 a.r) ?_)
     rintro v w4 hd
     rw[hC];exact base _ _ hd
    ·rw[if_neg c4] at hC
     rw[hC];exact base _ _ (Did.refl hA3)
   rw[if_neg c3] at hC
   simp -dsimp (disch:=first|omega|(simp only[go_sem,seval];try omega))only[go_sem,seval]
   refine BrW.dec (fun c4=>?_) (fun c4=>?_)
   ·rw[if_pos c4] at hC
    simp -dsimp (disch:=first|omega|(simp only[go_sem,seval];try omega))only[go_sem,seval,ha3]
    refine OpX.call Wo rfl (Calls.ret (Qd hA3 ok2 a hfa) ?_)
    rintro v w4 hd
    rw[hC];exact base _ _ hd
   rw[if_neg c4] at hC
   rw[hC];exact base _ _ (Did.refl hA3)
  ·intro w3 hd3
   simp -dsimp (disch:=first|omega|(simp only[go_sem,seval];try omega))only[go_sem,seval,e1]
   refine hnx (i+1) _ ⟨by omega,?_⟩ (by omega)
   rw[e2]
   exact Did.trans hc2 hbl2 hd3
 ·have:i=l.length:=by omega
  subst this
  rw[List.take_length] at hd
  exact hK _ _ hd
def ew:Value:=.agg #[.int .i64 0,.int .i64 0,.slice none 0 0]
def EO (W H:Nat):List Value :=
 [(.int .i64 W:Value),.int .i64 H]++Bi++Bi++[(.int .i64 0:Value),.int .i64 0,.int .i32 0,.int .u8 0,.int .u8 0,.int .u8 0,.int .i64 0,.int .i64 0,.int .i32 0,.int .u8 0,.int .u8 0,.int .u8 0,.int .i64 0,.int .i64 0,.int .i64 0,.int .i32 0,.int .u8 0,.int .u8 0,.int .u8 0,.int .i64 0,.int .i64 0]++List.replicate 200 (.bool false)++[.bool false,.bool false,.bool false,.slice none 0 0]
section
attribute [-go_sem] Ft Fk
theorem Qr (w:World) (W H:Nat) (W0:0<W) (W1:W≤200) (H0:0<H) (H1:H≤60):Calls Tryz.prog 128 #[.int .i64 W,.int .i64 H] w
  (Ac fun v w'=>∃s M,v=.pointer (some ⟨s,0,none⟩)∧SAt w' s M∧M.S=Scr.new W H∧Chg [] w w'∧w.heap.size≤s∧∀b∈M.blk,w.heap.size≤b):=by
 apply Yw
 intro K hK
 unfold LA
 refine OpX.call EB rfl (Calls.ret (E1 w W H W0 W1 H0 H1) ?_)
 rintro v w1 ⟨hg,hc1⟩
 obtain⟨nb,cap,rfl,q1,q2,q3,q4⟩:=hg.sx
 simp -dsimp (disch:=first|omega|(simp only[go_sem,seval];try omega))only[go_sem,seval,Gr.val]
 refine OpX.gen fun w2 hw2=>?_
 have hc2:Chg [] w1 w2:=by rw[hw2];exact AB _ _
 clear hw2
 have hfit:=Gr.fit_plain W0 W1 H0 H1
 refine OpX.call Df rfl (Calls.ret (Db hfit.ok (q4.chg0 hc2) cap q1) ?_)
 rintro v w3 ⟨rfl,hc3⟩
 simp -dsimp (disch:=first|omega|(simp only[go_sem,seval];try omega))only[go_sem,seval,hfit.r]
 refine OpX.build (c:=(EO W H).toArray) (by kernel_rfl) ?_
 rw[To]
 obtain⟨z,hz⟩:∃z,z=(Value.agg (EO W H).toArray).cells:=⟨_,rfl⟩
 rw[←hz]
 have hb:(w3.alloc (.cells z 236)).heap[w3.heap.size]?=some (.cells (EO W H).toArray 236):=by
  rw[hz]
  exact Lyc.heap_alloc_new _ _ _ rfl
 have hc4:Chg [] w w3:=(hc1.trans0 hc2).trans0 hc3
 have hc5:Chg [] w3 (w3.alloc (.cells z 236)):=AB _ _
 have hs5:(w3.alloc (.cells z 236)).heap.size=w3.heap.size+1:=by simp -dsimp (disch:=first|omega|(simp only[go_sem,seval];try omega))only[go_sem,seval]
 have hlen:(EO W H).length=233:=by unfold EO;simp only[List.length_append,List.length_replicate,List.length_cons,List.length_nil,Bi]
 have hz3:=hc4.size
 clear hz
 refine OpX.call MY rfl (Calls.ret (IP (W:=W) (H:=H) (rows:=[]) hb hlen rfl rfl rfl W0 W1 H0 H1 (Ox.nil _ _ _ _ _) (by simp)) ?_)
 rintro v w4 ⟨M,hA,hS,hgv,hc6,k1,k2⟩
 refine hK _ _ ⟨w3.heap.size,M,rfl,hA,?_,(hc4.trans0 hc5).trans hc6 (by simp;omega),hz3,?_⟩
 ·rw[hS,TJ];rfl
 ·intro b hb
  simp only[Scm.blk,List.mem_cons] at hb
  rcases hb with rfl|rfl|hb
  ·omega
  ·omega
  ·rw[hgv] at hb;simp [Value.ownBlock] at hb
end
structure SNew (base:Nat) (w:World) (s:Nat) (W H:Nat) (M:Scm):Prop where
 at_:SAt w s M
 ok:M.S.ok
 w:M.S.w=W
 h:M.S.h=H
 gw:∀r∈M.S.gone,r.length=W
 lo:∀x∈s::M.blk,base≤x
theorem SNew.did {base:Nat} {w w':World} {s W H:Nat} {M:Scm} {T:Scr} (h:SNew base w s W H M) (hd:Did w s M w' T) (hn:Nx M.S T) (hb:base≤w.heap.size):∃M',SNew base w' s W H M'∧M'.S=T∧Chg (s::M.blk) w w'∧∀b∈M'.blk,b∈M.blk∨w.heap.size≤b:=by
 obtain⟨M',a,rfl,c,d⟩:=hd
 refine⟨M',⟨a,hn.ok,hn.w.trans h.w,hn.h.trans h.h,fun r hr=>?_,fun x hx=>?_⟩,rfl,c,d⟩
 ·rw[←h.w,←hn.w];exact hn.gw (fun r hr=>by rw[h.w];exact h.gw r hr) r hr
 ·rcases List.mem_cons.1 hx with e|hx
  ·exact h.lo x (by rw[e];simp)
  ·rcases d x hx with hx|hx
   ·exact h.lo x (by simp [hx])
   ·omega
theorem SNew.chg0 {base:Nat} {w w':World} {s W H:Nat} {M:Scm} (h:SNew base w s W H M) (hc:Chg [] w w'):SNew base w' s W H M:=⟨h.at_.chg0 hc,h.ok,h.w,h.h,h.gw,h.lo⟩
theorem PQ (w:World) (W H:Nat) (W0:0<W) (W1:W≤200) (H0:0<H) (H1:H≤60):Calls Tryz.prog 128 #[.int .i64 W,.int .i64 H] w
  (Ac fun v w'=>∃s M,v=.pointer (some ⟨s,0,none⟩)∧SNew w.heap.size w' s W H M∧M.S=Scr.new W H∧Chg [] w w'):=by
 refine(Qr w W H W0 W1 H0 H1).mono fun e w' h=>?_
 cases e with
 | returned v =>
  obtain⟨s,M,rfl,hA,hS,hc,h1,h2⟩:=h
  refine⟨s,M,rfl,⟨hA,by rw[hS];exact Scr.ok_new W0 W1 H0 H1,by rw[hS];rfl,by rw[hS];rfl,by rw[hS];simp [Scr.new],fun x hx=>?_⟩,hS,hc⟩
  rcases List.mem_cons.1 hx with rfl|hx
  ·exact h1
  ·exact h2 x hx
 | _=>exact h.elim
theorem SNew.gone {base:Nat} {w w':World} {s W H:Nat} {M:Scm} (h:SNew base w s W H M) (hA:SAt w' s { M with S:={ M.S with gone:=[] },gv:=.slice none 0 0,rows:=[] }):SNew base w' s W H { M with S:={ M.S with gone:=[] },gv:=.slice none 0 0,rows:=[] }:=by
 refine⟨hA,⟨h.ok.w0,h.ok.w1,h.ok.h0,h.ok.h1,h.ok.g0,h.ok.g1,h.ok.nx,h.ok.ny,h.ok.s0x,h.ok.s0y,h.ok.s1x,h.ok.s1y,h.ok.tf,h.ok.fh,h.ok.tl,by simp,by simp⟩,h.w,h.h,by simp,fun x hx=>?_⟩
 simp only[Scm.blk,Value.ownBlock,Option.toList_none,List.mem_cons,List.not_mem_nil,or_false] at hx
 rcases hx with rfl|rfl|rfl
 ·exact h.lo _ (by simp)
 ·exact h.lo _ (by simp [Scm.blk])
 ·exact h.lo _ (by simp [Scm.blk])
theorem SAt.act_off {w:World} {s:Nat} {M:Scm} (h:SAt w s M) {b0:Nat} {v:Value} {qs:List Act'} (ho:Ox b0 w 247 13 Act'.cells v qs):∀x∈s::M.blk,x∉v.ownBlock.toList:=by
 intro x hx hm
 have hm:v.ownBlock=some x:=by simpa using hm
 simp only[Scm.blk,List.mem_cons] at hx
 rcases hx with rfl|rfl|rfl|hx
 ·have hb:=h.hb
  unfold Scm.obj at hb
  exact ho.off hb rfl hm
 ·exact ho.off h.h0 rfl hm
 ·exact ho.off h.h1 rfl hm
 ·obtain⟨hl,hg⟩:=h.own
  rcases hg with ⟨hv,-⟩|⟨g,cap,cur,hv,-,hg,-⟩
  ·rw[hv] at hx;simp [Value.ownBlock] at hx
  ·rw[hv] at hx;simp [Value.ownBlock] at hx
   subst hx
   exact ho.off hg rfl hm
end Go.Proofs.YtelplojmbjnplaaGreatDoor
namespace Go.Proofs
open Go.Shelf
def Tryz.lays137_ren:Go.Shelf.Ren:=⟨fun|137=>88|217=>130|266=>172|n=>n,fun|9=>9|5=>5|3=>3|n=>n,fun|n=>n⟩
theorem Tryz.lays137:Go.Proofs.Lays.n137 Tryz.prog Tryz.lays137_ren:={
 mixed:=by kernel_rfl
 f137:=Tryz.func88.trans (congrArg some (by kernel_rfl))
 f217:=Tryz.func130.trans (congrArg some (by kernel_rfl))
 f266:=Tryz.func172.trans (congrArg some (by kernel_rfl))
 t3:=Tryz.underlying3
 a3:=Tryz.isAgg3
 z3:=Tryz.sizeOf3
 v3:=Tryz.zeroValue3
 t5:=Tryz.underlying5
 a5:=Tryz.isAgg5
 z5:=Tryz.sizeOf5
 v5:=Tryz.zeroValue5
 t9:=Tryz.underlying9
 a9:=Tryz.isAgg9
 z9:=Tryz.sizeOf9
 v9:=Tryz.zeroValue9 }
open Go.RowKit in
theorem Tryz.strings_IndexByte (s:ByteArray) (c:Int) (w:World) :
  Calls Tryz.prog 88 #[.string s,.int .u8 c] w fun e w'=>e=.returned (.int .i64 (Lib.indexByte s.data.toList c.toNat.toUInt8))∧w'=w:=Any.strings_IndexByte Tryz.lays137 s c w
def Tryz.laysM316_ren:Go.Shelf.Ren:=⟨fun|316=>194|n=>n,fun|9=>9|3=>3|4=>4|37=>47|0=>0|127=>241|5=>5|n=>n,fun|n=>n⟩
theorem Tryz.laysM316:Go.Proofs.LaysM.n316 Tryz.prog Tryz.laysM316_ren:={
 mixed:=by kernel_rfl
 f316:=Tryz.func194.trans (congrArg some (by kernel_rfl))
 t0:=Tryz.underlying0
 a0:=Tryz.isAgg0
 z0:=Tryz.sizeOf0
 v0:=Tryz.zeroValue0
 t3:=Tryz.underlying3
 a3:=Tryz.isAgg3
 z3:=Tryz.sizeOf3
 v3:=Tryz.zeroValue3
 t4:=Tryz.underlying4
 a4:=Tryz.isAgg4
 z4:=Tryz.sizeOf4
 v4:=Tryz.zeroValue4
 t9:=Tryz.underlying9
 a9:=Tryz.isAgg9
 z9:=Tryz.sizeOf9
 v9:=Tryz.zeroValue9
 t37:=Tryz.underlying47
 a37:=Tryz.isAgg47
 z37:=Tryz.sizeOf47
 v37:=Tryz.zeroValue47
 t127:=Tryz.underlying241
 a127:=Tryz.isAgg241
 z127:=Tryz.sizeOf241
 v127:=Tryz.zeroValue241
 t5:=Tryz.underlying5
 a5:=Tryz.isAgg5
 z5:=Tryz.sizeOf5
 v5:=Tryz.zeroValue5
 i0:=by kernel_rfl
 i3:=by kernel_rfl
 i4:=by kernel_rfl
 i5:=by kernel_rfl
 i9:=by kernel_rfl
 i37:=by kernel_rfl
 i127:=by kernel_rfl }
open Go.RowKit in
theorem Tryz.stringslite_Clone (s:ByteArray) (w:World) (hlim:s.size≤281474976710656) :
  Calls Tryz.prog 194 #[.string s] w fun e w'=>e=.returned (.string s)∧Below w.heap.size w w':=Any.stringslite_Clone Tryz.laysM316 s w hlim
def Tryz.lays189_ren:Go.Shelf.Ren:=⟨fun|189=>68|125=>113|257=>112|128=>153|129=>154|294=>144|295=>145|296=>146|297=>147|298=>148|299=>149|216=>150|300=>151|301=>152|328=>197|329=>198|330=>199|331=>200|332=>201|215=>202|343=>222|n=>n,fun|28=>40|3=>3|46=>71|0=>0|51=>268|53=>69|4=>4|183=>261|182=>260|131=>265|5=>5|9=>9|218=>296|222=>300|228=>313|229=>25|n=>n,fun|n=>n⟩
theorem Tryz.lays189:Go.Proofs.Lays.n189 Tryz.prog Tryz.lays189_ren:={
 mixed:=by kernel_rfl
 f125:=Tryz.func113.trans (congrArg some (by kernel_rfl))
 f128:=Tryz.func153.trans (congrArg some (by kernel_rfl))
 f129:=Tryz.func154.trans (congrArg some (by kernel_rfl))
 f189:=Tryz.func68.trans (congrArg some (by kernel_rfl))
 f215:=Tryz.func202.trans (congrArg some (by kernel_rfl))
 f216:=Tryz.func150.trans (congrArg some (by kernel_rfl))
 f257:=Tryz.func112.trans (congrArg some (by kernel_rfl))
 f294:=Tryz.func144.trans (congrArg some (by kernel_rfl))
 f295:=Tryz.func145.trans (congrArg some (by kernel_rfl))
 f296:=Tryz.func146.trans (congrArg some (by kernel_rfl))
 f297:=Tryz.func147.trans (congrArg some (by kernel_rfl))
 f298:=Tryz.func148.trans (congrArg some (by kernel_rfl))
 f299:=Tryz.func149.trans (congrArg some (by kernel_rfl))
 f300:=Tryz.func151.trans (congrArg some (by kernel_rfl))
 f301:=Tryz.func152.trans (congrArg some (by kernel_rfl))
 f328:=Tryz.func197.trans (congrArg some (by kernel_rfl))
 f329:=Tryz.func198.trans (congrArg some (by kernel_rfl))
 f330:=Tryz.func199.trans (congrArg some (by kernel_rfl))
 f331:=Tryz.func200.trans (congrArg some (by kernel_rfl))
 f332:=Tryz.func201.trans (congrArg some (by kernel_rfl))
 f343:=Tryz.func222.trans (congrArg some (by kernel_rfl))
 t0:=Tryz.underlying0
 a0:=Tryz.isAgg0
 z0:=Tryz.sizeOf0
 v0:=Tryz.zeroValue0
 t3:=Tryz.underlying3
 a3:=Tryz.isAgg3
 z3:=Tryz.sizeOf3
 v3:=Tryz.zeroValue3
 t4:=Tryz.underlying4
 a4:=Tryz.isAgg4
 z4:=Tryz.sizeOf4
 v4:=Tryz.zeroValue4
 t5:=Tryz.underlying5
 a5:=Tryz.isAgg5
 z5:=Tryz.sizeOf5
 v5:=Tryz.zeroValue5
 t9:=Tryz.underlying9
 a9:=Tryz.isAgg9
 z9:=Tryz.sizeOf9
 v9:=Tryz.zeroValue9
 t28:=Tryz.underlying40
 a28:=Tryz.isAgg40
 z28:=Tryz.sizeOf40
 v28:=Tryz.zeroValue40
 t46:=Tryz.underlying71
 a46:=Tryz.isAgg71
 z46:=Tryz.sizeOf71
 v46:=Tryz.zeroValue71
 t51:=Tryz.underlying268
 a51:=Tryz.isAgg268
 z51:=Tryz.sizeOf268
 v51:=Tryz.zeroValue268
 t53:=Tryz.underlying69
 a53:=Tryz.isAgg69
 z53:=Tryz.sizeOf69
 v53:=Tryz.zeroValue69
 t131:=Tryz.underlying265
 a131:=Tryz.isAgg265
 z131:=Tryz.sizeOf265
 v131:=Tryz.zeroValue265
 t182:=Tryz.underlying260
 a182:=Tryz.isAgg260
 z182:=Tryz.sizeOf260
 v182:=Tryz.zeroValue260
 t183:=Tryz.underlying261
 a183:=Tryz.isAgg261
 z183:=Tryz.sizeOf261
 v183:=Tryz.zeroValue261
 t218:=Tryz.underlying296
 a218:=Tryz.isAgg296
 z218:=Tryz.sizeOf296
 v218:=Tryz.zeroValue296
 t222:=Tryz.underlying300
 a222:=Tryz.isAgg300
 z222:=Tryz.sizeOf300
 v222:=Tryz.zeroValue300
 t228:=Tryz.underlying313
 a228:=Tryz.isAgg313
 z228:=Tryz.sizeOf313
 v228:=Tryz.zeroValue313
 t229:=Tryz.underlying25
 a229:=Tryz.isAgg25
 z229:=Tryz.sizeOf25
 v229:=Tryz.zeroValue25 }
open Go.Sort Go.RowKit in
theorem Tryz.slices_Sort_int (blk off cap:Nat) (zs:List Int) (w:World) (hH:Holds (Value.int .i64) w blk off zs.toArray) (hblk:blk<w.heap.size) (hsz:zs.length<4611686018427387904) :
  Calls Tryz.prog 68 #[.slice (some ⟨blk,off,none⟩) zs.length cap] w fun e w' =>
   e=.returned (.tuple #[])∧∃n os,w'=grow (putRow (Value.int .i64) (Sort.ahead w n) blk off (zs.mergeSort fun x y=>decide (x≤y)).toArray) os:=Any.slices_Sort_int Tryz.lays189 blk off cap zs w hH hblk hsz
open Go.RowKit Go.Sort in
theorem Tryz.slices_Sort_int_none (p:Option Addr) (cap:Nat) (w:World) :
  Calls Tryz.prog 68 #[.slice p 0 cap] w fun e w'=>e=.returned (.tuple #[])∧w'=w:=Any.slices_Sort_int_none Tryz.lays189 p cap w
end Go.Proofs
namespace Lyc
open Go
section
variable {P:Program}
def Ap (l:List UInt8):ByteArray:=⟨l.toArray⟩
def Cs (b:UInt8):List Value:=[.int .u8 b.toNat]
theorem UC (b:UInt8):(Cs b).length=1:=rfl
theorem Y0 (b:UInt8):AO (Cs b)=true:=rfl
theorem PG (l:List UInt8):l.flatMap Cs=l.map fun b=>.int .u8 b.toNat:=by
 induction l with
 | nil=>rfl
 | cons b l ih=>simp [Cs,ih]
@[go_sem] theorem Oj (l:List UInt8):(Ap l).size=l.length:=by simp [Ap,ByteArray.size]
@[go_sem] theorem Z9 (l:List UInt8):(Ap l).toList=l:=by rw[ByteArray.toList_eq];rfl
theorem IU (s:ByteArray):Ap s.toList=s:=by
 rw[ByteArray.toList_eq];rfl
@[go_sem] theorem bR (a b:List UInt8):Ap a++Ap b=Ap (a++b):=by
 apply ByteArray.ext
 simp [Ap]
theorem Tc (l:List UInt8):∀(acc:List UInt8),((l.map fun b:UInt8=>(b.toNat:Int)).foldl (fun(r:ByteArray) n=>r.push (UInt8.ofNat n.toNat)) (Ap acc))=Ap (acc++l):=by
 induction l with
 | nil=>intro acc;simp
 | cons b l ih =>
  intro acc
  simp only[List.map_cons,List.foldl_cons]
  have:(Ap acc).push (UInt8.ofNat ((b.toNat:Int)).toNat)=Ap (acc++[b]):=by
   apply ByteArray.ext
   simp [Ap]
  rw[this,ih];simp
def Hx (P:Program) (t:TypeId):Bool:=match P.underlying t with|some (.slice e)=>(match P.underlying e with|some (.int .u8)=>true|_=>false)|_=>false
theorem Zf {t:TypeId} (h:Hx P t=true):∃e,P.underlying t=some (.slice e)∧P.underlying e=some (.int .u8):=by
 unfold Hx at h
 split at h
 ·rename_i e hu
  split at h
  ·rename_i hk;exact⟨e,hu,hk⟩
  ·simp at h
 ·simp at h
theorem R9 {s d ty:TypeId} {a:Option Addr} {l:List UInt8} {c:Nat} {e:Option TypeId} {K:Value→World→Prop} {w:World} (hs:Hx P s=true) (hd:Ag P d=some 3) (h:Sx w e Cs a l) :
  OpX P (.convert s d (.const (.slice a l.length c))) ty K w=K (.string (Ap l)) w:=by
 obtain⟨e0,h1,h2⟩:=Zf hs
 refine Bb fun ρ hg=>?_
 simp only[execOp,An,hg.1,Sem.run_bind]
 rw[run_convert_bytes_string w s d e0 a l.length c h1 h2 (Gu hd)]
 have key:(Conv.bytesToString (.slice a l.length c)).run P w=.ok (.string (Ap l)) w:=by
  cases a with
  | none =>
   have hl:l=[]:=by
    cases l with
    | nil=>rfl
    | cons x l=>obtain⟨b,o,_,_,_,_,_,h,_⟩:=h.at_ (by simp);simp at h
   subst hl
   simp [Conv.bytesToString]
   rfl
  | some ad =>
   have hl:(loadCells ad l.length).run P w=.ok ((l.map fun b:UInt8=>(b.toNat:Int)).map (Value.int .u8)).toArray w:=by
    by_cases hn:l=[]
    ·subst hn;simp [loadCells,loadCellsFrom]
    ·obtain⟨b,o,c',e',fr,pre,post,h3,h4,h5,h6,h7⟩:=h.at_ hn
     cases h3
     have:=run_loadCells_list (P:=P) w ⟨b,o,none⟩ (l.flatMap Cs) (fun j v hj=>by
      rw[CD,cell?_at,h4,h6,Cv]
      have hj':=(List.getElem?_eq_some_iff.1 hj).1
      rw[List.getElem?_toArray,List.append_assoc,List.getElem?_append_right (by omega),List.getElem?_append_left (by omega)]
      rw[←hj];congr 1;omega)
     rw[PG] at this
     simpa [Function.comp_def] using this
   rw[run_bytesToString w ad l.length c _ hl]
   have:=Tc l []
   rw[show(ByteArray.empty)=Ap [] from rfl,this]
   simp
 rw[key]
 rfl
end
end Lyc
namespace Go.Proofs.YtelplojmbjnplaaGreatDoor
open Lyc Go
def Dh (r:Int):List Value:=[.int .i32 r]
theorem Yi (r:Int):(Dh r).length=1:=rfl
theorem UO (r:Int):AO (Dh r)=true:=rfl
def asc (r:Int):Prop:=0≤r∧r≤127
instance (r:Int):Decidable (asc r):=by unfold asc;infer_instance
def cl (r:Int):UInt8:=UInt8.ofNat r.toNat
def shown (l:List Cel):List Int:=l.filterMap fun c=>if c.check then(if c.tail then none else some c.r) else some 63
def er (l:List Int):List Int:=(l.reverse.dropWhile (· == 32)).reverse
structure Tm where
 s:Nat
 h:Nat
 kept:List UInt8
 E:Esc
@[go_sem] def Tm.obj (T:Tm):Obj:=.cells #[.pointer (some ⟨T.s,0,none⟩),.string (Ap T.kept),.int .i64 T.E.inn,.int .u8 T.E.priv,.int .u8 T.E.mid,.int .i64 T.E.n,.int .i64 (T.E.nums.getD 0 0),.int .i64 (T.E.nums.getD 1 0),.int .i64 (T.E.nums.getD 2 0),.int .i64 (T.E.nums.getD 3 0),.int .i64 (T.E.nums.getD 4 0),.int .i64 (T.E.nums.getD 5 0),.int .i64 (T.E.nums.getD 6 0),.int .i64 (T.E.nums.getD 7 0),.pointer (some ⟨T.h,0,none⟩)] 163
theorem BX {w:World} {t:Nat} (o:Obj) (hl:t<w.heap.size):(Ab w t o).heap[t]?=some o:=Ar _ _ _ _ rfl hl
theorem DP {w:World} {t:Nat} {T:Tm} (h:w.heap[t]?=some T.obj):Calls Tryz.prog 190 #[.pointer (some ⟨t,2,none⟩)] w
  (Ac fun _ w'=>w'.heap[t]?=some ({ T with E:=Esc.new }:Tm).obj∧Chg [t] w w'):=by
 have hl:=Aa h
 apply Rf
 intro K hK
 unfold L1
 simp -dsimp (disch:=first|omega|(simp only[go_sem,seval];try omega))only[go_sem,seval,h]
 refine hK _ _ ⟨?_,(Chg.refl _ _).set _ _ (.inl (by simp))⟩
 rw[BX _ hl]
 rfl
def GD (t:Nat) (T:Tm) (p:Esc × Option Act') (w:World) (v:Value) (w':World):Prop :=
 v=.tuple #[(p.2.getD noA).val,.bool p.2.isSome]∧w'.heap[t]?=some ({ T with E:=p.1 }:Tm).obj∧Chg [t] w w'
structure EscR (t z:Nat) (T:Tm) (p:Esc × Option Act') (w w4:World):Prop where
 a:w4.heap[t]?=some ({ T with E:=p.1 }:Tm).obj
 b:w4.heap[z]?=some (.cells noA.cells.toArray 247)
 c:Chg [t] w w4
 d:p.2=none
theorem TZ {w:World} {t:Nat} {T:Tm} (h:w.heap[t]?=some T.obj) (r:Int):Calls Tryz.prog 191 #[.pointer (some ⟨t,2,none⟩),.int .i32 r] w
  (Ac (GD t T (T.E.escape r) w)):=by
 have hl:=Aa h
 apply Um
 intro K hK
 unfold OM
 simp -dsimp (disch:=first|omega|(simp only[go_sem,seval];try omega))only[go_sem,seval,h]
 obtain⟨w1,hw1⟩:∃w1,w1=w.alloc (.cells noA.cells.toArray 247):=⟨_,rfl⟩
 have hc1:Chg [] w w1:=by rw[hw1];exact AB _ _
 have ho1:w1.heap[w.heap.size]?=some (.cells noA.cells.toArray 247):=by rw[hw1];simp -dsimp (disch:=first|omega|(simp only[go_sem,seval];try omega))only[go_sem,seval]
 simp only[noA,Act'.cells] at hw1
 rw[←hw1]
 clear hw1
 have h1:=hc1.keep h (by simp)
 have hl1:=Aa h1
 have hlo:=Aa ho1
 obtain⟨p,hp⟩:∃p,p=T.E.escape r:=⟨_,rfl⟩
 rw[←hp] at hK
 unfold Esc.escape at hp
 have fin:∀w4:World,w4.heap[t]?=some ({ T with E:=p.1 }:Tm).obj→w4.heap[w.heap.size]?=some (.cells noA.cells.toArray 247)→Chg [t] w w4→p.2=none →
   OpX Tryz.prog (.build 247 #[]) 247 (fun t76=>xS 247 (.pointer (some ⟨w.heap.size,0,none⟩)) t76 (xD 247 (.pointer (some ⟨w.heap.size,0,none⟩)) fun t4_1=>K (.tuple #[t4_1,.bool false]))) w4:=by
  intro w4 a b c d
  have hl4:=Aa b
  simp -dsimp (disch:=first|omega|(simp only[go_sem,seval];try omega))only[go_sem,seval,b,noA]
  refine hK _ _ ⟨by rw[d];rfl,?_,c.set _ _ (.inr (Nat.le_refl _))⟩
  rw[AY _ _ _ _ (by omega)]
  exact a
 have chS:∀o:Obj,Chg [t] w (Ab w1 t o):=fun o=>(hc1.mono (by simp)).set _ _ (.inl (by simp))
 have keS:∀o:Obj,(Ab w1 t o).heap[w.heap.size]?=some (.cells noA.cells.toArray 247):=fun o=>by rw[AY _ _ _ _ (by omega)];exact ho1
 refine Join0.cut (EscR t w.heap.size T p w) ?_ (fun w4 ⟨a,b,c,d⟩=>fin w4 a b c d)
 refine Join1.cut (fun v w'=>v=.bool (decide (r≤47∧T.E.mid=0))∧w'=w1) ?_ ?_
 ·simp -dsimp (disch:=first|omega|(simp only[go_sem,seval];try omega))only[go_sem,seval]
  refine BrW.dec (fun g=>?_) (fun g=>⟨congrArg Value.bool (decide_eq_false (by omega)).symm,rfl⟩)
  simp -dsimp (disch:=first|omega|(simp only[go_sem,seval];try omega))only[go_sem,seval]
  exact congrArg Value.bool (decide_eq_decide.2 ⟨fun h=>⟨g,h⟩,fun h=>h.2⟩)
 rintro v w2 ⟨rfl,rfl⟩
 refine BrW.dec (fun g1=>?_) (fun g1=>?_)
 ·rw[if_pos g1] at hp
  subst hp
  simp -dsimp (disch:=first|omega|(simp only[go_sem,seval];try omega))only[go_sem,seval,h1]
  exact⟨BX _ hl1,keS _,chS _,rfl⟩
 rw[if_neg g1] at hp
 simp -dsimp (disch:=first|omega|(simp only[go_sem,seval];try omega))only[go_sem,seval]
 refine BrW.dec (fun g2=>?_) (fun g2=>?_)
 ·rw[if_pos g2] at hp
  subst hp
  simp -dsimp (disch:=first|omega|(simp only[go_sem,seval];try omega))only[go_sem,seval,h1]
  exact⟨BX _ hl1,keS _,chS _,rfl⟩
 rw[if_neg g2] at hp
 refine Join1.cut (fun v w'=>v=.bool (decide (r=91∧T.E.mid=0))∧w'=w2) ?_ ?_
 ·simp -dsimp (disch:=first|omega|(simp only[go_sem,seval];try omega))only[go_sem,seval]
  refine BrW.dec (fun g=>?_) (fun g=>⟨congrArg Value.bool (decide_eq_false (by omega)).symm,rfl⟩)
  simp -dsimp (disch:=first|omega|(simp only[go_sem,seval];try omega))only[go_sem,seval]
  exact congrArg Value.bool (decide_eq_decide.2 ⟨fun h=>⟨g,h⟩,fun h=>h.2⟩)
 rintro v w3 ⟨rfl,rfl⟩
 refine BrW.dec (fun g3=>?_) (fun g3=>?_)
 ·rw[if_pos g3] at hp
  subst hp
  simp -dsimp (disch:=first|omega|(simp only[go_sem,seval];try omega))only[go_sem,seval,h1]
  exact⟨BX _ hl1,keS _,chS _,rfl⟩
 rw[if_neg g3] at hp
 refine Join1.cut (fun v w'=>v=.bool (decide ((r=80∨r=88∨93≤r∧r≤95)∧T.E.mid=0))∧w'=w3) ?_ ?_
 ·have fa:¬((r=80∨r=88∨93≤r∧r≤95)∧T.E.mid=0)→Value.bool false=Value.bool (decide ((r=80∨r=88∨93≤r∧r≤95)∧T.E.mid=0))∧w3=w3:=fun h=>⟨congrArg Value.bool (decide_eq_false h).symm,rfl⟩
  have md:(r=80∨r=88∨93≤r∧r≤95)→Value.bool (decide (T.E.mid=0))=Value.bool (decide ((r=80∨r=88∨93≤r∧r≤95)∧T.E.mid=0)):=fun h=>congrArg Value.bool (decide_eq_decide.2 ⟨fun k=>⟨h,k⟩,fun k=>k.2⟩)
  simp -dsimp (disch:=first|omega|(simp only[go_sem,seval];try omega))only[go_sem,seval]
  refine BrW.dec (fun g=>?_) (fun g=>?_)
  ·simp -dsimp (disch:=first|omega|(simp only[go_sem,seval];try omega))only[go_sem,seval]
   exact md (by omega)
  simp -dsimp (disch:=first|omega|(simp only[go_sem,seval];try omega))only[go_sem,seval]
  refine BrW.dec (fun g'=>?_) (fun g'=>?_)
  ·simp -dsimp (disch:=first|omega|(simp only[go_sem,seval];try omega))only[go_sem,seval]
   exact md (by omega)
  simp -dsimp (disch:=first|omega|(simp only[go_sem,seval];try omega))only[go_sem,seval]
  refine BrW.dec (fun g4=>?_) (fun g4=>fa (by omega))
  simp -dsimp (disch:=first|omega|(simp only[go_sem,seval];try omega))only[go_sem,seval]
  refine BrW.dec (fun g5=>?_) (fun g5=>fa (by omega))
  simp -dsimp (disch:=first|omega|(simp only[go_sem,seval];try omega))only[go_sem,seval]
  exact md (by omega)
 rintro v w4 ⟨rfl,rfl⟩
 refine BrW.dec (fun g4=>?_) (fun g4=>?_)
 ·rw[if_pos g4] at hp
  subst hp
  simp -dsimp (disch:=first|omega|(simp only[go_sem,seval];try omega))only[go_sem,seval,h1]
  exact⟨BX _ hl1,keS _,chS _,rfl⟩
 rw[if_neg g4] at hp
 refine Join1.cut (fun v w'=>v=.bool (decide (r≤126∧T.E.mid≠255))∧w'=w4) ?_ ?_
 ·simp -dsimp (disch:=first|omega|(simp only[go_sem,seval];try omega))only[go_sem,seval]
  refine BrW.dec (fun g=>?_) (fun g=>⟨congrArg Value.bool (decide_eq_false (by omega)).symm,rfl⟩)
  simp -dsimp (disch:=first|omega|(simp only[go_sem,seval];try omega))only[go_sem,seval]
  exact congrArg Value.bool (decide_eq_decide.2 ⟨fun h=>⟨g,h⟩,fun h=>h.2⟩)
 rintro v w5 ⟨rfl,rfl⟩
 refine BrW.dec (fun g5=>?_) (fun g5=>?_)
 ·rw[if_pos g5] at hp
  subst hp
  refine OpX.call Er rfl (Calls.ret (DP h1) ?_)
  rintro v w6 ⟨h6,hc6⟩
  have ho6:=hc6.keep ho1 (by simp;omega)
  have hl6:=Aa ho6
  simp -dsimp (disch:=first|omega|(simp only[go_sem,seval];try omega))only[go_sem,seval,ho6,noA]
  refine hK _ _ ⟨rfl,?_,((hc1.mono (by simp)).trans hc6 (by simp)).set _ _ (.inr (Nat.le_refl _))⟩
  rw[AY _ _ _ _ (by omega)]
  exact h6
 ·rw[if_neg g5] at hp
  subst hp
  refine OpX.call Er rfl (Calls.ret (DP h1) ?_)
  rintro v w6 ⟨h6,hc6⟩
  exact⟨h6,hc6.keep ho1 (by simp;omega),(hc1.mono (by simp)).trans hc6 (by simp),rfl⟩
set_option maxHeartbeats 1000000 in
theorem Wu {w:World} {t:Nat} {T:Tm} (h:w.heap[t]?=some T.obj) (ok:T.E.ok) (r:Int) (hr:A9 r):Calls Tryz.prog 192 #[.pointer (some ⟨t,2,none⟩),.int .i32 r] w
  (Ac (GD t T (T.E.control r) w)):=by
 have hl:=Aa h
 have hr0:=hr.1
 have hr1:=hr.2
 apply RG
 intro K hK
 unfold M7
 simp -dsimp (disch:=first|omega|(simp only[go_sem,seval];try omega))only[go_sem,seval]
 obtain⟨w1,hw1⟩:∃w1,w1=w.alloc (.cells noA.cells.toArray 247):=⟨_,rfl⟩
 have hc1:Chg [] w w1:=by rw[hw1];exact AB _ _
 have ho1:w1.heap[w.heap.size]?=some (.cells noA.cells.toArray 247):=by rw[hw1];simp -dsimp (disch:=first|omega|(simp only[go_sem,seval];try omega))only[go_sem,seval]
 simp only[noA,Act'.cells] at hw1
 rw[←hw1]
 clear hw1
 have h1:=hc1.keep h (by simp)
 have hl1:=Aa h1
 have hlo:=Aa ho1
 have hz1:=hc1.size
 obtain⟨p,hp⟩:∃p,p=T.E.control r:=⟨_,rfl⟩
 rw[←hp] at hK
 unfold Esc.control at hp
 have fin:∀w4:World,EscR t w.heap.size T p w w4 →
   OpX Tryz.prog (.build 247 #[]) 247 (fun t76=>xS 247 (.pointer (some ⟨w.heap.size,0,none⟩)) t76 (xD 247 (.pointer (some ⟨w.heap.size,0,none⟩)) fun t4_1=>K (.tuple #[t4_1,.bool false]))) w4:=by
  rintro w4 ⟨a,b,c,d⟩
  have hl4:=Aa b
  simp -dsimp (disch:=first|omega|(simp only[go_sem,seval];try omega))only[go_sem,seval,b,noA]
  refine hK _ _ ⟨by rw[d];rfl,?_,c.set _ _ (.inr (Nat.le_refl _))⟩
  rw[AY _ _ _ _ (by omega)]
  exact a
 have chS:∀o:Obj,Chg [t] w (Ab w1 t o):=fun o=>(hc1.mono (by simp)).set _ _ (.inl (by simp))
 have keS:∀o:Obj,(Ab w1 t o).heap[w.heap.size]?=some (.cells noA.cells.toArray 247):=fun o=>by rw[AY _ _ _ _ (by omega)];exact ho1
 refine Join0.cut (EscR t w.heap.size T p w) ?_ (fun w4 hw4=>fin w4 hw4)
 refine Join1.cut (fun v w'=>v=.bool (decide (48≤r∧r≤57∧T.E.mid=0))∧w'=w1) ?_ ?_
 ·simp -dsimp (disch:=first|omega|(simp only[go_sem,seval];try omega))only[go_sem,seval]
  refine BrW.dec (fun g=>?_) (fun g=>⟨congrArg Value.bool (decide_eq_false (by omega)).symm,rfl⟩)
  simp -dsimp (disch:=first|omega|(simp only[go_sem,seval];try omega))only[go_sem,seval]
  refine BrW.dec (fun g'=>?_) (fun g'=>⟨congrArg Value.bool (decide_eq_false (by omega)).symm,rfl⟩)
  simp -dsimp (disch:=first|omega|(simp only[go_sem,seval];try omega))only[go_sem,seval,h1]
  exact congrArg Value.bool (decide_eq_decide.2 ⟨fun h=>⟨g,g',h⟩,fun h=>h.2.2⟩)
 rintro v w2 ⟨rfl,rfl⟩
 refine BrW.dec (fun g1=>?_) (fun g1=>?_)
 ·rw[if_pos g1] at hp
  obtain⟨ts,th,kept,inn,priv,mid,n,nums⟩:=T
  have hlen:nums.length=8:=ok.len
  have hnk:∀x∈nums,0≤x∧x≤9999:=ok.k
  have hn9:n≤9:=ok.n9
  match nums,hlen with
  | [n0,n1,n2,n3,n4,n5,n6,n7],_ =>
  have k0:=hnk n0 (by simp)
  have k1:=hnk n1 (by simp)
  have k2:=hnk n2 (by simp)
  have k3:=hnk n3 (by simp)
  have k4:=hnk n4 (by simp)
  have k5:=hnk n5 (by simp)
  have k6:=hnk n6 (by simp)
  have k7:=hnk n7 (by simp)
  dsimp only at hp
  simp -dsimp (disch:=first|omega|(simp only[go_sem,seval];try omega))only[go_sem,seval,h1]
  refine BrW.dec (fun g2=>?_) (fun g2=>?_)
  ·rw[if_pos g2] at hp
   have hm:max n 1=1∨max n 1=2∨max n 1=3∨max n 1=4∨max n 1=5∨max n 1=6∨max n 1=7∨max n 1=8:=by omega
   rcases hm with hm|hm|hm|hm|hm|hm|hm|hm
   all_goals
    rw[hm] at hp ⊢
    subst hp
    simp only[List.getD_cons_zero,List.getD_cons_succ]
    simp -dsimp (disch:=first|omega|(simp only[go_sem,seval];try omega))only[go_sem,seval]
    exact⟨BX _ hl1,keS _,(chS _).drew,rfl⟩
  ·rw[if_neg g2] at hp
   subst hp
   exact⟨BX _ hl1,keS _,chS _,rfl⟩
 rw[if_neg g1] at hp
 refine Join1.cut (fun v w'=>v=.bool (decide ((r=58∨r=59)∧T.E.mid=0))∧w'=w2) ?_ ?_
 ·simp -dsimp (disch:=first|omega|(simp only[go_sem,seval];try omega))only[go_sem,seval]
  refine BrW.dec (fun g=>?_) (fun g=>?_)
  ·simp -dsimp (disch:=first|omega|(simp only[go_sem,seval];try omega))only[go_sem,seval,h1]
   exact congrArg Value.bool (decide_eq_decide.2 ⟨fun h=>⟨.inl g,h⟩,fun h=>h.2⟩)
  simp -dsimp (disch:=first|omega|(simp only[go_sem,seval];try omega))only[go_sem,seval]
  refine BrW.dec (fun g'=>?_) (fun g'=>⟨congrArg Value.bool (decide_eq_false (by omega)).symm,rfl⟩)
  simp -dsimp (disch:=first|omega|(simp only[go_sem,seval];try omega))only[go_sem,seval,h1]
  exact congrArg Value.bool (decide_eq_decide.2 ⟨fun h=>⟨.inr g',h⟩,fun h=>h.2⟩)
 rintro v w3 ⟨rfl,rfl⟩
 refine BrW.dec (fun g2=>?_) (fun g2=>?_)
 ·rw[if_pos g2] at hp
  subst hp
  have n0:=ok.n0
  have n9:=ok.n9
  simp -dsimp (disch:=first|omega|(simp only[go_sem,seval];try omega))only[go_sem,seval,h1]
  exact⟨BX _ hl1,keS _,chS _,rfl⟩
 rw[if_neg g2] at hp
 refine Join1.cut (fun v w'=>v=.bool (decide (60≤r∧r≤63∧T.E.priv=0∧T.E.mid=0∧T.E.n=0))∧w'=w3) ?_ ?_
 ·have fa:¬(60≤r∧r≤63∧T.E.priv=0∧T.E.mid=0∧T.E.n=0)→Value.bool false=Value.bool (decide (60≤r∧r≤63∧T.E.priv=0∧T.E.mid=0∧T.E.n=0))∧w3=w3:=fun h=>⟨congrArg Value.bool (decide_eq_false h).symm,rfl⟩
  simp -dsimp (disch:=first|omega|(simp only[go_sem,seval];try omega))only[go_sem,seval]
  refine BrW.dec (fun a1=>?_) (fun a1=>fa (by omega))
  simp -dsimp (disch:=first|omega|(simp only[go_sem,seval];try omega))only[go_sem,seval]
  refine BrW.dec (fun a2=>?_) (fun a2=>fa (by omega))
  simp -dsimp (disch:=first|omega|(simp only[go_sem,seval];try omega))only[go_sem,seval,h1]
  refine BrW.dec (fun a3=>?_) (fun a3=>fa (by omega))
  simp -dsimp (disch:=first|omega|(simp only[go_sem,seval];try omega))only[go_sem,seval,h1]
  refine BrW.dec (fun a4=>?_) (fun a4=>fa (by omega))
  simp -dsimp (disch:=first|omega|(simp only[go_sem,seval];try omega))only[go_sem,seval,h1]
  exact congrArg Value.bool (decide_eq_decide.2 ⟨fun h=>⟨a1,a2,a3,a4,h⟩,fun h=>h.2.2.2.2⟩)
 rintro v w4 ⟨rfl,rfl⟩
 refine BrW.dec (fun g3=>?_) (fun g3=>?_)
 ·rw[if_pos g3] at hp
  subst hp
  simp -dsimp (disch:=first|omega|(simp only[go_sem,seval];try omega))only[go_sem,seval,h1]
  exact⟨BX _ hl1,keS _,chS _,rfl⟩
 rw[if_neg g3] at hp
 refine Join1.cut (fun v w'=>v=.bool (decide (r≤47∧T.E.mid=0))∧w'=w4) ?_ ?_
 ·simp -dsimp (disch:=first|omega|(simp only[go_sem,seval];try omega))only[go_sem,seval]
  refine BrW.dec (fun g=>?_) (fun g=>⟨congrArg Value.bool (decide_eq_false (by omega)).symm,rfl⟩)
  simp -dsimp (disch:=first|omega|(simp only[go_sem,seval];try omega))only[go_sem,seval,h1]
  exact congrArg Value.bool (decide_eq_decide.2 ⟨fun h=>⟨g,h⟩,fun h=>h.2⟩)
 rintro v w5 ⟨rfl,rfl⟩
 refine BrW.dec (fun g4=>?_) (fun g4=>?_)
 ·rw[if_pos g4] at hp
  subst hp
  simp -dsimp (disch:=first|omega|(simp only[go_sem,seval];try omega))only[go_sem,seval,h1]
  exact⟨BX _ hl1,keS _,chS _,rfl⟩
 rw[if_neg g4] at hp
 refine Join1.cut (fun v w'=>v=.bool (decide (64≤r∧r≤126))∧w'=w5) ?_ ?_
 ·simp -dsimp (disch:=first|omega|(simp only[go_sem,seval];try omega))only[go_sem,seval]
  refine BrW.dec (fun g=>?_) (fun g=>⟨congrArg Value.bool (decide_eq_false (by omega)).symm,rfl⟩)
  simp -dsimp (disch:=first|omega|(simp only[go_sem,seval];try omega))only[go_sem,seval]
  exact congrArg Value.bool (decide_eq_decide.2 ⟨fun h=>⟨g,h⟩,fun h=>h.2⟩)
 rintro v w6 ⟨rfl,rfl⟩
 refine BrW.dec (fun g5=>?_) (fun g5=>?_)
 ·rw[if_pos g5] at hp
  subst hp
  have n0:=ok.n0
  have n9:=ok.n9
  simp -dsimp (disch:=first|omega|(simp only[go_sem,seval];try omega))only[go_sem,seval]
  refine Join1.cut (fun v w'=>v=.pointer (some ⟨w6.heap.size,0,none⟩)∧w'.heap[w6.heap.size]?=some (.cells (CK 4 r T.E.priv T.E.mid (min T.E.n 8) T.E.nums).cells.toArray 247)∧Chg [] w6 w') ?_ ?_
  ·simp -dsimp (maxSteps:=4000000) (disch:=first|omega|(simp only[go_sem,seval];try omega))only[go_sem,seval,h1]
   exact⟨rfl,(AB _ _).drew⟩
  rintro v w7 ⟨rfl,hA7,hc7⟩
  have h7:=hc7.keep h1 (by simp)
  have ho7:=hc7.keep ho1 (by simp)
  refine OpX.call Er rfl (Calls.ret (DP h7) ?_)
  rintro v w8 ⟨h8,hc8⟩
  have ho8:=hc8.keep ho7 (by simp;omega)
  have hA8:=hc8.keep hA7 (by simp;omega)
  have hl8:=Aa ho8
  simp -dsimp (disch:=first|omega|(simp only[go_sem,seval];try omega))only[go_sem,seval,hA8,ho8,noA]
  refine hK _ _ ⟨rfl,?_,(((hc1.trans0 hc7).mono (by simp)).trans hc8 (by simp)).set _ _ (.inr (Nat.le_refl _))⟩
  rw[AY _ _ _ _ (by omega)]
  exact h8
 ·rw[if_neg g5] at hp
  subst hp
  simp -dsimp (disch:=first|omega|(simp only[go_sem,seval];try omega))only[go_sem,seval,h1]
  exact⟨BX _ hl1,keS _,chS _,rfl⟩
theorem TT {w:World} {t:Nat} {T:Tm} (h:w.heap[t]?=some T.obj) (ok:T.E.ok) (r:Int) (hr:A9 r):Calls Tryz.prog 139 #[.pointer (some ⟨t,2,none⟩),.int .i32 r] w
  (Ac (GD t T (T.E.step r) w)):=by
 have hl:=Aa h
 have hr0:=hr.1
 have hr1:=hr.2
 apply RU
 intro K hK
 unfold JV
 simp -dsimp (disch:=first|omega|(simp only[go_sem,seval];try omega))only[go_sem,seval]
 obtain⟨w1,hw1⟩:∃w1,w1=w.alloc (.cells noA.cells.toArray 247):=⟨_,rfl⟩
 have hc1:Chg [] w w1:=by rw[hw1];exact AB _ _
 have ho1:w1.heap[w.heap.size]?=some (.cells noA.cells.toArray 247):=by rw[hw1];simp -dsimp (disch:=first|omega|(simp only[go_sem,seval];try omega))only[go_sem,seval]
 simp only[noA,Act'.cells] at hw1
 rw[←hw1]
 clear hw1
 have h1:=hc1.keep h (by simp)
 have hl1:=Aa h1
 have hlo:=Aa ho1
 have hz1:=hc1.size
 obtain⟨p,hp⟩:∃p,p=T.E.step r:=⟨_,rfl⟩
 rw[←hp] at hK
 unfold Esc.step at hp
 have fin:∀w4:World,EscR t w.heap.size T p w w4 →
   OpX Tryz.prog (.build 247 #[]) 247 (fun t76=>xS 247 (.pointer (some ⟨w.heap.size,0,none⟩)) t76 (xD 247 (.pointer (some ⟨w.heap.size,0,none⟩)) fun t4_1=>K (.tuple #[t4_1,.bool false]))) w4:=by
  rintro w4 ⟨a,b,c,d⟩
  have hl4:=Aa b
  simp -dsimp (disch:=first|omega|(simp only[go_sem,seval];try omega))only[go_sem,seval,b,noA]
  refine hK _ _ ⟨by rw[d];rfl,?_,c.set _ _ (.inr (Nat.le_refl _))⟩
  rw[AY _ _ _ _ (by omega)]
  exact a
 have chS:∀o:Obj,Chg [t] w (Ab w1 t o):=fun o=>(hc1.mono (by simp)).set _ _ (.inl (by simp))
 have keS:∀o:Obj,(Ab w1 t o).heap[w.heap.size]?=some (.cells noA.cells.toArray 247):=fun o=>by rw[AY _ _ _ _ (by omega)];exact ho1
 have same:p=(T.E,none)→EscR t w.heap.size T p w w1:=fun e=>by subst e;exact⟨h1,ho1,hc1.mono (by simp),rfl⟩
 have tell:∀(a:Act') (w4:World),p=(T.E,some a)→w4.heap[t]?=some T.obj→Chg [t] w w4→K (.tuple #[a.val,.bool true]) w4:=fun a w4 e b c=>hK _ _ ⟨by rw[e];rfl,by rw[e];exact b,c⟩
 have rst:∀(w4:World),(w4.heap[t]?=some ({ T with E:=Esc.new }:Tm).obj∧Chg [t] w1 w4)→p=(Esc.new,none)→EscR t w.heap.size T p w w4:=fun w4 h4 e=>by
  subst e
  exact⟨h4.1,h4.2.keep ho1 (by simp;omega),(hc1.mono (by simp)).trans h4.2 (by simp),rfl⟩
 refine BrW.dec (fun g1=>?_) (fun g1=>?_)
 ·rw[if_pos g1] at hp
  simp -dsimp (disch:=first|omega|(simp only[go_sem,seval];try omega))only[go_sem,seval,h1,ho1,noA]
  refine hK _ _ ⟨by rw[hp];rfl,?_,(chS _).set _ _ (.inr (Nat.le_refl _))⟩
  rw[AY _ _ _ _ (by omega),BX _ hl1,hp]
  rfl
 rw[if_neg g1] at hp
 refine Join1.cut (fun v w'=>v=.bool (decide (r=24∨r=26))∧w'=w1) ?_ ?_
 ·simp -dsimp (disch:=first|omega|(simp only[go_sem,seval];try omega))only[go_sem,seval]
  refine BrW.dec (fun g=>⟨congrArg Value.bool (decide_eq_true (by omega)).symm,rfl⟩) (fun g=>?_)
  simp -dsimp (disch:=first|omega|(simp only[go_sem,seval];try omega))only[go_sem,seval]
  exact congrArg Value.bool (decide_eq_decide.2 ⟨fun h=>.inr h,fun h=>by omega⟩)
 rintro v w2 ⟨rfl,rfl⟩
 refine BrW.dec (fun g2=>?_) (fun g2=>?_)
 ·rw[if_pos g2] at hp
  refine OpX.call Er rfl (Calls.ret (DP h1) ?_)
  rintro v w3 h3
  exact fin _ (rst _ h3 hp)
 rw[if_neg g2] at hp
 refine Join1.cut (fun v w'=>v=.bool (decide (r<0∨127≤r∧r≤159∨1114111<r))∧w'=w2) ?_ ?_
 ·have tr:(r<0∨127≤r∧r≤159∨1114111<r)→Value.bool true=Value.bool (decide (r<0∨127≤r∧r≤159∨1114111<r))∧w2=w2:=fun h=>⟨congrArg Value.bool (decide_eq_true h).symm,rfl⟩
  simp -dsimp (disch:=first|omega|(simp only[go_sem,seval];try omega))only[go_sem,seval]
  refine BrW.dec (fun a1=>tr (by omega)) (fun a1=>?_)
  simp -dsimp (disch:=first|omega|(simp only[go_sem,seval];try omega))only[go_sem,seval]
  refine BrW.dec (fun a2=>?_) (fun a2=>?_)
  ·simp -dsimp (disch:=first|omega|(simp only[go_sem,seval];try omega))only[go_sem,seval]
   refine BrW.dec (fun a3=>tr (by omega)) (fun a3=>?_)
   simp -dsimp (disch:=first|omega|(simp only[go_sem,seval];try omega))only[go_sem,seval]
   exact congrArg Value.bool (decide_eq_decide.2 ⟨fun h=>by omega,fun h=>by omega⟩)
  ·simp -dsimp (disch:=first|omega|(simp only[go_sem,seval];try omega))only[go_sem,seval]
   exact congrArg Value.bool (decide_eq_decide.2 ⟨fun h=>by omega,fun h=>by omega⟩)
 rintro v w3 ⟨rfl,rfl⟩
 refine BrW.dec (fun g3=>?_) (fun g3=>?_)
 ·rw[if_pos g3] at hp
  exact fin _ (same hp)
 rw[if_neg g3] at hp
 refine Join1.cut (fun v w'=>v=.bool (decide (r<32∧T.E.inn=4))∧w'=w3) ?_ ?_
 ·simp -dsimp (disch:=first|omega|(simp only[go_sem,seval];try omega))only[go_sem,seval]
  refine BrW.dec (fun g=>?_) (fun g=>⟨congrArg Value.bool (decide_eq_false (by omega)).symm,rfl⟩)
  simp -dsimp (disch:=first|omega|(simp only[go_sem,seval];try omega))only[go_sem,seval,h1]
  exact congrArg Value.bool (decide_eq_decide.2 ⟨fun h=>⟨g,h⟩,fun h=>h.2⟩)
 rintro v w4 ⟨rfl,rfl⟩
 refine BrW.dec (fun g4=>?_) (fun g4=>?_)
 ·rw[if_pos g4] at hp
  refine Join0.cut (EscR t w.heap.size T p w) ?_ (fun w5 hw5=>fin w5 hw5)
  simp -dsimp (disch:=first|omega|(simp only[go_sem,seval];try omega))only[go_sem,seval]
  refine BrW.dec (fun g5=>?_) (fun g5=>?_)
  ·rw[if_pos g5] at hp
   refine OpX.call Er rfl (Calls.ret (DP h1) ?_)
   rintro v w5 h5
   exact rst _ h5 hp
  ·rw[if_neg g5] at hp
   exact same hp
 rw[if_neg g4] at hp
 simp -dsimp (disch:=first|omega|(simp only[go_sem,seval];try omega))only[go_sem,seval]
 refine BrW.dec (fun g5=>?_) (fun g5=>?_)
 ·rw[if_pos g5] at hp
  simp -dsimp (disch:=first|omega|(simp only[go_sem,seval];try omega))only[go_sem,seval,noA,ho1]
  refine tell (CK 2 r 0 0 0 DM) _ hp ?_ ((hc1.mono (by simp)).set _ _ (.inr (Nat.le_refl _)))
  rw[AY _ _ _ _ (by omega)]
  exact h1
 rw[if_neg g5] at hp
 refine Join0.cut (EscR t w.heap.size T p w) ?_ (fun w5 hw5=>fin w5 hw5)
 simp -dsimp (disch:=first|omega|(simp only[go_sem,seval];try omega))only[go_sem,seval,h1]
 refine BrW.dec (fun g6=>?_) (fun g6=>?_)
 ·rw[if_pos g6] at hp
  simp -dsimp (disch:=first|omega|(simp only[go_sem,seval];try omega))only[go_sem,seval,noA,ho1]
  refine tell (CK 1 r 0 0 0 DM) _ hp ?_ ((hc1.mono (by simp)).set _ _ (.inr (Nat.le_refl _)))
  rw[AY _ _ _ _ (by omega)]
  exact h1
 rw[if_neg g6] at hp
 have told:∀(q:Esc × Option Act') (w5:World) (v:Value),p=q→GD t T q w4 v w5→∃a:Act',v=.tuple #[a.val,.bool q.2.isSome]∧K v (Ab w5 w.heap.size (.cells a.cells.toArray 247)):=by
  rintro q w5 v rfl ⟨rfl,b,c⟩
  have hb5:=c.keep ho1 (by simp;omega)
  refine⟨p.2.getD noA,rfl,hK _ _ ⟨rfl,?_,((hc1.mono (by simp)).trans c (by simp)).set _ _ (.inr (Nat.le_refl _))⟩⟩
  rw[AY _ _ _ _ (by omega)]
  exact b
 simp -dsimp (disch:=first|omega|(simp only[go_sem,seval];try omega))only[go_sem,seval]
 refine BrW.dec (fun g7=>?_) (fun g7=>?_)
 ·rw[if_pos g7] at hp
  refine OpX.call U5 rfl (Calls.ret (TZ h1 r) ?_)
  rintro v w5 hs
  have hb5:=hs.2.2.keep ho1 (by simp;omega)
  obtain⟨a,rfl,hk⟩:=told _ w5 v hp hs
  have hl5:=Aa hb5
  simp -dsimp (disch:=first|omega|(simp only[go_sem,seval];try omega))only[go_sem,seval,hb5,noA]
  exact hk
 rw[if_neg g7] at hp
 simp -dsimp (disch:=first|omega|(simp only[go_sem,seval];try omega))only[go_sem,seval]
 refine BrW.dec (fun g8=>?_) (fun g8=>?_)
 ·rw[if_pos g8] at hp
  refine OpX.call WD rfl (Calls.ret (Wu h1 ok r hr) ?_)
  rintro v w5 hs
  have hb5:=hs.2.2.keep ho1 (by simp;omega)
  obtain⟨a,rfl,hk⟩:=told _ w5 v hp hs
  have hl5:=Aa hb5
  simp -dsimp (disch:=first|omega|(simp only[go_sem,seval];try omega))only[go_sem,seval,hb5,noA]
  exact hk
 rw[if_neg g8] at hp
 simp -dsimp (disch:=first|omega|(simp only[go_sem,seval];try omega))only[go_sem,seval]
 refine BrW.dec (fun g9=>?_) (fun g9=>?_)
 ·rw[if_pos g9] at hp
  refine Join1.cut (fun v w'=>v=.bool (decide (64≤r∧r≤126))∧w'=w4) ?_ ?_
  ·simp -dsimp (disch:=first|omega|(simp only[go_sem,seval];try omega))only[go_sem,seval]
   refine BrW.dec (fun g=>?_) (fun g=>⟨congrArg Value.bool (decide_eq_false (by omega)).symm,rfl⟩)
   simp -dsimp (disch:=first|omega|(simp only[go_sem,seval];try omega))only[go_sem,seval]
   exact congrArg Value.bool (decide_eq_decide.2 ⟨fun h=>⟨g,h⟩,fun h=>h.2⟩)
  rintro v w5 ⟨rfl,rfl⟩
  refine BrW.dec (fun g10=>?_) (fun g10=>?_)
  ·rw[if_pos g10] at hp
   refine OpX.call Er rfl (Calls.ret (DP h1) ?_)
   rintro v w6 h6
   exact rst _ h6 hp
  ·rw[if_neg g10] at hp
   exact same hp
 ·rw[if_neg g9] at hp
  exact same hp
theorem UG {w:World} {t:Nat} {T:Tm} (h:w.heap[t]?=some T.obj) (ok:T.E.ok) {e:Option TypeId} {a:Option Addr} {l:List Int} (hs:Sx w e Dh a l) (hp:∀b o,a=some ⟨b,o,none⟩→l≠[]→b≠t) (cap:Nat) (hl:l.length≤1000000) (hr:∀x∈l,A9 x) :
  Calls Tryz.prog 101 #[.pointer (some ⟨t,2,none⟩),.slice a l.length cap] w
  (Ac fun v w'=>Ox w.heap.size w' 247 13 Act'.cells v (T.E.feed l).2∧w'.heap[t]?=some ({ T with E:=(T.E.feed l).1 }:Tm).obj∧Chg [t] w w'):=by
 have hlp:=Aa h
 apply Ty
 intro K hK
 unfold LC
 simp -dsimp (disch:=first|omega|(simp only[go_sem,seval];try omega))only[go_sem,seval]
 refine Loop2.st (fun s:Nat × Value=>s.2) (fun s=>.int .i64 s.1) (fun s w'=>s.1≤l.length∧Ox w.heap.size w' 247 13 Act'.cells s.2 (T.E.feed (l.take s.1)).2∧w'.heap[t]?=some ({ T with E:=(T.E.feed (l.take s.1)).1 }:Tm).obj∧Chg [t] w w') (fun s=>l.length-s.1) (0,.slice none 0 0) rfl rfl ⟨by simp,Ox.nil _ _ _ _ _,h,Chg.refl _ _⟩ ?_
 rintro next ⟨k,v⟩ w' hn ⟨hk,ho,hb',hc⟩
 dsimp only at hk ho hb' ⊢
 simp -dsimp (disch:=first|omega|(simp only[go_sem,seval];try omega))only[go_sem,seval]
 refine BrW.dec (fun h1=>?_) (fun h1=>?_)
 ·have hk':k<l.length:=by omega
  obtain⟨b,o,rfl,hbl,hcell⟩:=(hs.chg hc (fun b o ha hne=>by simp;exact hp b o ha hne)).get1 (g:=fun n=>.int .i32 n) (fun _=>rfl) (List.getElem?_eq_getElem hk')
  have hrr:=hr _ (List.getElem_mem hk')
  obtain⟨okE,-,hlq⟩:=Esc.feed_ok ok (l:=l.take k) (fun x hx=>hr x (List.mem_of_mem_take hx))
  have hlq':(T.E.feed (l.take k)).2.length≤1000000:=by rw[List.length_take] at hlq;omega
  have hfe:T.E.feed (l.take (k+1))=(((T.E.feed (l.take k)).1.step l[k]).1,(T.E.feed (l.take k)).2++((T.E.feed (l.take k)).1.step l[k]).2.toList):=by
   rw[CC hk',Esc.feed_append]
   simp [Esc.feed]
  obtain⟨F,hF⟩:∃F,F=T.E.feed (l.take k):=⟨_,rfl⟩
  rw[←hF] at ho hb' okE hfe hlq'
  obtain⟨p,hpp⟩:∃p,p=F.1.step l[k]:=⟨_,rfl⟩
  rw[←hpp] at hfe
  refine Join1.cut (fun u w2=>Ox w.heap.size w2 247 13 Act'.cells u (F.2++p.2.toList)∧w2.heap[t]?=some ({ T with E:=p.1 }:Tm).obj∧Chg [t] w w2) ?_ ?_
  ·simp -dsimp (disch:=first|omega|(simp only[go_sem,seval];try omega))only[go_sem,seval,hcell]
   refine OpX.call RH rfl (Calls.ret (TT hb' okE l[k] hrr) ?_)
   rintro v1 w1 hst
   dsimp only at hst
   rw[←hpp] at hst
   obtain⟨rfl,hb1,hc1⟩:=hst
   have ho1:=ho.low hc1 (by simp;omega)
   have hc01:=hc.trans hc1 (fun x hx=>.inl hx)
   have hz:=hc01.size
   obtain⟨A,hA⟩:∃A,A=p.2.getD noA:=⟨_,rfl⟩
   rw[←hA]
   simp -dsimp (disch:=first|omega|(simp only[go_sem,seval];try omega))only[go_sem,seval]
   obtain⟨w2,hw2⟩:∃w2,w2=Ab (w1.alloc (.cells noA.cells.toArray 247)) w1.heap.size (.cells A.cells.toArray 247):=⟨_,rfl⟩
   have hc2:Chg [] w1 w2:=by rw[hw2];exact(AB _ _).set _ _ (.inr (Nat.le_refl _))
   have hA2:w2.heap[w1.heap.size]?=some (.cells A.cells.toArray 247):=by rw[hw2];exact BX _ (by simp -dsimp (disch:=first|omega|(simp only[go_sem,seval];try omega))only[go_sem,seval];omega)
   simp only[noA,Act'.cells] at hw2
   rw[←hw2]
   clear hw2
   have hb2:=hc2.keep hb1 (by simp)
   have ho2:=ho1.chg0 hc2
   have hz2:=hc2.size
   cases hpo:p.2 with
   | none =>
    refine BrW.by (fun h=>by simp at h) (fun _=>⟨?_,hb2,hc01.trans0 hc2⟩)
    simpa using ho2
   | some A' =>
    rw[hpo] at hA
    have hA':A=A':=hA
    subst hA'
    refine BrW.by (fun _=>?_) (fun h=>by simp at h)
    simp -dsimp (disch:=first|omega|(simp only[go_sem,seval];try omega))only[go_sem,seval,hA2]
    refine BJ (l2:=[A]) ZU Act'.len Act'.ok (ho2.chg0 (AB _ _)) (Sx.built (c:=A.cells) (by simp -dsimp (disch:=first|omega|(simp only[go_sem,seval];try omega))only[go_sem,seval];rfl) (by simp)) rfl (by simp;omega) (by omega) (by simp -dsimp (disch:=first|omega|(simp only[go_sem,seval];try omega))only[go_sem,seval];omega) ?_
    intro v' w3 ho3 hc3 _
    have hca:Chg v.ownBlock.toList w2 w3:=((Chg.refl _ w2).alloc _).trans hc3 (fun x hx=>.inl hx)
    have hlow:=ho2.own_ge
    exact⟨ho3,hca.keep hb2 (fun hm=>by have:=hlow _ hm;omega),Kn ho2 (Nat.le_refl _) (hc01.trans0 hc2) hca⟩
  ·rintro u w2 ⟨ho2,hb2,hc2⟩
   have e1:(k:Int)+1=((k+1:Nat):Int):=by omega
   (try simp -dsimp (disch:=first|omega|(simp only[go_sem,seval];try omega))only[go_sem,seval,e1])
   refine hn (k+1,u) _ ⟨by dsimp only;omega,?_,?_,hc2⟩ (by dsimp only;omega)
   ·dsimp only;rw[hfe];exact ho2
   ·dsimp only;rw[hfe];exact hb2
 ·have:k=l.length:=by omega
  subst this
  rw[List.take_length] at ho hb'
  exact hK _ _ ⟨ho,hb',hc⟩
theorem Qh (l:List UInt8) (n:Nat):(Ap l)[n]?=l[n]?:=by
 by_cases h:n<l.length
 ·rw[getElem?_pos (Ap l) n (by simpa [Ap,ByteArray.size] using h),List.getElem?_eq_getElem h]
  rfl
 ·rw[getElem?_neg (Ap l) n (by simpa [Ap,ByteArray.size] using h),List.getElem?_eq_none (by omega)]
@[go_sem] theorem Vl (l:List UInt8) (i:Int):chL (Ap l) i=if 0≤i then(l[i.toNat]?).map fun b=>Value.int .u8 b.toNat else none:=by
 unfold chL
 rw[Qh]
theorem Ij (l:List UInt8) (i j:Nat):(Ap l).extract i j=Ap ((l.drop i).take (j-i)):=by
 apply ByteArray.ext
 simp [Ap,ByteArray.data_extract]
theorem YN (w:World) (s:List UInt8) (h:s≠[]) (hl:s.length≤1000000):Calls Tryz.prog 193 #[.string (Ap s)] w
  (Ac fun v w'=>v=.tuple #[.int .i32 (first s).1,.int .i64 (first s).2.1,.bool (first s).2.2]∧w'=w):=by
 obtain⟨b,l,rfl⟩:∃b l,s=b::l:=by cases s with|nil=>exact absurd rfl h|cons b l=>exact⟨b,l,rfl⟩
 have hb:=b.toNat_lt
 obtain⟨p,hp⟩:∃p,p=first (b::l):=⟨_,rfl⟩
 rw[←hp]
 unfold first at hp
 simp only[List.getElem?_cons_zero] at hp
 apply Xh
 intro K hK
 unfold Jn
 simp -dsimp (disch:=first|omega|(simp only[go_sem,seval];try omega))only[go_sem,seval]
 refine Join2.cutK (fun v0 v1 w'=>v0=.int .i32 (C6 b.toNat)∧v1=.int .i64 (Bc b.toNat)∧Bc b.toNat≠0∧¬b.toNat≤127∧w'=w) ?_ ?_
 ·intro k1 hk1
  simp -dsimp (disch:=first|omega|(simp only[go_sem,seval];try omega))only[go_sem,seval]
  refine BrW.dec (fun g=>?_) (fun g=>?_)
  ·rw[if_pos (by omega)] at hp
   subst hp
   simp -dsimp (disch:=first|omega|(simp only[go_sem,seval];try omega))only[go_sem,seval]
   exact hK _ _ ⟨rfl,rfl⟩
  have g':¬b.toNat≤127:=by omega
  rw[if_neg g'] at hp
  refine Join1.cut (fun v w'=>v=.bool (decide (194≤b.toNat∧b.toNat≤223))∧w'=w) ?_ ?_
  ·simp -dsimp (disch:=first|omega|(simp only[go_sem,seval];try omega))only[go_sem,seval]
   refine BrW.dec (fun g=>?_) (fun g=>⟨congrArg Value.bool (decide_eq_false (by omega)).symm,rfl⟩)
   simp -dsimp (disch:=first|omega|(simp only[go_sem,seval];try omega))only[go_sem,seval]
   exact congrArg Value.bool (decide_eq_decide.2 ⟨fun h=>by omega,fun h=>by omega⟩)
  rintro v w1 ⟨rfl,rfl⟩
  refine BrW.dec (fun g1=>?_) (fun g1=>?_)
  ·have hm:Bc b.toNat=1:=by unfold Bc;rw[if_pos g1]
   simp -dsimp (disch:=first|omega|(simp only[go_sem,seval];try omega))only[go_sem,seval]
   refine hk1 _ _ _ ⟨?_,by rw[hm];rfl,by omega,g',rfl⟩
   unfold C6
   rw[hm]
   rfl
  refine Join1.cut (fun v w'=>v=.bool (decide (224≤b.toNat∧b.toNat≤239))∧w'=w1) ?_ ?_
  ·simp -dsimp (disch:=first|omega|(simp only[go_sem,seval];try omega))only[go_sem,seval]
   refine BrW.dec (fun g=>?_) (fun g=>⟨congrArg Value.bool (decide_eq_false (by omega)).symm,rfl⟩)
   simp -dsimp (disch:=first|omega|(simp only[go_sem,seval];try omega))only[go_sem,seval]
   exact congrArg Value.bool (decide_eq_decide.2 ⟨fun h=>by omega,fun h=>by omega⟩)
  rintro v w2 ⟨rfl,rfl⟩
  refine BrW.dec (fun g2=>?_) (fun g2=>?_)
  ·have hm:Bc b.toNat=2:=by unfold Bc;rw[if_neg g1,if_pos g2]
   simp -dsimp (disch:=first|omega|(simp only[go_sem,seval];try omega))only[go_sem,seval]
   refine hk1 _ _ _ ⟨?_,by rw[hm];rfl,by omega,g',rfl⟩
   unfold C6
   rw[hm]
   rfl
  refine Join1.cut (fun v w'=>v=.bool (decide (240≤b.toNat∧b.toNat≤244))∧w'=w2) ?_ ?_
  ·simp -dsimp (disch:=first|omega|(simp only[go_sem,seval];try omega))only[go_sem,seval]
   refine BrW.dec (fun g=>?_) (fun g=>⟨congrArg Value.bool (decide_eq_false (by omega)).symm,rfl⟩)
   simp -dsimp (disch:=first|omega|(simp only[go_sem,seval];try omega))only[go_sem,seval]
   exact congrArg Value.bool (decide_eq_decide.2 ⟨fun h=>by omega,fun h=>by omega⟩)
  rintro v w3 ⟨rfl,rfl⟩
  refine BrW.dec (fun g3=>?_) (fun g3=>?_)
  ·have hm:Bc b.toNat=3:=by unfold Bc;rw[if_neg g1,if_neg g2,if_pos g3]
   simp -dsimp (disch:=first|omega|(simp only[go_sem,seval];try omega))only[go_sem,seval]
   refine hk1 _ _ _ ⟨?_,by rw[hm];rfl,by omega,g',rfl⟩
   unfold C6
   rw[hm]
   rfl
  ·have hm:Bc b.toNat=0:=by unfold Bc;rw[if_neg g1,if_neg g2,if_neg g3]
   rw[if_pos hm] at hp
   subst hp
   exact hK _ _ ⟨rfl,rfl⟩
 rintro v0 v1 w1 ⟨rfl,rfl,hm,h127,rfl⟩
 rw[if_neg h127,if_neg hm] at hp
 refine Join2.cutK (fun v0 v1 w'=>v0=.int .u8 (DY b.toNat)∧v1=.int .u8 (D8 b.toNat)∧w'=w1) ?_ ?_
 ·intro k5 hk5
  unfold DY D8 at hk5
  simp -dsimp (disch:=first|omega|(simp only[go_sem,seval];try omega))only[go_sem,seval]
  refine BrW.dec (fun g=>?_) (fun g=>?_)
  ·exact hk5 _ _ _ ⟨by rw[if_pos (by omega)];rfl,by rw[if_neg (by omega),if_neg (by omega)];rfl,rfl⟩
  simp -dsimp (disch:=first|omega|(simp only[go_sem,seval];try omega))only[go_sem,seval]
  refine BrW.dec (fun g1=>?_) (fun g1=>?_)
  ·exact hk5 _ _ _ ⟨by rw[if_neg (by omega),if_neg (by omega)];rfl,by rw[if_pos (by omega)];rfl,rfl⟩
  simp -dsimp (disch:=first|omega|(simp only[go_sem,seval];try omega))only[go_sem,seval]
  refine BrW.dec (fun g2=>?_) (fun g2=>?_)
  ·exact hk5 _ _ _ ⟨by rw[if_neg (by omega),if_pos (by omega)];rfl,by rw[if_neg (by omega),if_neg (by omega)];rfl,rfl⟩
  simp -dsimp (disch:=first|omega|(simp only[go_sem,seval];try omega))only[go_sem,seval]
  refine BrW.dec (fun g3=>?_) (fun g3=>?_)
  ·exact hk5 _ _ _ ⟨by rw[if_neg (by omega),if_neg (by omega)];rfl,by rw[if_neg (by omega),if_pos (by omega)];rfl,rfl⟩
  ·exact hk5 _ _ _ ⟨by rw[if_neg (by omega),if_neg (by omega)];rfl,by rw[if_neg (by omega),if_neg (by omega)];rfl,rfl⟩
 rintro v2 v3 w2 ⟨rfl,rfl,rfl⟩
 have hm3:Bc b.toNat≤3:=by unfold Bc;split<;>(try split)<;>(try split)<;>omega
 refine Loop4.st (fun q:Int × Nat × Nat × Nat=>.int .i32 q.1) (fun q=>.int .i64 q.2.1) (fun q=>.int .u8 q.2.2.1) (fun q=>.int .u8 q.2.2.2)
  (fun q w'=>w'=w2∧q.2.1≤l.length+1∧q.2.1≤Bc b.toNat+1∧q.2.2.1≤255∧q.2.2.2≤255∧A9 q.1∧p=BI (b::l) (Bc b.toNat+1-q.2.1) q.1 q.2.1 q.2.2.1 q.2.2.2) (fun q=>10-q.2.1)
  (C6 b.toNat,1,DY b.toNat,D8 b.toNat) rfl rfl rfl rfl ⟨rfl,by dsimp only;omega,by dsimp only;omega,by dsimp only;unfold DY;split<;>(try split)<;>omega,by dsimp only;unfold D8;split<;>(try split)<;>omega,MK _,hp⟩ ?_
 rintro next ⟨r,n,lo,hi⟩ w3 hn ⟨rfl,hnl,hn1,hlo,hhi,hr,hpq⟩
 dsimp only at hnl hn1 hlo hhi hr hpq ⊢
 simp -dsimp (disch:=first|omega|(simp only[go_sem,seval];try omega))only[go_sem,seval]
 refine BrW.dec (fun g=>?_) (fun g=>?_)
 ·obtain⟨k,hk⟩:∃k,Bc b.toNat+1-n=k+1:=⟨Bc b.toNat-n,by omega⟩
  rw[hk] at hpq
  unfold BI at hpq
  simp -dsimp (disch:=first|omega|(simp only[go_sem,seval];try omega))only[go_sem,seval]
  refine BrW.dec (fun g1=>?_) (fun g1=>?_)
  ·have hnone:(b::l)[n]?=none:=List.getElem?_eq_none (by rw[List.length_cons];omega)
   rw[hnone] at hpq
   subst hpq
   exact hK _ _ ⟨rfl,rfl⟩
  ·have hlt:n<(b::l).length:=by rw[List.length_cons];omega
   obtain⟨c,hc⟩:∃c,(b::l)[n]?=some c:=⟨_,List.getElem?_eq_getElem hlt⟩
   have hcb:=c.toNat_lt
   rw[hc] at hpq
   dsimp only at hpq
   simp -dsimp (disch:=first|omega|(simp only[go_sem,seval];try omega))only[go_sem,seval,hc]
   refine Join1.cut (fun v w'=>v=.bool (decide (c.toNat<lo∨hi<c.toNat))∧w'=w3) ?_ ?_
   ·simp -dsimp (disch:=first|omega|(simp only[go_sem,seval];try omega))only[go_sem,seval]
    refine BrW.dec (fun g=>⟨congrArg Value.bool (decide_eq_true (by omega)).symm,rfl⟩) (fun g=>?_)
    simp -dsimp (disch:=first|omega|(simp only[go_sem,seval];try omega))only[go_sem,seval]
    exact congrArg Value.bool (decide_eq_decide.2 ⟨fun h=>by omega,fun h=>by omega⟩)
   rintro v w4 ⟨rfl,rfl⟩
   refine BrW.dec (fun g2=>?_) (fun g2=>?_)
   ·rw[if_pos g2] at hpq
    subst hpq
    exact hK _ _ ⟨rfl,rfl⟩
   ·rw[if_neg g2] at hpq
    have e1:(n:Int)+1=((n+1:Nat):Int):=by omega
    simp -dsimp (disch:=first|omega|(simp only[go_sem,seval];try omega))only[go_sem,seval,e1]
    refine hn (Gt r c,n+1,128,191) _ ⟨rfl,by dsimp only;rw[List.length_cons] at hlt;omega,by dsimp only;omega,by dsimp only;omega,by dsimp only;omega,MC _ _,?_⟩ (by dsimp only;omega)
    dsimp only
    rw[hpq,show Bc b.toNat+1-(n+1)=k by omega]
 ·have hk:Bc b.toNat+1-n=0:=by omega
  rw[hk] at hpq
  subst hpq
  exact hK _ _ ⟨rfl,rfl⟩
theorem Pf (w:World) (s:List UInt8) (hl:s.length≤1000000):Calls Tryz.prog 140 #[.string (Ap s)] w
  (Ac fun v w'=>∃u,v=.tuple #[u,.string (Ap (dec s).2)]∧Ox w.heap.size w' 21 1 Dh u (dec s).1∧Chg [] w w'):=by
 apply VG
 intro K hK
 unfold MM
 refine Join2.cut (fun v0 v1 w'=>v0=.string (Ap (dec s).2)∧Ox w.heap.size w' 21 1 Dh v1 (dec s).1∧Chg [] w w') ?_ ?_
 ·refine Loop2.st (fun q:List UInt8 × Value × List Int=>.string (Ap q.1)) (fun q=>q.2.1) (fun q w'=>q.1.length≤s.length∧Ox w.heap.size w' 21 1 Dh q.2.1 q.2.2∧q.2.2.length+q.1.length≤s.length∧dec s=(q.2.2++(dec q.1).1,(dec q.1).2)∧Chg [] w w') (fun q=>q.1.length) (s,.slice none 0 0,[]) rfl rfl ⟨Nat.le_refl _,Ox.nil _ _ _ _ _,by simp,by simp,Chg.refl _ _⟩ ?_
  rintro next ⟨q,u,l⟩ w1 hn ⟨hq,ho,hlq,hd,hc⟩
  dsimp only at hq ho hlq hd ⊢
  simp -dsimp (disch:=first|omega|(simp only[go_sem,seval];try omega))only[go_sem,seval]
  refine BrW.dec (fun g=>?_) (fun g=>?_)
  ·have hne:q≠[]:=by rintro rfl;simp at g
   have hf:=D7 q hne
   refine OpX.call YC rfl (Calls.ret (YN w1 q hne (by omega)) ?_)
   rintro v w2 ⟨rfl,rfl⟩
   simp -dsimp (disch:=first|omega|(simp only[go_sem,seval];try omega))only[go_sem,seval]
   cases hop:(first q).2.2 with
   | true =>
    refine BrW.by (fun _=>?_) (fun h=>by simp at h)
    rw[Fi hne hop] at hd
    rw[hd]
    exact⟨rfl,by simpa using ho,hc⟩
   | false =>
    refine BrW.by (fun h=>by simp at h) (fun _=>?_)
    rw[E8 hne hop] at hd
    have hz:=hc.size
    simp -dsimp (disch:=first|omega|(simp only[go_sem,seval];try omega))only[go_sem,seval]
    refine BJ (l2:=[(first q).1]) Wq Yi UO (ho.chg0 (AB _ _)) (Sx.built (c:=Dh (first q).1) (by simp -dsimp (disch:=first|omega|(simp only[go_sem,seval];try omega))only[go_sem,seval];rfl) (by simp)) rfl (by simp;omega) (by omega) (by simp -dsimp (disch:=first|omega|(simp only[go_sem,seval];try omega))only[go_sem,seval];omega) ?_
    intro v' w3 ho3 hc3 _
    have hca:Chg u.ownBlock.toList w2 w3:=((Chg.refl _ w2).alloc _).trans hc3 (fun x hx=>.inl hx)
    simp -dsimp (disch:=first|omega|(simp only[go_sem,seval];try omega))only[go_sem,seval,Ij]
    rw[List.take_of_length_le (by rw[List.length_drop];exact Nat.le_refl _)]
    refine hn (q.drop (first q).2.1,v',l++[(first q).1]) _ ⟨by dsimp only;rw[List.length_drop];omega,ho3,by dsimp only;rw[List.length_append,List.length_singleton,List.length_drop];omega,?_,Kn ho (Nat.le_refl _) hc hca⟩ (by dsimp only;rw[List.length_drop];omega)
    dsimp only
    rw[hd]
    simp
  ·have:q=[]:=List.eq_nil_of_length_eq_zero (by omega)
   subst this
   rw[GY] at hd
   rw[hd]
   exact⟨rfl,by simpa using ho,hc⟩
 ·rintro v0 v1 w1 ⟨rfl,ho,hc⟩
  exact hK _ _ ⟨v1,rfl,ho,hc⟩
theorem Yd (w:World) (s:List UInt8) (hl:s.length≤1000000):Calls Tryz.prog 141 #[.string (Ap s)] w
  (Ac fun v w'=>v=.string (Ap s)∧Chg [] w w'):=by
 apply Tg
 intro K hK
 unfold Kt
 have hc:Calls Tryz.prog 194 #[.string (Ap s)] w (Ac fun v w'=>v=.string (Ap s)∧Chg [] w w'):=by
  refine(Tryz.stringslite_Clone (Ap s) w (by rw[Oj];omega)).mono fun e w' h=>?_
  obtain⟨rfl,hb⟩:=h
  exact⟨rfl,hb.os,hb.tape,hb.output,hb.size,fun b hb' _=>hb.block b hb'⟩
 refine OpX.call Tb rfl (Calls.ret (hc) ?_)
 rintro v w1 ⟨rfl,hc1⟩
 exact hK _ _ ⟨rfl,hc1⟩
theorem SD {w:World} {t:Nat} {T:Tm} (h:w.heap[t]?=some T.obj) (hk:T.kept.length≤4) (s:List UInt8) (hl:s.length≤10000):Calls Tryz.prog 102 #[.pointer (some ⟨t,1,none⟩),.string (Ap s)] w
  (Ac fun v w'=>Ox w.heap.size w' 21 1 Dh v (dec (T.kept++s)).1∧w'.heap[t]?=some ({ T with kept:=(dec (T.kept++s)).2 }:Tm).obj∧Chg [t] w w'):=by
 have hl0:=Aa h
 apply VF
 intro K hK
 unfold Ke
 simp -dsimp (disch:=first|omega|(simp only[go_sem,seval];try omega))only[go_sem,seval,h]
 refine OpX.call RI rfl (Calls.ret (Pf w (T.kept++s) (by rw[List.length_append];omega)) ?_)
 rintro v w1 ⟨u,rfl,ho,hc1⟩
 have hd:=MB (T.kept++s)
 have h1:=hc1.keep h (by simp)
 simp -dsimp (disch:=first|omega|(simp only[go_sem,seval];try omega))only[go_sem,seval]
 refine OpX.call XS rfl (Calls.ret (Yd w1 _ (by omega)) ?_)
 rintro v w2 ⟨rfl,hc2⟩
 have h2:=hc2.keep h1 (by simp)
 have hl2:=Aa h2
 have ho2:=ho.chg0 hc2
 simp -dsimp (disch:=first|omega|(simp only[go_sem,seval];try omega))only[go_sem,seval,h2]
 refine hK _ _ ⟨ho2.low (F:=[t]) ((Chg.refl _ _).set _ _ (by simp)) (by simp;omega),?_,((hc1.trans0 hc2).mono (by simp)).set _ _ (.inl (by simp))⟩
 rw[BX _ hl2]
 rfl
end Go.Proofs.YtelplojmbjnplaaGreatDoor
namespace Lyc
open Go
section
variable {P:Program} {α:Type}
theorem Ri {t t' ty e:TypeId} {m base:Nat} {f:α→List Value} {v:Value} {l l2:List α} {a:Option Addr} {k c:Nat} {e':Option TypeId} {K:Value→World→Prop} {w:World}
  (ht:AJ P t=some m) (hf:∀x,(f x).length=m) (hok:∀x,AO (f x)=true) (h:Ox base w e m f v l) (hs:Sx w e' f a l2) (hk:k=l2.length) (hl1:l≠[]) (hl2:l2≠[])
  (hK:∀w',Ox base w' e m f v (l2.take l.length++l.drop l2.length)→Chg v.ownBlock.toList w w'→K (.int .i64 (min l2.length l.length:Nat)) w') :
  OpX P (.call { callee:=.builtin .copy,args:=#[.const v,.const (.slice a k c)],argTypes:=#[t,t'] }) ty K w:=by
 subst hk
 obtain⟨b,o,c',e2,fr,pre,post,h1,h2,h3,h4,h5⟩:=hs.at_ hl2
 subst h1
 obtain⟨hl,h⟩:=h
 rcases h with ⟨rfl,h9⟩|⟨g,cap,cur,rfl,hb,hg,hn,hm,hsz',htk⟩
 ·exact absurd (List.eq_nil_of_length_eq_zero (by omega)) hl1
 ·have hcur:cur.toList=(l.take (min l2.length l.length)).flatMap f++((l.drop (min l2.length l.length)).flatMap f++cur.toList.drop (l.length*m)):=by
   rw[←List.append_assoc,←List.flatMap_append,List.take_append_drop,←htk];simp
  have hll:(l2.take (min l2.length l.length)).length=min l2.length l.length:=by rw[List.length_take];omega
  have hp:=Dk [] ((l.take (min l2.length l.length)).flatMap f) ((l2.take (min l2.length l.length)).flatMap f) ((l.drop (min l2.length l.length)).flatMap f++cur.toList.drop (l.length*m)) e 0 rfl (by rw[AD hf,AD hf,hll,List.length_take];congr 1;omega)
  rw[List.nil_append,←hcur] at hp
  have eL:l2.take l.length++l.drop l2.length=l2.take (min l2.length l.length)++l.drop (min l2.length l.length):=by
   rcases Nat.le_total l2.length l.length with hle|hle
   ·rw[Nat.min_eq_left hle,List.take_of_length_le hle,List.take_of_length_le (Nat.le_refl _)]
   ·rw[Nat.min_eq_right hle,List.drop_of_length_le hle,List.drop_of_length_le (Nat.le_refl _)]
  rw[Iz (cs:=(l2.take (min l2.length l.length)).flatMap f) (x':=_) ht (by rw[AD hf,hll]) ?_ (CG hok _) (by rw[hg];exact hp)]
  ·refine hK _ ?_ ((Chg.refl _ _).set _ _ (by simp [Value.ownBlock]))
   rw[eL]
   have hlen:(l2.take (min l2.length l.length)++l.drop (min l2.length l.length)).length=l.length:=by simp;omega
   have hsz2:=congrArg List.length hcur
   simp [AD hf] at hsz2
   refine⟨AD hf _,.inr ⟨g,cap,_,by rw[hlen],hb,Ar _ _ _ _ rfl (Aa hg),by omega,hm,?_,?_⟩⟩
   ·simp [AD hf]
    omega
   ·rw[hlen]
    have e9:([]++(l2.take (min l2.length l.length)).flatMap f++((l.drop (min l2.length l.length)).flatMap f++cur.toList.drop (l.length*m)))=(l2.take (min l2.length l.length)++l.drop (min l2.length l.length)).flatMap f++cur.toList.drop (l.length*m):=by simp
    show([]++(l2.take (min l2.length l.length)).flatMap f++((l.drop (min l2.length l.length)).flatMap f++cur.toList.drop (l.length*m))).take _=_
    rw[e9,List.take_append_of_le_length (by rw[AD hf,hlen];exact Nat.le_refl _),List.take_of_length_le (by rw[AD hf,hlen];exact Nat.le_refl _)]
  ·intro j u hj
   rw[h2,h4,Cv]
   have hj':=(List.getElem?_eq_some_iff.1 hj).1
   have hle:((l2.take (min l2.length l.length)).flatMap f).length≤(l2.flatMap f).length:=by rw[AD hf,AD hf,hll];exact Nat.mul_le_mul_right _ (Nat.min_le_left _ _)
   have hfl:l2.flatMap f=(l2.take (min l2.length l.length)).flatMap f++(l2.drop (min l2.length l.length)).flatMap f:=by rw[←List.flatMap_append,List.take_append_drop]
   rw[List.getElem?_toArray,List.append_assoc,List.getElem?_append_right (by omega),List.getElem?_append_left (by omega),hfl,List.getElem?_append_left (by omega)]
   rw[←hj];congr 1;omega
end
end Lyc
namespace Go.Proofs.YtelplojmbjnplaaGreatDoor
open Lyc Go
def Cc (n:Nat) (l:List Cel):List Cel:=l.take n++List.replicate (n-l.length) Cel.blank
theorem G1 (n:Nat) (l:List Cel):(Cc n l).length=n:=by simp [Cc];omega
theorem QJ {w:World} {e:Option TypeId} {a:Option Addr} {l:List Cel} (hs:SxC w e a l) (cap:Nat) (hl0:0<l.length) (hl:l.length≤1000) (n:Nat) (hn0:0<n) (hn:n≤1000):Calls Tryz.prog 118 #[.slice a l.length cap,.int .i64 n] w
  (Ac fun v w'=>Ox w.heap.size w' 167 4 Cel.cells v (AL (Cc n l))∧Chg [] w w'):=by
 apply R7
 intro K hK
 unfold O4
 refine Iu (f:=Cel.cells) Cel.none Et Cel.len rfl (by omega) (by omega) (by omega) (Nat.le_refl _) ?_
 intro w1 hw1 ho1
 have hc1:Chg [] w w1:=by rw[hw1];exact AB _ _
 refine Ri (t:=57) C5 Cel.len Cel.ok ho1 (hs.chg0 hc1) rfl (by intro h;have:=congrArg List.length h;simp at this;omega) (by intro h;simp [h] at hl0) ?_
 intro w2 ho2 hc3
 have hc2:=GG ho1 hc1 hc3
 rw[List.length_replicate] at ho2 ⊢
 have hfl:=G1 n l
 have e0:l.take n++(List.replicate n Cel.none).drop l.length=(Cc n l).take (min l.length n)++List.replicate (n-min l.length n) Cel.none:=by
  rw[List.drop_replicate,show n-min l.length n=n-l.length by omega]
  unfold Cc
  rw[List.take_append_of_le_length (by rw[List.length_take];omega),List.take_take]
  rw[show min (min l.length n) n=min l.length n by omega]
  congr 1
  rcases Nat.le_total l.length n with h|h
  ·rw[Nat.min_eq_left h,List.take_of_length_le h,List.take_of_length_le (Nat.le_refl _)]
  ·rw[Nat.min_eq_right h]
 rw[e0] at ho2
 refine Loop1.st (fun x:Nat=>.int .i64 (x:Int)) (fun x w'=>l.length≤x+(l.length-n)∧min l.length n≤x∧x≤n∧Chg [] w w'∧Ox w.heap.size w' 167 4 Cel.cells (.slice (some ⟨w.heap.size,0,none⟩) n n) ((Cc n l).take x++List.replicate (n-x) Cel.none)) (fun x=>n-x) (min l.length n) rfl ⟨by omega,Nat.le_refl _,by omega,hc2,ho2⟩ ?_
 rintro next x w3 hnx ⟨hx0,hx1,hx,hc,ho⟩
 simp -dsimp (disch:=first|omega|(simp only[go_sem,seval];try omega))only[go_sem,seval]
 refine BrW.dec (fun g=>?_) (fun g=>?_)
 ·refine OpX.call Ew rfl (Calls.ret (Fa _) ?_)
  rintro v w4 ⟨rfl,hc4⟩
  have hlen:((Cc n l).take x++List.replicate (n-x) Cel.none).length=n:=by simp [hfl];omega
  obtain⟨g7,cap7,x7,hv7,hg7b,hg7l,hput7,hox7⟩:=(ho.chg0 hc4).put Cel.len (i:=x) (by rw[hlen];omega) Cel.blank
  rw[Value.slice.injEq] at hv7
  obtain⟨hv7,-,rfl⟩:=hv7
  simp only[Option.some.injEq,Addr.mk.injEq,and_true] at hv7
  subst hv7
  have hput7':Ay w4.heap[w.heap.size]? (x*4) [.int .i32 Cel.blank.r,.int .u8 Cel.blank.fg.toNat,.int .u8 Cel.blank.bg.toNat,.int .u8 Cel.blank.a.toNat]=some x7:=hput7
  have e1:(x:Int)+1=((x+1:Nat):Int):=by omega
  simp -dsimp (disch:=first|omega|(simp only[go_sem,seval];try omega))only[go_sem,seval,hput7',e1,Cel.val]
  refine hnx (x+1) _ ⟨by omega,by omega,by omega,(hc.trans0 hc4).set _ _ (.inr hg7b),?_⟩ (by omega)
  have e9:((Cc n l).take x++List.replicate (n-x) Cel.none).set x Cel.blank=(Cc n l).take (x+1)++List.replicate (n-(x+1)) Cel.none:=by
   have hb:(Cc n l)[x]?=some Cel.blank:=by
    unfold Cc
    rw[List.getElem?_append_right (by rw[List.length_take];omega),List.getElem?_replicate]
    rw[if_pos (by rw[List.length_take];omega)]
   rw[List.set_append_right _ _ (by rw[List.length_take];omega),List.length_take,hfl,show x-min x n=0 by omega,show n-x=(n-(x+1))+1 by omega,List.replicate_succ,List.set_cons_zero]
   rw[List.take_add_one,hb]
   simp
  rw[e9] at hox7
  exact hox7
 ·have hxn:x=n:=by omega
  subst hxn
  rw[Nat.sub_self,List.replicate_zero,List.append_nil,List.take_of_length_le (by omega)] at ho
  obtain⟨a2,cap2,hv,-,hs2,-⟩:=ho.form
  rw[Value.slice.injEq] at hv
  obtain⟨rfl,-,rfl⟩:=hv
  have hm:=II hs2 x (by omega)
  rw[hfl] at hm
  refine OpX.call H8 rfl (Calls.ret (hm) ?_)
  rintro v w4 ⟨ho4,hc4⟩
  exact hK _ _ ⟨ho4.base_le hc.size,hc.trans0 hc4⟩
def Bv (g:Gr) (L:List (List Cel)) (first y:Nat):List Cel:=if first+y<L.length then AL (Cc g.w (L.getD (first+y) [])) else g.row (first+y-L.length)
theorem Q5 {w:World} {h:Nat} {H:Hs} (hh:HAt w h H) {g:Gr} (hg:g.ok) (hr:g.right=true) {e:Option TypeId} {a:Option Addr} (hs:SxC w e a g.cs) (cap:Nat) (hcap:g.cs.length≤cap) (hrows:∀l∈H.list,0<l.length∧l.length≤1000) (back:Int) :
  Calls Tryz.prog 70 #[.pointer (some ⟨h,0,none⟩),g.val a cap,.int .i64 back] w
  (Ac fun v w'=>GAt w.heap.size w' v (Gr.of g.w g.h (Bv g H.list (H.list.length-min back.toNat H.list.length)))∧Chg [] w w'):=by
 have hh1:=hg.h1
 have hw1:=hg.w1
 have hroom:=hh.room1
 have hfit:=hh.fit
 have hll:=H.list_len
 apply Y4
 intro K hK
 unfold NA
 simp -dsimp (disch:=first|omega|(simp only[go_sem,seval];try omega))only[go_sem,seval,Gr.val]
 refine OpX.gen fun w0 hw0=>?_
 have hc0:Chg [] w w0:=by rw[hw0];exact BY _ _ _
 have hg0:w0.heap[w.heap.size]?=some (.cells #[.int .i64 g.w,.int .i64 g.h,.slice a g.cs.length cap] 59):=by rw[hw0];simp -dsimp (disch:=first|omega|(simp only[go_sem,seval];try omega))only[go_sem,seval]
 have ho0:w0.heap[w.heap.size+1]?=some (.cells #[.int .i64 0,.int .i64 0,.slice none 0 0] 59):=by rw[hw0];simp -dsimp (disch:=first|omega|(simp only[go_sem,seval];try omega))only[go_sem,seval]
 clear hw0
 refine OpX.call Df rfl (Calls.ret (Db hg (hs.chg0 hc0) cap hcap) ?_)
 rintro v w1 ⟨rfl,hc1⟩
 rw[hr]
 simp -dsimp (disch:=first|omega|(simp only[go_sem,seval];try omega))only[go_sem,seval]
 refine OpX.call ME rfl (Calls.ret (Na ((hh.chg0 hc0).chg0 hc1)) ?_)
 rintro v w2 ⟨rfl,rfl⟩
 simp -dsimp (disch:=first|omega|(simp only[go_sem,seval];try omega))only[go_sem,seval]
 have hc02:=hc0.trans0 hc1
 have hg2:=hc1.keep hg0 (by simp)
 have ho2:=hc1.keep ho0 (by simp)
 have hlo:=Aa ho2
 have hm:(g.w:Int)*(g.h:Int)=(g.cs.length:Int):=by rw[hg.len];simp
 have hle:=hg.le
 refine Join1.cut (fun v w'=>Chg [] w2 w'∧∃t9 sb,v=.pointer (some ⟨t9,0,none⟩)∧w2.heap.size≤t9∧w'.heap[t9]?=some (.cells #[.int .i64 g.w,.int .i64 g.h,.slice (some ⟨sb,0,none⟩) 0 g.cs.length] 59)∧Ox w2.heap.size w' 167 4 Cel.cells (.slice (some ⟨sb,0,none⟩) 0 g.cs.length) []) ?_ ?_
 ·simp -dsimp (disch:=first|omega|(simp only[go_sem,seval];try omega))only[go_sem,seval,hg2,hm]
  refine⟨?_,?_⟩
  ·refine MZ (f:=Cel.cells) Et rfl (by omega) (by omega) (by omega) (by omega) (show w2.heap.size≤w2.drew.heap.size from Nat.le_refl _) ?_
   intro w3 hw3 ho3
   have hc3:Chg [] w2 w3:=by rw[hw3];exact(Chg.refl _ _).drew.alloc _
   rw[Int.toNat_natCast] at ho3 ⊢
   have hg3:=hc3.keep hg2 (by simp)
   have hz3:w3.heap.size=w2.heap.size+1:=by rw[hw3];simp -dsimp (disch:=first|omega|(simp only[go_sem,seval];try omega))only[go_sem,seval]
   clear hw3
   simp -dsimp (disch:=first|omega|(simp only[go_sem,seval];try omega))only[go_sem,seval,hg3]
   exact⟨hc3.alloc _,w3.heap.size,_,rfl,by omega,Lyc.heap_alloc_new _ _ _ rfl,ho3.chg0 (AB _ _)⟩
  ·have hca:=(Chg.refl [] w2).drew.alloc (.cells #[.int .i64 0,.int .i64 0,.slice none 0 0] 59)
   refine MZ (f:=Cel.cells) Et rfl (by omega) (by omega) (by omega) (by omega) (show w2.heap.size≤_ from hca.size) ?_
   intro w3 hw3 ho3
   have hc3:Chg [] w2 w3:=by rw[hw3];exact hca.alloc _
   rw[Int.toNat_natCast] at ho3 ⊢
   have hg3:=hc3.keep hg2 (by simp)
   have ht3:w3.heap[w2.heap.size]?=some (.cells #[.int .i64 0,.int .i64 0,.slice none 0 0] 59):=by rw[hw3];simp -dsimp (disch:=first|omega|(simp only[go_sem,seval];try omega))only[go_sem,seval]
   have hz:((w2.alloc (.cells #[.int .i64 0,.int .i64 0,.slice none 0 0] 59)).drew).heap.size=w2.heap.size+1:=by simp -dsimp (disch:=first|omega|(simp only[go_sem,seval];try omega))only[go_sem,seval]
   have hl3:=Aa ht3
   clear hw3
   rw[hz] at ho3
   simp -dsimp (disch:=first|omega|(simp only[go_sem,seval];try omega))only[go_sem,seval,hg3,ht3]
   refine⟨hc3.set _ _ (.inr (Nat.le_refl _)),w2.heap.size,_,rfl,Nat.le_refl _,Ar _ _ _ _ rfl hl3,ho3.chg (F:=[w2.heap.size]) ((Chg.refl _ _).set _ _ (by simp)) fun b hb=>?_⟩
   simp [Value.ownBlock] at hb
   simp;omega
 ·rintro v w3 ⟨hc3,t9,sb,rfl,h9,ht9,ho3⟩
  have efst:(H.list.length:Int)-min (max back 0) H.list.length=((H.list.length-min back.toNat H.list.length:Nat):Int):=by omega
  have ewr:IntKind.i64.wrap ((H.list.length:Int)-min (max back 0) H.list.length)=((H.list.length-min back.toNat H.list.length:Nat):Int):=by rw[G5 _ (by omega) (by omega),efst]
  have hfl:H.list.length-min back.toNat H.list.length≤H.list.length:=by omega
  generalize H.list.length-min back.toNat H.list.length=fst at *
  simp -dsimp (disch:=first|omega|(simp only[go_sem,seval];try omega))only[go_sem,seval,efst]
  rw[ewr]
  have hvl:∀y,y<g.h→(Bv g H.list fst y).length=g.w:=by
   intro y hy
   unfold Bv
   split
   ·rename_i h1
    rw[De]
    exact G1 _ _
   ·exact hg.row_len (by omega)
  have hrl:=fun k (hk:k≤g.h)=>E0 (fun y (hy:y<k)=>hvl y (by omega))
  have hg3:=hc3.keep hg2 (by simp)
  refine Loop1.st (fun s:Nat × Value=>.int .i64 ((fst+s.1:Nat):Int)) (fun s w'=>s.1≤g.h∧Chg [] w2 w'∧w'.heap[t9]?=some (.cells #[.int .i64 g.w,.int .i64 g.h,s.2] 59)∧Ox w2.heap.size w' 167 4 Cel.cells s.2 (Bg (Bv g H.list fst) s.1)) (fun s=>g.h-s.1) (0,_) (by simp) ⟨by simp,hc3,ht9,ho3⟩ ?_
  rintro next ⟨k,v⟩ w4 hn ⟨hk,hc4,ht4,ho4⟩
  dsimp only at hk ht4 ho4 ⊢
  have hg4:=hc4.keep hg2 (by simp)
  simp -dsimp (disch:=first|omega|(simp only[go_sem,seval];try omega))only[go_sem,seval,hg4]
  refine BrW.dec (fun h1=>?_) (fun h1=>?_)
  ·refine Join0.cut (fun w'=>∃v',Chg [] w2 w'∧w'.heap[t9]?=some (.cells #[.int .i64 g.w,.int .i64 g.h,v'] 59)∧Ox w2.heap.size w' 167 4 Cel.cells v' (Bg (Bv g H.list fst) (k+1))) ?_ ?_
   ·have key:∀(w5:World) (r:Value),Chg [] w4 w5→Ox w4.heap.size w5 167 4 Cel.cells r (Bv g H.list fst k)→∃a' n' c',r=.slice a' n' c'∧OpX Tryz.prog (.call { callee:=.builtin .append,args:=#[.const v,.const r],argTypes:=#[57,57] }) 57 (fun t55=>qF 59 (Value.pointer (some ⟨t9,0,none⟩)) 2 fun t56=>xS 57 t56 t55 (fun w'=>∃v',Chg [] w2 w'∧w'.heap[t9]?=some (.cells #[.int .i64 g.w,.int .i64 g.h,v'] 59)∧Ox w2.heap.size w' 167 4 Cel.cells v' (Bg (Bv g H.list fst) (k+1)))) w5:=by
     intro w5 r hc5 hr5
     obtain⟨a',c',rfl,_,hs5,-,-⟩:=hr5.form
     refine⟨a',_,c',rfl,?_⟩
     have ho5:=ho4.chg0 hc5
     have ht5:=hc5.keep ht4 (by simp)
     have hc25:=hc4.trans0 hc5
     have h6:=Nat.mul_le_mul hk hw1
     refine BJ KV Cel.len Cel.ok ho5 hs5 rfl (by rw[hrl k hk,hvl k (by omega)];omega) (by omega) (by have:=hc25.size;omega) ?_
     intro v6 w6 ho6 hc6 _
     have hof:=ho5.off ht5 rfl
     have ht6:=hc6.keep ht5 (by intro hx;apply hof;simpa using hx)
     have hl6:=Aa ht6
     obtain⟨a6,c6,rfl,-⟩:=ho6.form
     have hc26:Chg [] w2 w6:=hc25.trans hc6 fun x hx=>.inr (ho5.own_ge x hx)
     simp -dsimp (disch:=first|omega|(simp only[go_sem,seval];try omega))only[go_sem,seval,ht6]
     exact⟨_,hc26.set _ _ (.inr h9),rfl,ho6.chg (F:=[t9]) ((Chg.refl _ _).set _ _ (by simp)) fun b hb hm=>by
      simp at hm;subst hm
      exact ho6.off ht6 rfl hb.symm⟩
    simp -dsimp (disch:=first|omega|(simp only[go_sem,seval];try omega))only[go_sem,seval,hg4]
    refine BrW.dec (fun h2=>?_) (fun h2=>?_)
    ·simp -dsimp (disch:=first|omega|(simp only[go_sem,seval];try omega))only[go_sem,seval,ht4,hg4]
     have e1:(((fst+k:Nat):Int)-(H.list.length:Int))=((fst+k-H.list.length:Nat):Int):=by omega
     rw[e1]
     have hcl:=Lr hg ((hs.chg0 hc02).chg0 (hc4.drew)) cap hcap (y:=fst+k-H.list.length) (by omega)
     refine OpX.call OR rfl (Calls.ret (hcl) ?_)
     rintro r w5 ⟨ho5,hc5⟩
     have ev:Bv g H.list fst k=g.row (fst+k-H.list.length):=by unfold Bv;rw[if_neg (by omega)]
     rw[←ev] at ho5
     have hc45:Chg [] w4 w5:=hc5.low_drew
     have ht5:=hc45.keep ht4 (by simp)
     obtain⟨a',n',c',rfl,hk5⟩:=key w5 r hc45 ho5
     simp -dsimp (disch:=first|omega|(simp only[go_sem,seval];try omega))only[go_sem,seval,ht5]
     exact hk5
    ·have hi:fst+k<H.list.length:=by omega
     have hh4:=((hh.chg0 hc02).chg0 hc4)
     simp -dsimp (disch:=first|omega|(simp only[go_sem,seval];try omega))only[go_sem,seval]
     refine OpX.call YV rfl (Calls.ret (WQ hh4 (fst+k) hi) ?_)
     rintro u w5 ⟨r,rfl,hr5,hs5,hm5,hc5⟩
     obtain⟨hrl0,hrl5⟩:=hrows _ (List.mem_of_getElem? hr5)
     have hg5:=hc5.keep hg4 (by simp)
     have ht5:=hc5.keep ht4 (by simp)
     simp -dsimp (disch:=first|omega|(simp only[go_sem,seval];try omega))only[go_sem,seval,ht5,hg5,Rw.val]
     refine OpX.call Rm rfl (Calls.ret (QJ (hs5.chg0 (Chg.refl _ _).drew) r.cap hrl0 hrl5 g.w hg.w0 (by omega)) ?_)
     rintro r6 w6 ⟨ho6,hc6⟩
     have ev:Bv g H.list fst k=AL (Cc g.w r.cs):=by unfold Bv;rw[if_pos hi,List.getD_eq_getElem?_getD,hr5];rfl
     rw[←ev] at ho6
     have hc46:Chg [] w4 w6:=hc5.trans0 hc6.low_drew
     have ht6:=hc46.keep ht4 (by simp)
     obtain⟨a',n',c',rfl,hk6⟩:=key w6 r6 hc46 (ho6.base_le hc5.size)
     simp -dsimp (disch:=first|omega|(simp only[go_sem,seval];try omega))only[go_sem,seval,ht6]
     exact hk6
   ·rintro w5 ⟨v',a1,a2,a3⟩
    simp -dsimp (disch:=first|omega|(simp only[go_sem,seval];try omega))only[go_sem,seval]
    exact hn (k+1,v') _ ⟨by dsimp only;omega,a1,a2,a3⟩ (by dsimp only;omega)
  ·have hk':k=g.h:=by omega
   subst hk'
   obtain⟨a',c',rfl,hcl,hs5,-,hne⟩:=ho4.form
   have hn0:Bg (Bv g H.list fst) g.h≠[]:=by
    intro h0
    have:=hrl g.h (Nat.le_refl _)
    rw[h0] at this
    have h2:=Nat.mul_pos hg.h0 hg.w0
    simp at *
    omega
   obtain⟨nb,cap',sp,hv,-,h7,h8⟩:=ho4.blk hn0
   rw[Value.slice.injEq] at hv
   obtain⟨rfl,-,rfl⟩:=hv
   have ho4':=hc4.keep ho2 (by simp)
   have hl4:=Aa ho4'
   simp -dsimp (disch:=first|omega|(simp only[go_sem,seval];try omega))only[go_sem,seval,ht4,ho4']
   refine hK _ _ ⟨⟨nb,c',sp,rfl,hcl,by omega,?_⟩,?_⟩
   ·simp -dsimp (disch:=first|omega|(simp only[go_sem,seval];try omega))only[go_sem,seval]
    exact h8
   ·exact(hc02.trans0 hc4).set _ _ (.inr (by simp))
structure TmAt (base:Nat) (w:World) (t W H:Nat) (T:Tm) (M:Scm) (G:Hs):Prop where
 hb:w.heap[t]?=some T.obj
 scr:SNew base w T.s W H M
 his:HAt w T.h G
 eok:T.E.ok
 kl:T.kept.length≤4
 dk:dec T.kept=([],T.kept)
 lo:∀x∈t::T.h::G.blk,base≤x
 sep:∀x∈M.gv.ownBlock.toList,x∉G.blk
 far:∀r∈G.all,∀b o,r.a=some ⟨b,o,none⟩→r.cs≠[]→b≠M.b0∧b≠M.b1
 rw:∀l∈G.list,0<l.length∧l.length≤200
section
variable {base:Nat} {w w':World} {t W H:Nat} {T:Tm} {M:Scm} {G:Hs}
theorem BN {w:World} {x y:Nat} {c c':Array Value} {e e':TypeId} {fr fr':Nat × Nat} (h:w.heap[x]?=some (.cells c e fr)) (h':w.heap[y]?=some (.cells c' e' fr')) (hne:Nat.beq e e'=false):x≠y:=by
 rintro rfl
 rw[h] at h'
 simp only[Option.some.injEq,Obj.cells.injEq] at h'
 rw[h'.2.1,Nat.beq_refl] at hne
 cases hne
theorem SAt.tags {s:Nat} (h:SAt w s M):(∃c fr,w.heap[s]?=some (.cells c 236 fr))∧(∃c fr,w.heap[M.b0]?=some (.cells c 167 fr))∧(∃c fr,w.heap[M.b1]?=some (.cells c 167 fr))∧∀x∈M.gv.ownBlock.toList,∃c fr,w.heap[x]?=some (.cells c 57 fr):=by
 refine⟨⟨_,_,h.hb⟩,⟨_,_,h.h0⟩,⟨_,_,h.h1⟩,fun x hx=>?_⟩
 obtain⟨hl,ho⟩:=h.own
 rcases ho with ⟨hv,-⟩|⟨g,cap,cur,hv,-,hg,-⟩
 ·rw[hv] at hx;simp [Value.ownBlock] at hx
 ·rw[hv] at hx;simp [Value.ownBlock] at hx
  subst hx
  exact⟨_,_,hg⟩
theorem HAt.tag2 {h:Nat} (hh:HAt w h G):(∃c fr,w.heap[h]?=some (.cells c 226 fr))∧∀x∈G.blk,∃c fr,w.heap[x]?=some (.cells c 57 fr):=by
 refine⟨⟨_,_,hh.hb⟩,fun x hx=>?_⟩
 obtain⟨hl,ho⟩:=hh.own
 simp only[Hs.blk] at hx
 rcases ho with ⟨hv,-⟩|⟨g,cap,cur,hv,-,hg,-⟩
 ·rw[hv] at hx;simp [Value.ownBlock] at hx
 ·rw[hv] at hx;simp [Value.ownBlock] at hx
  subst hx
  exact⟨_,_,hg⟩
theorem TmAt.s_h (h:TmAt base w t W H T M G):∀x∈T.s::M.blk,x∉T.h::G.blk:=by
 obtain⟨⟨c1,f1,a1⟩,⟨c2,f2,a2⟩,⟨c3,f3,a3⟩,a4⟩:=h.scr.at_.tags
 obtain⟨⟨c5,f5,a5⟩,a6⟩:=h.his.tag2
 intro x hx hm
 rcases List.mem_cons.1 hm with rfl|hm
 ·simp only[Scm.blk,List.mem_cons] at hx
  rcases hx with e|e|e|hx
  ·exact BN a1 a5 rfl e.symm
  ·exact BN a2 a5 rfl e.symm
  ·exact BN a3 a5 rfl e.symm
  ·obtain⟨c,f,b⟩:=a4 _ hx
   exact BN b a5 rfl rfl
 ·obtain⟨c7,f7,a7⟩:=a6 x hm
  simp only[Scm.blk,List.mem_cons] at hx
  rcases hx with rfl|rfl|rfl|hx
  ·exact BN a1 a7 rfl rfl
  ·exact BN a2 a7 rfl rfl
  ·exact BN a3 a7 rfl rfl
  ·exact h.sep x hx hm
theorem TmAt.t_s (h:TmAt base w t W H T M G):t∉T.s::M.blk:=by
 obtain⟨⟨c1,f1,a1⟩,⟨c2,f2,a2⟩,⟨c3,f3,a3⟩,a4⟩:=h.scr.at_.tags
 have hb:=h.hb
 unfold Tm.obj at hb
 intro hx
 simp only[Scm.blk,List.mem_cons] at hx
 rcases hx with e|e|e|hx
 ·exact BN a1 hb rfl e.symm
 ·exact BN a2 hb rfl e.symm
 ·exact BN a3 hb rfl e.symm
 ·obtain⟨c,f,b⟩:=a4 _ hx
  exact BN b hb rfl rfl
theorem TmAt.t_h (h:TmAt base w t W H T M G):t∉T.h::G.blk:=by
 obtain⟨⟨c5,f5,a5⟩,a6⟩:=h.his.tag2
 have hb:=h.hb
 unfold Tm.obj at hb
 intro hx
 rcases List.mem_cons.1 hx with e|hx
 ·exact BN a5 hb rfl e.symm
 ·obtain⟨c,f,b⟩:=a6 _ hx
  exact BN b hb rfl rfl
theorem TmAt.rows_s (h:TmAt base w t W H T M G):∀r∈G.all,∀b o,r.a=some ⟨b,o,none⟩→r.cs≠[]→b∉T.s::M.blk:=by
 obtain⟨⟨c1,f1,a1⟩,-,-,a4⟩:=h.scr.at_.tags
 intro r hr b o ha hne hx
 have hs:=h.his.rows r hr
 simp only[Scm.blk,List.mem_cons] at hx
 rcases hx with rfl|rfl|rfl|hx
 ·exact hs.ne ha hne a1 rfl rfl
 ·exact(h.far r hr _ o ha hne).1 rfl
 ·exact(h.far r hr _ o ha hne).2 rfl
 ·obtain⟨c,f,b'⟩:=a4 _ hx
  exact hs.ne ha hne b' rfl rfl
theorem TmAt.chg0 (h:TmAt base w t W H T M G) (hc:Chg [] w w'):TmAt base w' t W H T M G :=
 ⟨hc.keep h.hb (by simp),h.scr.chg0 hc,h.his.chg0 hc,h.eok,h.kl,h.dk,h.lo,h.sep,h.far,h.rw⟩
theorem TmAt.self (h:TmAt base w t W H T M G) (hc:Chg [t] w w') {k:List UInt8} {E:Esc} (hb:w'.heap[t]?=some ({ T with kept:=k,E:=E }:Tm).obj) (ek:E.ok) (kk:k.length≤4) (kd:dec k=([],k)):TmAt base w' t W H { T with kept:=k,E:=E } M G:=by
 have hts:=h.t_s
 have hth:=h.t_h
 have hb0:=h.hb
 unfold Tm.obj at hb0
 have hS:SAt w' T.s M:=h.scr.at_.chg hc (fun x hx hm=>by simp at hm;subst hm;exact hts hx) (fun r hr b o ha hne hm=>by simp at hm;subst hm;exact(h.scr.at_.rows r hr).ne ha hne hb0 rfl rfl)
 refine⟨hb,⟨hS,h.scr.ok,h.scr.w,h.scr.h,h.scr.gw,h.scr.lo⟩,h.his.chg hc (fun x hx hm=>by simp at hm;subst hm;exact hth hx) (fun r hr b o ha hne hm=>by simp at hm;subst hm;exact(h.his.rows r hr).ne ha hne hb0 rfl rfl),ek,kk,kd,h.lo,h.sep,h.far,h.rw⟩
theorem TmAt.did (h:TmAt base w t W H T M G) {S:Scr} (hd:Did w T.s M w' S) (hn:Nx M.S S) (hb:base≤w.heap.size):∃M',TmAt base w' t W H T M' G∧M'.S=S∧Chg (T.s::M.blk) w w'∧∀b∈M'.blk,b∈M.blk∨w.heap.size≤b:=by
 obtain⟨M',hN,hS,hc,hk⟩:=h.scr.did hd hn hb
 have hsh:=h.s_h
 have hlt:=h.his.blk_lt
 have hts:=h.t_s
 refine⟨M',⟨hc.keep h.hb hts,hN,h.his.chg hc (fun x hx hm=>hsh x hm hx) h.rows_s,h.eok,h.kl,h.dk,h.lo,fun x hx hm=>?_,fun r hr b o ha hne=>?_,h.rw⟩,hS,hc,hk⟩
 ·rcases hk x (by simp [Scm.blk,hx]) with h1|h1
  ·exact hsh x (by simp [h1]) (by simp [hm])
  ·have:=hlt x (by simp [hm]);omega
 ·have hbl:=(h.his.rows r hr).lt hne ha
  have hnot:=h.rows_s r hr b o ha hne
  refine⟨fun e=>?_,fun e=>?_⟩
  ·rcases hk M'.b0 (by simp [Scm.blk]) with h1|h1
   ·exact hnot (by rw[e];simp [h1])
   ·omega
  ·rcases hk M'.b1 (by simp [Scm.blk]) with h1|h1
   ·exact hnot (by rw[e];simp [h1])
   ·omega
end
def EH (t:Nat) (T:Tm) (M:Scm) (G:Hs) (x:Nat):Prop:=x=t∨x=T.s∨x∈M.blk∨x=T.h∨x∈G.blk∨∃r∈G.all,r.cs≠[]∧∃o,r.a=some ⟨x,o,none⟩
theorem TmAt.frame {base:Nat} {w w':World} {t W H:Nat} {T:Tm} {M:Scm} {G:Hs} (h:TmAt base w t W H T M G) (hm:M.rows=[]) {F:List Nat} (hc:Chg F w w') (hF:∀x∈F,¬EH t T M G x):TmAt base w' t W H T M G:=by
 have hS:SAt w' T.s M:=h.scr.at_.chg hc (fun x hx hf=>hF x hf (by rcases List.mem_cons.1 hx with e|hx;exact .inr (.inl e);exact .inr (.inr (.inl hx)))) (by rw[hm];simp)
 exact⟨hc.keep h.hb (fun hf=>hF t hf (.inl rfl)),⟨hS,h.scr.ok,h.scr.w,h.scr.h,h.scr.gw,h.scr.lo⟩,
  h.his.chg hc (fun x hx hf=>hF x hf (by rcases List.mem_cons.1 hx with e|hx;exact .inr (.inr (.inr (.inl e)));exact .inr (.inr (.inr (.inr (.inl hx)))))) (fun r hr b o ha hne hf=>hF b hf (.inr (.inr (.inr (.inr (.inr ⟨r,hr,hne,o,ha⟩)))))),
  h.eok,h.kl,h.dk,h.lo,h.sep,h.far,h.rw⟩
def Cb (S:Scr) (k:List UInt8) (E:Esc) (s:List UInt8):Scr × List UInt8 × Esc :=
 (S.acts (E.feed (dec (k++s)).1).2,(dec (k++s)).2,(E.feed (dec (k++s)).1).1)
theorem Zz (S:Scr) {k:List UInt8} (E:Esc) (hk:dec k=([],k)):Cb S k E []=(S,k,E):=by
 unfold Cb
 rw[List.append_nil,hk]
 rfl
theorem RV (S:Scr) (k:List UInt8) (E:Esc) (s t:List UInt8):Cb S k E (s++t)=Cb (Cb S k E s).1 (Cb S k E s).2.1 (Cb S k E s).2.2 t:=by
 unfold Cb
 rw[←List.append_assoc,U4 (k++s) t]
 dsimp only
 rw[Esc.feed_append]
 unfold Scr.acts
 rw[List.foldl_append]
def BC (st:Scr × List UInt8 × Esc) (l:List (List UInt8)):Scr × List UInt8 × Esc:=l.foldl (fun st p=>Cb st.1 st.2.1 st.2.2 p) st
def bsF (l:List UInt8):List Value:=[.string (Ap l)]
theorem SZ {α:Type} (l:List α) (h:¬(0:Int)<(l.length:Int)):l=[]:=List.eq_nil_of_length_eq_zero (by omega)
theorem Tw {room:Nat} {l:List (List Cel)} {x y:List Cel} (h:y∈CS room l x):y∈l∨y=x:=by
 unfold CS at h
 split at h
 ·exact .inl h
 split at h
 ·rcases List.mem_append.1 h with h|h
  ·exact .inl h
  ·exact .inr (by simpa using h)
 ·rcases List.mem_append.1 h with h|h
  ·exact .inl (List.mem_of_mem_tail h)
  ·exact .inr (by simpa using h)
theorem IQ {room:Nat}:∀{xs l:List (List Cel)} {y:List Cel},y∈D3 room l xs→y∈l∨∃x∈xs,y=AL x
 | [],l,y,h=>.inl h
 | x::xs,l,y,h=>by
  unfold D3 at h
  rw[List.foldl_cons] at h
  rcases IQ (xs:=xs) h with h|⟨z,hz,e⟩
  ·rcases Tw h with h|h
   ·exact .inl h
   ·exact .inr ⟨x,by simp,h⟩
  ·exact .inr ⟨z,by simp [hz],e⟩
set_option maxHeartbeats 1000000 in
theorem VN {base:Nat} {w:World} {t W H:Nat} {T:Tm} {M:Scm} {G:Hs} (h:TmAt base w t W H T M G) (hbase:base≤w.heap.size) {e:Option TypeId} {a:Option Addr} {l:List (List UInt8)} (hs:Sx w e bsF a l) (hlen:∀p∈l,p.length≤1000000) (hfar:∀b o,a=some ⟨b,o,none⟩→l≠[]→b∉t::T.s::M.blk) (cap:Nat) (hll:l.length≤1000000) :
  Calls Tryz.prog 57 #[.pointer (some ⟨t,0,none⟩),.slice a l.length cap] w
  (Ac fun _ w'=>∃M' G' k E,TmAt base w' t W H { T with kept:=k,E:=E } M' G'∧(M'.S,k,E)=({ (BC (M.S,T.kept,T.E) l).1 with gone:=[] },(BC (M.S,T.kept,T.E) l).2.1,(BC (M.S,T.kept,T.E) l).2.2) ∧
   G'.room=G.room∧G'.list=D3 G.room G.list (BC (M.S,T.kept,T.E) l).1.gone∧Chg (t::T.s::M.blk++T.h::G.blk) w w'∧M'.rows=[]∧∀x,EH t { T with kept:=k,E:=E } M' G' x→EH t T M G x∨w.heap.size≤x):=by
 have hb:=h.hb
 apply Qx
 intro K hK
 unfold IS
 simp -dsimp (disch:=first|omega|(simp only[go_sem,seval];try omega))only[go_sem,seval]
 refine Loop1.st (fun q:Nat × Scm × List UInt8 × Esc=>.int .i64 (q.1:Int)) (fun q w'=>q.1≤l.length∧TmAt base w' t W H { T with kept:=q.2.2.1,E:=q.2.2.2 } q.2.1 G∧(q.2.1.S,q.2.2.1,q.2.2.2)=BC (M.S,T.kept,T.E) (l.take q.1)∧(∀x∈q.2.1.blk,x∈M.blk∨w.heap.size≤x)∧Chg (t::T.s::M.blk) w w') (fun q=>l.length-q.1) (0,M,T.kept,T.E) rfl ⟨by simp,h,rfl,fun x hx=>.inl hx,Chg.refl _ _⟩ ?_
 rintro next ⟨i,Mi,k,E⟩ wi hn ⟨hi,hA,hst,hbk,hc⟩
 dsimp only at hi hA hst hbk ⊢
 simp -dsimp (disch:=first|omega|(simp only[go_sem,seval];try omega))only[go_sem,seval]
 refine BrW.dec (fun g=>?_) (fun g=>?_)
 ·have hi':i<l.length:=by omega
  obtain⟨b,o,rfl,hbl,hcell⟩:=(hs.chg hc hfar).get1 (g:=fun p=>.string (Ap p)) (fun _=>rfl) (List.getElem?_eq_getElem hi')
  have hpl:=hlen _ (List.getElem_mem hi')
  obtain⟨p,hp⟩:∃p,p=l[i]:=⟨_,rfl⟩
  rw[←hp] at hcell hpl
  simp -dsimp (disch:=first|omega|(simp only[go_sem,seval];try omega))only[go_sem,seval,hcell]
  refine Loop1.st (fun q:List UInt8 × Scm × List UInt8 × Esc=>.string (Ap q.1)) (fun q w'=>q.1.length≤p.length∧TmAt base w' t W H { T with kept:=q.2.2.1,E:=q.2.2.2 } q.2.1 G∧Cb Mi.S k E p=Cb q.2.1.S q.2.2.1 q.2.2.2 q.1∧(∀x∈q.2.1.blk,x∈M.blk∨w.heap.size≤x)∧Chg (t::T.s::M.blk) w w') (fun q=>q.1.length) (p,Mi,k,E) rfl ⟨Nat.le_refl _,hA,rfl,hbk,hc⟩ ?_
  rintro next2 ⟨q,Mq,kq,Eq⟩ wq hn2 ⟨hq,hAq,hfq,hbq',hcq⟩
  dsimp only at hq hAq hfq hbq' ⊢
  simp -dsimp (disch:=first|omega|(simp only[go_sem,seval];try omega))only[go_sem,seval]
  refine BrW.dec (fun g2=>?_) (fun g2=>?_)
  ·obtain⟨n,hnn⟩:∃n:Nat,n=min q.length 4096:=⟨_,rfl⟩
   have en:min (q.length:Int) 4096=(n:Int):=by omega
   have hbq:=hAq.hb
   have hzq:=hcq.size
   have hA0:=hAq.chg0 (show Chg [] wq wq.drew from(Chg.refl _ _).drew)
   simp -dsimp (disch:=first|omega|(simp only[go_sem,seval];try omega))only[go_sem,seval,hbq,en,Ij]
   obtain⟨c,hcc⟩:∃c,c=q.take n:=⟨_,rfl⟩
   rw[Nat.sub_zero,←hcc]
   have hcl:c.length≤4096:=by rw[hcc,List.length_take];omega
   have hkl:kq.length≤4:=hAq.kl
   refine OpX.call Vb rfl (Calls.ret (SD hA0.hb hkl c (by omega)) ?_)
   rintro v w1 ⟨ho,hb1,hc1⟩
   have hd:=MB (kq++c)
   have hA1:=hA0.self hc1 hb1 hAq.eok hd.2.2 (Mz _)
   have hz1:wq.heap.size≤w1.heap.size:=hc1.size
   obtain⟨a1,cp1,rfl,-,hs1,-,hf1⟩:=ho.form
   have hb1':=hA1.hb
   have hlt:=Aa hbq
   dsimp only at hd hb1 ho hs1 hA1 hb1' hf1
   simp -dsimp (disch:=first|omega|(simp only[go_sem,seval];try omega))only[go_sem,seval,hb1']
   have hrl:(dec (kq++c)).1.length≤1000000:=by have:=hd.2.1;rw[List.length_append] at this;omega
   refine OpX.call Pl rfl (Calls.ret (UG hA1.hb hA1.eok hs1 (fun b o hb hne=>by obtain⟨g,hg,hge,-⟩:=hf1 hne;rw[hg] at hb;cases hb;have h9:wq.heap.size≤b:=hge;omega) cp1 hrl hd.1) ?_)
   rintro v w2 ⟨ho2,hb2,hc2⟩
   have hfe:=Esc.feed_ok hA1.eok (l:=(dec (kq++c)).1) hd.1
   have hA2:=hA1.self hc2 hb2 hfe.1 hd.2.2 (Mz _)
   have hz2:=hc2.size
   obtain⟨a2,cp2,rfl,-,hs2,-,-⟩:=ho2.form
   have hb2':=hA2.hb
   dsimp only at hfe ho2 hs2 hA2 hb2'
   have hfar2:∀b o,a2=some ⟨b,o,none⟩→(Eq.feed (dec (kq++c)).1).2≠[]→b∉T.s::Mq.blk:=fun b o hb _ hm=>hA2.scr.at_.act_off ho2 b hm (by rw[hb];simp [Value.ownBlock])
   simp -dsimp (disch:=first|omega|(simp only[go_sem,seval];try omega))only[go_sem,seval,hb2']
   refine OpX.call X0 rfl (Calls.ret (Ym hA2.scr.at_ hA2.scr.ok hs2 hfar2 cp2 (by omega) hfe.2.1) ?_)
   rintro v w3 hd3
   obtain⟨M3,hA3,hS3,hc3,hk3⟩:=hA2.did hd3 hA2.scr.ok.acts (by omega)
   simp -dsimp (disch:=first|omega|(simp only[go_sem,seval];try omega))only[go_sem,seval,Ij,en]
   rw[List.take_of_length_le (by rw[List.length_drop];exact Nat.le_refl _)]
   have hfc:Cb Mq.S kq Eq c=(M3.S,(dec (kq++c)).2,(Eq.feed (dec (kq++c)).1).1):=by unfold Cb;rw[hS3]
   refine hn2 (q.drop n,M3,(dec (kq++c)).2,(Eq.feed (dec (kq++c)).1).1) _ ⟨by dsimp only;rw[List.length_drop];omega,hA3,?_,fun x hx=>(hk3 x hx).elim (fun h=>hbq' x h) (fun h=>.inr (by omega)),?_⟩ (by dsimp only;rw[List.length_drop];omega)
   ·dsimp only
    rw[hfq]
    conv=>lhs;rw[←List.take_append_drop n q,←hcc,RV,hfc]
   ·have hsm:∀x∈T.s::Mq.blk,x∈t::T.s::M.blk∨w.heap.size≤x:=by
     intro x hx
     rcases List.mem_cons.1 hx with rfl|hx
     ·exact .inl (by simp)
     ·exact(hbq' x hx).imp (fun h=>by simp [h]) id
    exact((hcq.trans (show Chg [t] wq w1 from hc1.low_drew) (by simp)).trans hc2 (by simp)).trans hc3 hsm
  ·have hq0:=SZ q g2
   subst hq0
   rw[Zz _ _ hAq.dk] at hfq
   have e1:(i:Int)+1=((i+1:Nat):Int):=by omega
   simp -dsimp (disch:=first|omega|(simp only[go_sem,seval];try omega))only[go_sem,seval,e1]
   refine hn (i+1,Mq,kq,Eq) _ ⟨by dsimp only;omega,hAq,?_,hbq',hcq⟩ (by dsimp only;omega)
   dsimp only
   rw[CC hi',←hp]
   unfold BC at hst ⊢
   rw[List.foldl_append,←hst]
   exact hfq.symm
 ·have hil:i=l.length:=by omega
  subst hil
  rw[List.take_length] at hst
  have hbi:=hA.hb
  simp -dsimp (disch:=first|omega|(simp only[go_sem,seval];try omega))only[go_sem,seval,hbi]
  have hc0:Chg [] wi wi.drew:=(Chg.refl _ _).drew
  have hA0:=hA.chg0 hc0
  have ok:=hA0.scr.ok
  have hz:=hc.size
  refine OpX.call Rv rfl (Calls.ret (XQ hA0.scr.at_ ok.w0) ?_)
  rintro v w1 ⟨rfl,hS1,hc1⟩
  have hN1:=hA0.scr.gone hS1
  have hth:=hA0.t_h
  have hts:=hA0.t_s
  have hsh:=hA0.s_h
  have hb1:=hc1.keep hA0.hb (fun hm=>hts (by simp at hm;simp [hm]))
  have hH1:HAt w1 T.h G:=hA0.his.chg hc1 (fun x hx hm=>hsh T.s (by simp) (by simp at hm;subst hm;exact hx)) (fun r hr b o ha hne hm=>hA0.rows_s r hr b o ha hne (by simp at hm;simp [hm]))
  have hrows:∀r∈Mi.rows,SxC w1 (some 167) r.a r.cs:=fun r hr=>(hA0.scr.at_.rows r hr).chg hc1 fun b o ha hne=>by simp;exact(hA0.scr.at_.row_ne r hr b o ha hne).1
  have hown:Ox 0 w1 57 1 Rw.f Mi.gv Mi.rows:=hA0.scr.at_.own.chg hc1 fun b hb hm=>by
   simp at hm;subst hm
   exact hA0.scr.at_.s_own (by simp [←hb])
  obtain⟨ga,gc,hgv,-,hsg,-,-⟩:=hown.form
  have hgl:Mi.rows.length≤500:=by
   have:=ok.gl
   rw[hA0.scr.at_.gone] at this
   simpa using this
  have hgr:∀r∈Mi.rows,right r.cs=true∧r.cs.length=W:=by
   intro r hr
   have hm:r.cs∈Mi.S.gone:=by rw[hA0.scr.at_.gone];exact List.mem_map.2 ⟨r,hr,rfl⟩
   exact⟨(ok.gr _ hm).1,hA0.scr.gw _ hm⟩
  have hW:W≤200:=by have:=ok.w1;rw[hA0.scr.w] at this;exact this
  have hab:∀b o,ga=some ⟨b,o,none⟩→b∉T.h::G.blk:=fun b o hb hm=>hsh b (by simp only[Scm.blk];rw[hgv,hb];simp [Value.ownBlock]) hm
  rw[hgv]
  simp -dsimp (disch:=first|omega|(simp only[go_sem,seval];try omega))only[go_sem,seval,hb1]
  refine OpX.call RP rfl (Calls.ret (UT hH1 hsg hab hrows (fun r hr=>by rw[(hgr r hr).2];omega) (by omega) gc) ?_)
  rintro v w2 ⟨G',hG',hroom,hlist,hc2,hblk,hall⟩
  have hz1:wi.heap.size≤w1.heap.size:=hc1.size
  have hc12:Chg (t::T.s::M.blk++T.h::G.blk) w w2:=by
   refine((hc.trans0 hc0).trans hc1 (by simp)).mono (F':=t::T.s::M.blk++T.h::G.blk) (fun x hx=>.inl (by simp at hx ⊢;rcases hx with h|h|h<;>simp [h])) |>.trans hc2 (fun x hx=>.inl (by simp at hx ⊢;rcases hx with h|h<;>simp [h]))
  have hgone:Mi.rows.map Rw.cs=Mi.S.gone:=hA0.scr.at_.gone.symm
  have hS':(Mi.S,k,E)=BC (M.S,T.kept,T.E) l:=hst
  have hs1:Mi.S=(BC (M.S,T.kept,T.E) l).1:=congrArg Prod.fst hS'
  refine hK _ _ ⟨{ Mi with S:={ Mi.S with gone:=[] },gv:=.slice none 0 0,rows:=[] },G',k,E,?_,?_,hroom,?_,hc12,rfl,?_⟩
  ·have hsub:∀x∈T.s::({ Mi with S:={ Mi.S with gone:=[] },gv:=.slice none 0 0,rows:=[] }:Scm).blk,x∈T.s::Mi.blk:=fun x hx=>by
    simp [Scm.blk,Value.ownBlock] at hx ⊢
    rcases hx with h|h|h<;>simp [h]
   have hS2:=hS1.chg hc2 (fun x hx hm=>hsh x (hsub x hx) hm) (by simp)
   refine⟨hc2.keep hb1 hth,⟨hS2,hN1.ok,hN1.w,hN1.h,hN1.gw,hN1.lo⟩,hG',hA0.eok,hA0.kl,hA0.dk,fun x hx=>?_,by simp [Value.ownBlock],fun r hr b o ha hne=>?_,fun y hy=>?_⟩
   ·simp only[List.mem_cons] at hx
    rcases hx with rfl|rfl|hx
    ·exact hA0.lo _ (by simp)
    ·exact hA0.lo _ (by simp)
    ·rcases hblk x hx with h|h
     ·exact hA0.lo _ (by simp [h])
     ·omega
   ·rcases hall r hr with h|h
    ·exact hA0.far r h b o ha hne
    ·have:=h b o ha hne
     have l0:=hS1.lt Mi.b0 (by simp [Scm.blk])
     have l1:=hS1.lt Mi.b1 (by simp [Scm.blk])
     exact⟨by show b≠Mi.b0;omega,by show b≠Mi.b1;omega⟩
   ·rw[hlist] at hy
    rcases IQ hy with h|⟨z,hz,rfl⟩
    ·exact hA0.rw y h
    ·obtain⟨r,hr,rfl⟩:=List.mem_map.1 hz
     rw[De,(hgr r hr).2]
     exact⟨by have:=ok.w0;rw[hA0.scr.w] at this;exact this,hW⟩
  ·rw[←hS']
  ·rw[hlist,hgone,hs1]
  ·rintro x (rfl|rfl|hx|rfl|hx|⟨r,hr,hne,o,ha⟩)
   ·exact .inl (.inl rfl)
   ·exact .inl (.inr (.inl rfl))
   ·have hx':x∈Mi.blk:=by
     simp [Scm.blk,Value.ownBlock] at hx ⊢
     rcases hx with h|h<;>simp [h]
    exact(hbk x hx').imp (fun h=>.inr (.inr (.inl h))) id
   ·exact .inl (.inr (.inr (.inr (.inl rfl))))
   ·rcases hblk x hx with h|h
    ·exact .inl (.inr (.inr (.inr (.inr (.inl h)))))
    ·exact .inr (by omega)
   ·rcases hall r hr with h|h
    ·exact .inl (.inr (.inr (.inr (.inr (.inr ⟨r,h,hne,o,ha⟩)))))
    ·have:=h x o ha hne
     exact .inr (by omega)
end Go.Proofs.YtelplojmbjnplaaGreatDoor
namespace Lyc
open Go
def Scr.rs0 (S:Scr) (w h:Nat):Scr:={ S with w:=w,h:=h,top:=0,fin:=h }
def Scr.rsG (S:Scr) (a:Bool):Scr :=
 bif a then { S with g1:=S.g1.resize S.w S.h Cel.blank,s1:=⟨AI S.s1.x S.w,AI S.s1.y S.h,S.s1.pen⟩ }
 else { S with g0:=S.g0.resize S.w S.h Cel.blank,s0:=⟨AI S.s0.x S.w,AI S.s0.y S.h,S.s0.pen⟩ }
def Scr.stage (S:Scr) (w h:Nat):Nat→Scr
 | 0=>S.rs0 w h
 | 1=>(S.rs0 w h).rsG false
 | _=>((S.rs0 w h).rsG false).rsG true
end Lyc
namespace Go.Proofs.YtelplojmbjnplaaGreatDoor
open Lyc Go
def Scm.setG (M:Scm) (a:Bool) (G:Gr) (b c:Nat) (p:List Value):Scm :=
 bif a then { M with S:={ M.S with g1:=G },b1:=b,c1:=c,p1:=p } else { M with S:={ M.S with g0:=G },b0:=b,c0:=c,p0:=p }
theorem SAt.newG {w w':World} {s:Nat} {M:Scm} (a:Bool) (h:SAt w s M) (hc:Chg [] w w') {G:Gr} {nb cap:Nat} {sp:List Value} (k:G.cs.length≤cap) (hn:w.heap.size≤nb) (hb:w'.heap[nb]?=some (.cells (G.cs.flatMap Cel.cells++sp).toArray 167)) :
  SAt (Ab w' s (M.setG a G nb cap sp).obj) s (M.setG a G nb cap sp)∧Chg (s::M.blk) w (Ab w' s (M.setG a G nb cap sp).obj)∧∀b∈(M.setG a G nb cap sp).blk,b∈M.blk∨w.heap.size≤b:=by
 have h':=h.chg0 hc
 have hs:=h'.s_ne
 have hl:=h.lt
 have hls:=Aa h'.hb
 have hlt0:=hl M.b0 (by simp [Scm.blk])
 have hlt1:=hl M.b1 (by simp [Scm.blk])
 have hlts:=hl s (by simp)
 have hc2:Chg [s] w' (Ab w' s (M.setG a G nb cap sp).obj):=(Chg.refl _ _).set _ _ (by simp)
 have hown:=h'.own.chg hc2 fun b hb hm=>by
  simp at hm;subst hm
  exact h'.s_own (by simp [←hb])
 have hrows:∀r∈M.rows,SxC (Ab w' s (M.setG a G nb cap sp).obj) (some 167) r.a r.cs:=fun r hr=>(h'.rows r hr).chg hc2 fun b o ha hne=>by simp;exact(h'.row_ne r hr b o ha hne).1
 have hself:(Ab w' s (M.setG a G nb cap sp).obj).heap[s]?=some (M.setG a G nb cap sp).obj:=Ar _ _ _ _ rfl hls
 have hk0:=hc2.keep h'.h0 (by simp;omega)
 have hk1:=hc2.keep h'.h1 (by simp;omega)
 have hkn:=hc2.keep hb (by simp;omega)
 have hch:Chg (s::M.blk) w (Ab w' s (M.setG a G nb cap sp).obj):=(hc.mono (by simp)).trans hc2 (by simp)
 clear hc2
 generalize Ab w' s (M.setG a G nb cap sp).obj=w2 at hself hk0 hk1 hkn hown hrows hch ⊢
 refine⟨?_,hch,?_⟩
 ·cases a with
  | true=>exact⟨hself,hk0,h'.k0,hkn,k,by show M.b0≠nb;omega,h'.tl,hown,hrows,fun r hr b o hx hne=>⟨(h'.far r hr b o hx hne).1,by have:=h.row_lt r hr b o hx hne;show b≠nb;omega⟩,h'.gone⟩
  | false=>exact⟨hself,hkn,k,hk1,h'.k1,by show nb≠M.b1;omega,h'.tl,hown,hrows,fun r hr b o hx hne=>⟨by have:=h.row_lt r hr b o hx hne;show b≠nb;omega,(h'.far r hr b o hx hne).2⟩,h'.gone⟩
 ·intro b hbb
  cases a<;>simp [Scm.setG,Scm.blk] at hbb ⊢<;>rcases hbb with rfl|rfl|hbb<;>first|(right;omega)|simp_all
theorem SAt.g0_s {w:World} {s:Nat} {M:Scm} (h:SAt w s M):SxC w (some 167) (some ⟨M.b0,0,none⟩) M.S.g0.cs:=⟨fun _=>⟨M.b0,0,_,_,_,[],M.p0,rfl,h.h0,by simp [BR],by simp,rfl⟩⟩
theorem SAt.g1_s {w:World} {s:Nat} {M:Scm} (h:SAt w s M):SxC w (some 167) (some ⟨M.b1,0,none⟩) M.S.g1.cs:=⟨fun _=>⟨M.b1,0,_,_,_,[],M.p1,rfl,h.h1,by simp [BR],by simp,rfl⟩⟩
theorem W9 {w:World} {s:Nat} {M:Scm} (h:SAt w s M) (w0:0<M.S.w) (h0:0<M.S.h) (w1:M.S.w≤200) (h1':M.S.h≤60) (x y:Int):Calls Tryz.prog 170 #[.pointer (some ⟨s,0,none⟩),.int .i64 x,.int .i64 y] w
  (Ac fun _ w'=>Did w s M w' (M.S.move x y)):=by
 have tl:=h.tl
 apply OC
 intro K hK
 unfold He
 refine OpX.call FB rfl (Calls.ret (Gx h w1 h1' x y) ?_)
 rintro v w1 ⟨rfl,hc1⟩
 have h1:=h.chg0 hc1
 have hb:=h1.hb
 have hl:=Aa hb
 have e1:min (max x 0) ((M.S.w:Int)-1)=((AI x M.S.w:Nat):Int):=by unfold AI;omega
 have e2:min (max y 0) ((M.S.h:Int)-1)=((AI y M.S.h:Nat):Int):=by unfold AI;omega
 rw[e1,e2]
 simp -dsimp (disch:=first|omega|(simp only[go_sem,seval];try omega))only[go_sem,seval,hb]
 exact hK _ _ (Did.set h1 (hc1.mono (by simp)) (fun b hb=>.inl hb) _ rfl rfl tl rfl)
theorem PJ {w:World} {s:Nat} {M:Scm} (h:SAt w s M) (ok:M.S.ok) (W H:Nat) (W0:0<W) (W1:W≤200) (H0:0<H) (H1:H≤60):Calls Tryz.prog 127 #[.pointer (some ⟨s,0,none⟩),.int .i64 W,.int .i64 H] w
  (Ac fun v w'=>v=.bool true∧Did w s M w' (M.S.resize W H)):=by
 have hf:B7 W H=true:=by unfold B7;simp;omega
 have hb:=h.hb
 have hls:=Aa hb
 have tl:=h.tl
 apply XV
 intro K hK
 unfold JS
 refine Join1.cut (fun v w'=>v=.bool false∧Chg [] w w') ?_ ?_
 ·refine OpX.call GA rfl (Calls.ret (GH h ok.w0) ?_)
  rintro v w1 ⟨rfl,rfl⟩
  simp -dsimp (disch:=first|omega|(simp only[go_sem,seval];try omega))only[go_sem,seval]
  refine OpX.call EB rfl (Calls.ret (E1 w W H W0 W1 H0 H1) ?_)
  rintro v w1 ⟨hg,hc1⟩
  obtain⟨nb,cap,rfl,q1,q2,q3,q4⟩:=hg.sx
  simp -dsimp (disch:=first|omega|(simp only[go_sem,seval];try omega))only[go_sem,seval,Gr.val]
  have hfit:=Gr.fit_plain W0 W1 H0 H1
  refine OpX.call Df rfl (Calls.ret (Db hfit.ok q4 cap q1) ?_)
  rintro v w3 ⟨rfl,hc3⟩
  simp -dsimp (disch:=first|omega|(simp only[go_sem,seval];try omega))only[go_sem,seval,hfit.r]
  exact hc1.trans0 hc3
 rintro v w1 ⟨rfl,hc1⟩
 have h1:=h.chg0 hc1
 have hb1:=h1.hb
 have hl1:=Aa hb1
 simp -dsimp (disch:=first|omega|(simp only[go_sem,seval];try omega))only[go_sem,seval,hb1]
 have hA0:=h1.set (M.S.rs0 W H) rfl rfl tl rfl
 have hc0:Chg (s::M.blk) w (Ab w1 s ({ M with S:=M.S.rs0 W H }:Scm).obj):=(hc1.mono (by simp)).set _ _ (.inl (by simp))
 refine Loop1.st (fun q:Nat × Scm=>.int .i64 (q.1:Int)) (fun q w'=>q.1≤2∧SAt w' s q.2∧Chg (s::M.blk) w w'∧(∀b∈q.2.blk,b∈M.blk∨w.heap.size≤b)∧q.2.S=M.S.stage W H q.1) (fun q=>2-q.1) (0,{ M with S:=M.S.rs0 W H }) rfl ⟨by simp,hA0,hc0,fun b hb=>.inl hb,rfl⟩ ?_
 rintro next ⟨i,N⟩ w2 hnx ⟨hi,hN,hc,hbl,hS⟩
 dsimp only at hi hN hc hbl hS ⊢
 by_cases hi2:i<2
 ·rcases(show i=0∨i=1 by omega) with hi0|hi0
  ·have hi0:i=0:=by omega
   subst hi0
   dsimp only[Scr.stage] at hS
   have hN2:=hN.chg0 (show Chg [] w2 w2.drew from(Chg.refl _ _).drew)
   have hb2:=hN.hb
   have hw:N.S.w=W:=by rw[hS];rfl
   have hh:N.S.h=H:=by rw[hS];rfl
   have hfit:N.S.g0.fit M.S.w M.S.h:=by rw[hS];exact ok.g0
   have tlN:=hN.tl
   simp -dsimp (disch:=first|omega|(simp only[go_sem,seval];try omega))only[go_sem,seval,hb2]
   refine OpX.call Ew rfl (Calls.ret (Fa _) ?_)
   rintro v w3 ⟨rfl,hc3⟩
   have hN3:=hN2.chg0 hc3
   have hb3:=hN3.hb
   simp -dsimp (disch:=first|omega|(simp only[go_sem,seval];try omega))only[go_sem,seval,hb3]
   refine OpX.call OO rfl (Calls.ret (Mk hfit.ok hfit.r hN3.g0_s N.c0 hN3.k0 (by decide) W0 W1 H0 H1) ?_)
   rintro v w4 ⟨⟨nb,cp,sp,rfl,p1,p2,p3⟩,hc4⟩
   have hc24:Chg [] w2 w4:=(((Chg.refl _ _).drew).trans0 hc3).trans0 hc4
   have hz3:=hc3.size
   have hz3':w2.heap.size≤w3.heap.size:=hz3
   obtain⟨k1,k2,k3⟩:=hN.newG false hc24 p1 (by omega) p3
   have hN4:=hN3.chg0 hc4
   have hb4:=hN4.hb
   have hl4:=Aa hb4
   have hp:=N.wG0 (N.S.g0.resize W H Cel.blank) nb cp sp tlN
   simp -dsimp (disch:=first|omega|(simp only[go_sem,seval];try omega))only[go_sem,seval,Gr.val,hb4,hp]
   simp only[Scm.setG,cond_true,cond_false] at k1 k2 k3
   obtain⟨N5,hN5⟩:∃N5:Scm,N5={ N with S:={ N.S with g0:=N.S.g0.resize W H Cel.blank },b0:=nb,c0:=cp,p0:=sp }:=⟨_,rfl⟩
   rw[←hN5] at k1 k2 k3 ⊢
   have e5:N5.S={ N.S with g0:=N.S.g0.resize W H Cel.blank }:=by rw[hN5]
   clear hN5
   have hb5:=k1.hb
   have tl5:=k1.tl
   have hw5:N5.S.w=W:=by rw[e5];exact hw
   have hh5:N5.S.h=H:=by rw[e5];exact hh
   obtain⟨w5,hw5'⟩:∃w5,w5=Ab w4 s N5.obj:=⟨_,rfl⟩
   rw[←hw5'] at k1 k2 hb5 ⊢
   clear hw5'
   have hc5:=hc.trans k2 (fun x hx=>by
    rcases List.mem_cons.1 hx with rfl|hx
    ·exact .inl (by simp)
    ·exact(hbl x hx).imp (fun h=>by simp [h]) id)
   have hz:=hc.size
   (try simp -dsimp (disch:=first|omega|(simp only[go_sem,seval];try omega))only[go_sem,seval,hb5])
   refine OpX.call FB rfl (Calls.ret (Gx (k1.chg0 (Chg.refl _ _).drew) (by omega) (by omega) _ _) ?_)
   rintro v w6 ⟨rfl,hc6⟩
   have hN6:=k1.chg0 (((Chg.refl _ _).drew).trans0 hc6)
   have hb6:=hN6.hb
   have hl6:=Aa hb6
   have x1:min (max (N.S.s0.x:Int) 0) ((N5.S.w:Int)-1)=((AI N.S.s0.x W:Nat):Int):=by rw[hw5];unfold AI;omega
   have x2:min (max (N.S.s0.y:Int) 0) ((N5.S.h:Int)-1)=((AI N.S.s0.y H:Nat):Int):=by rw[hh5];unfold AI;omega
   rw[x1,x2]
   simp -dsimp (disch:=first|omega|(simp only[go_sem,seval];try omega))only[go_sem,seval,hb6]
   have hc6':=hc5.trans0 (((Chg.refl _ _).drew).trans0 hc6)
   have kS:=hN6.set { N5.S with s0:=⟨AI N.S.s0.x W,AI N.S.s0.y H,N5.S.s0.pen⟩ } rfl rfl tl5 rfl
   refine hnx (1,{ N5 with S:={ N5.S with s0:=⟨AI N.S.s0.x W,AI N.S.s0.y H,N5.S.s0.pen⟩ } }) _ ⟨by dsimp only;omega,kS,hc6'.set _ _ (.inl (by simp)),fun b hb=>?_,?_⟩ (by dsimp only;omega)
   ·rcases k3 b hb with h|h
    ·exact hbl b h
    ·exact .inr (by omega)
   ·dsimp only[Scr.stage]
    rw[e5,hS]
    rfl
  ·have hi0:i=1:=by omega
   subst hi0
   dsimp only[Scr.stage] at hS
   have hN2:=hN.chg0 (show Chg [] w2 w2.drew from(Chg.refl _ _).drew)
   have hb2:=hN.hb
   have hw:N.S.w=W:=by rw[hS];rfl
   have hh:N.S.h=H:=by rw[hS];rfl
   have hfit:N.S.g1.fit M.S.w M.S.h:=by rw[hS];exact ok.g1
   have tlN:=hN.tl
   simp -dsimp (disch:=first|omega|(simp only[go_sem,seval];try omega))only[go_sem,seval,hb2]
   refine OpX.call Ew rfl (Calls.ret (Fa _) ?_)
   rintro v w3 ⟨rfl,hc3⟩
   have hN3:=hN2.chg0 hc3
   have hb3:=hN3.hb
   simp -dsimp (disch:=first|omega|(simp only[go_sem,seval];try omega))only[go_sem,seval,hb3]
   refine OpX.call OO rfl (Calls.ret (Mk hfit.ok hfit.r hN3.g1_s N.c1 hN3.k1 (by decide) W0 W1 H0 H1) ?_)
   rintro v w4 ⟨⟨nb,cp,sp,rfl,p1,p2,p3⟩,hc4⟩
   have hc24:Chg [] w2 w4:=(((Chg.refl _ _).drew).trans0 hc3).trans0 hc4
   have hz3:=hc3.size
   have hz3':w2.heap.size≤w3.heap.size:=hz3
   obtain⟨k1,k2,k3⟩:=hN.newG true hc24 p1 (by omega) p3
   have hN4:=hN3.chg0 hc4
   have hb4:=hN4.hb
   have hl4:=Aa hb4
   have hp:=N.wG1 (N.S.g1.resize W H Cel.blank) nb cp sp tlN
   simp -dsimp (disch:=first|omega|(simp only[go_sem,seval];try omega))only[go_sem,seval,Gr.val,hb4,hp]
   simp only[Scm.setG,cond_true,cond_false] at k1 k2 k3
   obtain⟨N5,hN5⟩:∃N5:Scm,N5={ N with S:={ N.S with g1:=N.S.g1.resize W H Cel.blank },b1:=nb,c1:=cp,p1:=sp }:=⟨_,rfl⟩
   rw[←hN5] at k1 k2 k3 ⊢
   have e5:N5.S={ N.S with g1:=N.S.g1.resize W H Cel.blank }:=by rw[hN5]
   clear hN5
   have hb5:=k1.hb
   have tl5:=k1.tl
   have hw5:N5.S.w=W:=by rw[e5];exact hw
   have hh5:N5.S.h=H:=by rw[e5];exact hh
   obtain⟨w5,hw5'⟩:∃w5,w5=Ab w4 s N5.obj:=⟨_,rfl⟩
   rw[←hw5'] at k1 k2 hb5 ⊢
   clear hw5'
   have hc5:=hc.trans k2 (fun x hx=>by
    rcases List.mem_cons.1 hx with rfl|hx
    ·exact .inl (by simp)
    ·exact(hbl x hx).imp (fun h=>by simp [h]) id)
   have hz:=hc.size
   (try simp -dsimp (disch:=first|omega|(simp only[go_sem,seval];try omega))only[go_sem,seval,hb5])
   refine OpX.call FB rfl (Calls.ret (Gx (k1.chg0 (Chg.refl _ _).drew) (by omega) (by omega) _ _) ?_)
   rintro v w6 ⟨rfl,hc6⟩
   have hN6:=k1.chg0 (((Chg.refl _ _).drew).trans0 hc6)
   have hb6:=hN6.hb
   have hl6:=Aa hb6
   have x1:min (max (N.S.s1.x:Int) 0) ((N5.S.w:Int)-1)=((AI N.S.s1.x W:Nat):Int):=by rw[hw5];unfold AI;omega
   have x2:min (max (N.S.s1.y:Int) 0) ((N5.S.h:Int)-1)=((AI N.S.s1.y H:Nat):Int):=by rw[hh5];unfold AI;omega
   rw[x1,x2]
   simp -dsimp (disch:=first|omega|(simp only[go_sem,seval];try omega))only[go_sem,seval,hb6]
   have hc6':=hc5.trans0 (((Chg.refl _ _).drew).trans0 hc6)
   have kS:=hN6.set { N5.S with s1:=⟨AI N.S.s1.x W,AI N.S.s1.y H,N5.S.s1.pen⟩ } rfl rfl tl5 rfl
   refine hnx (2,{ N5 with S:={ N5.S with s1:=⟨AI N.S.s1.x W,AI N.S.s1.y H,N5.S.s1.pen⟩ } }) _ ⟨by dsimp only;omega,kS,hc6'.set _ _ (.inl (by simp)),fun b hb=>?_,?_⟩ (by dsimp only;omega)
   ·rcases k3 b hb with h|h
    ·exact hbl b h
    ·exact .inr (by omega)
   ·dsimp only[Scr.stage]
    rw[e5,hS]
    rfl
 ·have hi0:i=2:=by omega
  subst hi0
  dsimp only[Scr.stage] at hS
  have hb2:=hN.hb
  have hl2:=Aa hb2
  have hw:N.S.w=W:=by rw[hS];rfl
  have hh:N.S.h=H:=by rw[hS];rfl
  simp -dsimp (disch:=first|omega|(simp only[go_sem,seval];try omega))only[go_sem,seval,hb2]
  refine OpX.call Dz rfl (Calls.ret (W9 (hN.chg0 (show Chg [] w2 w2.drew from(Chg.refl _ _).drew)) (by omega) (by omega) (by omega) (by omega) N.S.now.x N.S.now.y) ?_)
  rintro v w3 ⟨N3,hN3,hS3,hc3,hbl3⟩
  have hb3:=hN3.hb
  have hl3:=Aa hb3
  have tl3:=hN3.tl
  simp -dsimp (disch:=first|omega|(simp only[go_sem,seval];try omega))only[go_sem,seval,hb3]
  have hz:=hc.size
  refine hK _ _ ⟨rfl,_,hN3.set { N3.S with waits:=false } rfl rfl tl3 rfl,?_,?_,fun b hb=>?_⟩
  ·show { N3.S with waits:=false }=_
   rw[hS3,hS]
   unfold Scr.move
   rw[←hS,hw,hh,hS]
   rfl
  ·refine(hc.trans hc3.low_drew fun x hx=>?_).set _ _ (.inl (by simp))
   rcases List.mem_cons.1 hx with rfl|hx
   ·exact .inl (by simp)
   ·exact(hbl x hx).imp (fun h=>by simp [h]) id
  ·rcases hbl3 b hb with h|h
   ·exact hbl b h
   ·have h':w2.heap.size≤b:=h
    exact .inr (by omega)
theorem V3 (w:World) (W H:Nat) (W0:0<W) (W1:W≤200) (H0:0<H) (H1:H≤60) (room:Int):Calls Tryz.prog 85 #[.int .i64 W,.int .i64 H,.int .i64 room] w
  (Ac fun v w'=>∃t s h M G,v=.pointer (some ⟨t,0,none⟩)∧TmAt w.heap.size w' t W H ⟨s,h,[],Esc.new⟩ M G∧M.S=Scr.new W H∧G.list=[]∧G.room=(min (max room 0) 500).toNat∧Chg [] w w'∧(∀x,EH t ⟨s,h,[],Esc.new⟩ M G x→w.heap.size≤x)∧M.rows=[]):=by
 apply W3
 intro K hK
 unfold Np
 refine OpX.call UD rfl (Calls.ret (PQ w W H W0 W1 H0 H1) ?_)
 rintro v w1 ⟨s,M,rfl,hN,hS,hc1⟩
 simp -dsimp (disch:=first|omega|(simp only[go_sem,seval];try omega))only[go_sem,seval]
 refine OpX.call ZB rfl (Calls.ret (WU w1 room) ?_)
 rintro v w2 ⟨G,rfl,hG,hgb,hgl,hgr,hc2⟩
 have hz1:=hc1.size
 have hN2:=hN.chg0 hc2
 have hhl:=Aa hG.hb
 have hall:G.all=[]:=by
  have:=G.list_len
  rw[hgl] at this
  exact List.eq_nil_of_length_eq_zero this.symm
 simp -dsimp (disch:=first|omega|(simp only[go_sem,seval];try omega))only[go_sem,seval]
 refine hK _ _ ⟨w2.heap.size,s,w1.heap.size,M,G,rfl,?_,hS,hgl,hgr,(hc1.trans0 hc2).alloc _,?_,?_⟩
 rotate_left
 ·rintro x (rfl|rfl|hx|rfl|hx|⟨r,hr,hne,o,ha⟩)
  ·have:=hc2.size;omega
  ·exact hN.lo _ (by simp)
  ·exact hN.lo _ (by simp [hx])
  ·exact hz1
  ·rw[hgb] at hx;simp at hx
  ·rw[hall] at hr;simp at hr
 ·have hg:=hN.at_.gone
  rw[hS] at hg
  cases hr:M.rows with
  | nil=>rfl
  | cons r l=>rw[hr] at hg;simp [Scr.new] at hg
 have hc3:=AB w2 (.cells #[.pointer (some ⟨s,0,none⟩),.string ⟨#[]⟩,.int .i64 0,.int .u8 0,.int .u8 0,.int .i64 0,.int .i64 0,.int .i64 0,.int .i64 0,.int .i64 0,.int .i64 0,.int .i64 0,.int .i64 0,.int .i64 0,.pointer (some ⟨w1.heap.size,0,none⟩)] 163)
 refine⟨Lyc.heap_alloc_new _ _ _ rfl,hN2.chg0 hc3,hG.chg0 hc3,Esc.new_ok,by simp,rfl,fun x hx=>?_,by rw[hgb];simp,by rw[hall];simp,by rw[hgl];simp⟩
 rw[hgb] at hx
 simp at hx
 omega
section
variable {base:Nat} {w w':World} {t W H:Nat} {T:Tm} {M:Scm} {G:Hs}
theorem Xl (h:TmAt base w t W H T M G):Calls Tryz.prog 71 #[.pointer (some ⟨t,0,none⟩)] w (Ac fun v w'=>GAt w.heap.size w' v M.S.cur∧Chg [] w w'):=by
 apply Xp
 intro K hK
 unfold OW
 simp -dsimp (disch:=first|omega|(simp only[go_sem,seval];try omega))only[go_sem,seval]
 obtain⟨w1,hw1⟩:∃w1,w1=w.alloc (.cells #[.int .i64 0,.int .i64 0,.slice none 0 0] 59):=⟨_,rfl⟩
 have hc1:Chg [] w w1:=by rw[hw1];(repeat (first|exact Chg.refl _ _|apply Chg.drew|apply Chg.alloc|(refine Chg.set ?_ _ _ (by first|(left;simp;done)|(right;omega)))))
 have ho1:w1.heap[w.heap.size]?=some (.cells #[.int .i64 0,.int .i64 0,.slice none 0 0] 59):=by rw[hw1];simp -dsimp (disch:=first|omega|(simp only[go_sem,seval];try omega))only[go_sem,seval]
 rw[←hw1]
 clear hw1
 have h1:=h.chg0 hc1
 have hb1:=h1.hb
 have hz1:=hc1.size
 simp -dsimp (disch:=first|omega|(simp only[go_sem,seval];try omega))only[go_sem,seval,hb1]
 refine OpX.call X1 rfl (Calls.ret (Y5 h1.scr.at_ h1.scr.ok) ?_)
 rintro v w2 ⟨⟨nb,cp,sp,rfl,p1,p2,p3⟩,hc2⟩
 have ho2:=hc2.keep ho1 (by simp)
 have hl2:=Aa ho2
 simp -dsimp (disch:=first|omega|(simp only[go_sem,seval];try omega))only[go_sem,seval,Gr.val,ho2]
 have hlo:=Aa ho1
 have hcs:Chg [w.heap.size] w2 (Ab w2 w.heap.size (.cells #[.int .i64 M.S.cur.w,.int .i64 M.S.cur.h,.slice (some ⟨nb,0,none⟩) M.S.cur.cs.length cp] 59)):=(Chg.refl _ _).set _ _ (by simp)
 refine hK _ _ ⟨⟨nb,cp,sp,rfl,p1,by omega,?_⟩,(hc1.trans0 hc2).trans hcs (by simp)⟩
 exact hcs.keep p3 (by simp;omega)
theorem QB (h:TmAt base w t W H T M G):Calls Tryz.prog 105 #[.pointer (some ⟨t,0,none⟩)] w (Ac fun v w'=>v=.int .i64 G.list.length∧Chg [] w w'):=by
 have hb:=h.hb
 apply Uc
 intro K hK
 unfold JH
 simp -dsimp (disch:=first|omega|(simp only[go_sem,seval];try omega))only[go_sem,seval,hb]
 refine OpX.call ME rfl (Calls.ret (Na h.his) ?_)
 rintro v w1 ⟨rfl,rfl⟩
 exact hK _ _ ⟨rfl,Chg.refl _ _⟩
def CM (S:Scr) (L:List (List Cel)) (back:Int):Gr:=Gr.of S.cur.w S.cur.h (Bv S.cur L (L.length-min back.toNat L.length))
theorem Sv (h:TmAt base w t W H T M G) (back:Int):Calls Tryz.prog 40 #[.pointer (some ⟨t,0,none⟩),.int .i64 back] w (Ac fun v w'=>GAt w.heap.size w' v (CM M.S G.list back)∧Chg [] w w'):=by
 apply RW
 intro K hK
 unfold L6
 simp -dsimp (disch:=first|omega|(simp only[go_sem,seval];try omega))only[go_sem,seval]
 obtain⟨w1,hw1⟩:∃w1,w1=w.alloc (.cells #[.int .i64 0,.int .i64 0,.slice none 0 0] 59):=⟨_,rfl⟩
 have hc1:Chg [] w w1:=by rw[hw1];(repeat (first|exact Chg.refl _ _|apply Chg.drew|apply Chg.alloc|(refine Chg.set ?_ _ _ (by first|(left;simp;done)|(right;omega)))))
 have ho1:w1.heap[w.heap.size]?=some (.cells #[.int .i64 0,.int .i64 0,.slice none 0 0] 59):=by rw[hw1];simp -dsimp (disch:=first|omega|(simp only[go_sem,seval];try omega))only[go_sem,seval]
 rw[←hw1]
 clear hw1
 have h1:=h.chg0 hc1
 have hb1:=h1.hb
 have hz1:=hc1.size
 simp -dsimp (disch:=first|omega|(simp only[go_sem,seval];try omega))only[go_sem,seval,hb1]
 have h1':=h1.chg0 (show Chg [] w1 w1.drew from(Chg.refl _ _).drew)
 refine OpX.call Yr rfl (Calls.ret (Xl h1') ?_)
 rintro v w2 ⟨⟨nb,cp,sp,rfl,p1,p2,p3⟩,hc2⟩
 have hc2':=hc2.low_drew
 have h2:=h1.chg0 hc2'
 have hb2:=h2.hb
 have hg:=h2.scr.ok.cur
 have hsG:SxC w2 (some 167) (some ⟨nb,0,none⟩) M.S.cur.cs:=⟨fun _=>⟨nb,0,_,_,_,[],sp,rfl,p3,by simp [BR],by simp,rfl⟩⟩
 have hrw:∀l∈G.list,0<l.length∧l.length≤1000:=fun l hl=>by have:=h2.rw l hl;omega
 simp -dsimp (disch:=first|omega|(simp only[go_sem,seval];try omega))only[go_sem,seval,hb2]
 refine OpX.call Ze rfl (Calls.ret (Q5 h2.his hg.ok hg.r hsG cp p1 hrw back) ?_)
 rintro v w3 ⟨⟨nb3,cp3,sp3,rfl,q1,q2,q3⟩,hc3⟩
 have ho3:=hc3.keep (hc2'.keep ho1 (by simp)) (by simp)
 have hl3:=Aa ho3
 have hz2:=hc2'.size
 simp -dsimp (disch:=first|omega|(simp only[go_sem,seval];try omega))only[go_sem,seval,Gr.val,ho3]
 have hlo:=Aa ho1
 obtain⟨V,hV⟩:∃V,V=Gr.of M.S.cur.w M.S.cur.h (Bv M.S.cur G.list (G.list.length-min back.toNat G.list.length)):=⟨_,rfl⟩
 rw[←hV] at q1 q3 ⊢
 have hcs:Chg [w.heap.size] w3 (Ab w3 w.heap.size (.cells #[.int .i64 V.w,.int .i64 V.h,.slice (some ⟨nb3,0,none⟩) V.cs.length cp3] 59)):=(Chg.refl _ _).set _ _ (by simp)
 refine hK _ _ ⟨⟨nb3,cp3,sp3,?_,?_,by omega,?_⟩,((hc1.trans0 hc2').trans0 hc3).trans hcs (by simp)⟩
 ·rw[CM,←hV];rfl
 ·rw[CM,←hV];exact q1
 ·rw[CM,←hV];exact hcs.keep q3 (by simp;omega)
end
theorem Xc {g:Gr} (hg:g.ok) (hr:g.right=true) {L:List (List Cel)} {n:Nat} (hn:n≤L.length):∀y,y<g.h→(Bv g L n y).length=g.w∧Lyc.right (Bv g L n y)=true:=by
 intro y hy
 unfold Bv
 split
 ·exact⟨by rw[De,G1],Gz _⟩
 ·exact⟨hg.row_len (by omega),Gr.right.at hr (by omega)⟩
theorem U8 {S:Scr} (h:S.ok) {L:List (List Cel)} (back:Int):(CM S L back).fit S.w S.h:=by
 have hc:=h.cur
 have hv:=Xc hc.ok hc.r (show L.length-min back.toNat L.length≤L.length by omega)
 refine⟨Gr.of_ok hc.ok.w0 hc.ok.w1 hc.ok.h0 hc.ok.h1 fun y hy=>(hv y hy).1,Gr.right_of fun y hy=>?_,hc.w,hc.h⟩
 have hr:(CM S L back).row y=Bv S.cur L (L.length-min back.toNat L.length) y:=Gr.of_row (fun y hy=>(hv y hy).1) hy
 rw[hr]
 exact(hv y hy).2
theorem Sh {base:Nat} {w:World} {t W H:Nat} {T:Tm} {M:Scm} {G:Hs} (h:TmAt base w t W H T M G) (hm:M.rows=[]) (hbase:base≤w.heap.size) (W' H':Nat) (W0:0<W') (W1:W'≤200) (H0:0<H') (H1:H'≤60) :
  Calls Tryz.prog 84 #[.pointer (some ⟨t,0,none⟩),.int .i64 W',.int .i64 H'] w
  (Ac fun v w'=>v=.bool true∧∃M',TmAt base w' t W' H' T M' G∧M'.rows=[]∧Chg (T.s::M.blk) w w'∧(∀b∈M'.blk,b∈M.blk∨w.heap.size≤b)∧M'.S=M.S.resize W' H'):=by
 have hb:=h.hb
 apply Zg
 intro K hK
 unfold NB
 simp -dsimp (disch:=first|omega|(simp only[go_sem,seval];try omega))only[go_sem,seval,hb]
 refine OpX.call S9 rfl (Calls.ret (PJ h.scr.at_ h.scr.ok W' H' W0 W1 H0 H1) ?_)
 rintro v w1 ⟨rfl,M',a,e,hc,hk⟩
 have hg0:M.S.gone=[]:=by rw[h.scr.at_.gone,hm];rfl
 have hg:M'.S.gone=[]:=by rw[e];exact hg0
 obtain⟨o1,o2,o3⟩:=h.scr.ok.resize W0 W1 H0 H1
 have hsh:=h.s_h
 have hlt:=h.his.blk_lt
 have hts:=h.t_s
 refine hK _ _ ⟨rfl,M',⟨hc.keep h.hb hts,⟨a,by rw[e];exact o1,by rw[e];exact o2,by rw[e];exact o3,by rw[hg];simp,fun x hx=>?_⟩,h.his.chg hc (fun x hx hm=>hsh x hm hx) h.rows_s,h.eok,h.kl,h.dk,h.lo,fun x hx hm=>?_,fun r hr b o ha hne=>?_,h.rw⟩,?_,hc,hk,e⟩
 ·rcases List.mem_cons.1 hx with rfl|hx
  ·exact h.scr.lo _ (by simp)
  ·rcases hk x hx with h1|h1
   ·exact h.scr.lo _ (by simp [h1])
   ·omega
 ·rcases hk x (by simp [Scm.blk,hx]) with h1|h1
  ·exact hsh x (by simp [h1]) (by simp [hm])
  ·have:=hlt x (by simp [hm]);omega
 ·have hbl:=(h.his.rows r hr).lt hne ha
  have hnot:=h.rows_s r hr b o ha hne
  refine⟨fun e=>?_,fun e=>?_⟩
  ·rcases hk M'.b0 (by simp [Scm.blk]) with h1|h1
   ·exact hnot (by rw[e];simp [h1])
   ·omega
  ·rcases hk M'.b1 (by simp [Scm.blk]) with h1|h1
   ·exact hnot (by rw[e];simp [h1])
   ·omega
 ·have:=a.gone
  rw[hg] at this
  cases hr:M'.rows with
  | nil=>rfl
  | cons r l=>rw[hr] at this;simp at this
set_option maxRecDepth 100000
def Jc (p0:Value) (K:Value→World→Prop):World→Prop :=
 xB 76 p0 fun t1 =>
 OpX Tryz.prog (.makeFunc (.func 69) #[] #[.const t1]) 96 fun t3 =>
 K t3
theorem Uq (p0:Value):Lk 38 #[p0] (Jc p0):=lk [p0] [] Tryz.func38
theorem Px:Ad Tryz.prog 38:=bd Tryz.func38
def Le (p0 p1:Value) (K:Value→World→Prop):World→Prop :=
 xL 76 p1 fun t4 =>
 OpX Tryz.prog (.range 76 (.const t4)) 0 fun t5 =>
 Loop0 fun next1 =>
 OpX Tryz.prog (.next (.const t5) false) 0 fun t6 =>
 xE t6 0 4 fun t7 =>
 xW t7
 (OpX Tryz.prog (.entry (.const t5)) 0 fun t8 =>
 xE t8 0 3 fun t9 =>
 OpX Tryz.prog (.call { callee:=.value (.const p0),args:=#[.const t9],argTypes:=#[3] }) 4 fun t12 =>
 xN 4 t12 fun t13 =>
 xW t13
 (K (.tuple #[])) <|
 next1) <|
 K (.tuple #[])
theorem P1 (p0 p1:Value):Lk 69 #[p0,p1] (Le p0 p1):=lk [p0,p1] [(3,[])] Tryz.func69
theorem XW:Ad Tryz.prog 69:=bd Tryz.func69
def LZ (p0 p1:Value) (K:Value→World→Prop):World→Prop :=
 xB 40 p0 fun t2 =>
 RngX Tryz.prog p1 1 (fun vs1 bg1 kn1 _ _ =>
 bg1 <|
 xL 40 t2 fun t8 =>
 OpX Tryz.prog (.buildSlice 40 1 #[(0,.const (BB vs1 0))]) 40 fun t10 =>
 OpX Tryz.prog (.call { callee:=.builtin .append,args:=#[.const t8,.const t10],argTypes:=#[40,40] }) 40 fun t11 =>
 xS 40 t2 t11 <|
 kn1)
 (fun r1 =>
 xL 40 t2 fun t12 =>
 BH (Ce r1 (.tuple #[])) <|
 K t12)
 (fun _ _=>False)
 []
theorem Th (p0 p1:Value):Lk 111 #[p0,p1] (LZ p0 p1):=lk [p0,p1] [] Tryz.func111
theorem W6:Ad Tryz.prog 111:=bd Tryz.func111
def NO (p0:Value) (K:Value→World→Prop):World→Prop :=
 xC 111 [.const (.slice none 0 0),.const p0] [40,97] 40 fun t4 =>
 K t4
theorem Y2 (p0:Value):Lk 67 #[p0] (NO p0):=lk [p0] [] Tryz.func67
theorem WG:Ad Tryz.prog 67:=bd Tryz.func67
def J0 (p0:Value) (K:Value→World→Prop):World→Prop :=
 xC 67 [.const p0] [97] 40 fun t5 =>
 xC 68 [.const t5] [40] 0 fun _ =>
 K t5
theorem Yb (p0:Value):Lk 37 #[p0] (J0 p0):=lk [p0] [] Tryz.func37
theorem Qk:Ad Tryz.prog 37:=bd Tryz.func37
end Go.Proofs.YtelplojmbjnplaaGreatDoor
namespace Lyc
open Go
section
variable {P:Program}
theorem FZ {t ty r c:Nat} {es:Array MapEntry} {K:Value→World→Prop} {w:World} (ht:Ag P t=some 5) (hh:w.heap[r]?=some (.map es c)) :
  OpX P (.range t (.const (.map (some r)))) ty K w=K (.pointer (some ⟨w.heap.size,0,none⟩)) (w.alloc (.mapIter (some r) c #[] c)):=by
 obtain⟨k,e,hu⟩:=Y7 ht
 refine Bb fun ρ hg=>?_
 simp [execOp,An,hg.1,Instr.range,run_underlying hu,Eg hh,J3]
theorem J5 {ty it r c:Nat} {seen:Array Nat} {es:Array MapEntry} {K:Value→World→Prop} {w:World} (hi:w.heap[it]?=some (.mapIter (some r) c seen c)) (hh:w.heap[r]?=some (.map es c)) (hb:∀x∈es.toList,x.born<c)
  (hover:(∀x∈es.toList,x.born∈seen.toList)→K (.tuple #[.bool false]) w)
  (hstep:∀e∈es.toList,e.born∉seen.toList→∀w1,(w1=w∨w1=w.drew)→K (.tuple #[.bool true,e.key,e.val]) (Ab w1 it (.mapIter (some r) c (seen.push e.born) c))) :
  OpX P (.next (.const (.pointer (some ⟨it,0,none⟩))) false) ty K w:=by
 refine⟨fun ρ hg=>?_⟩
 have e:execOp ρ (An (.next (.const (.pointer (some ⟨it,0,none⟩))) false) ty)=(do return Next.value (←Instr.next (.pointer (some ⟨it,0,none⟩)) false ty)):=by
  simp [execOp,An,hg.1]
 rw[e]
 rcases run_next_at (P:=P) w ty it r c c seen es c hi hh hb (Nat.le_refl _) with ⟨h0,hr⟩|⟨x,hx,w1,hw,hr⟩
 ·rw[Sem.run_bind,hr]
  refine hover fun x hx=>?_
  have:leftOf es seen=#[]:=Array.eq_empty_of_size_eq_zero h0
  unfold leftOf at this
  rw[Array.filter_eq_empty_iff] at this
  have:=this x (by simpa using hx)
  simpa using this
 ·rw[Sem.run_bind,hr]
  unfold leftOf at hx
  simp at hx
  exact hstep x (by simpa using hx.1) (by simpa using hx.2) w1 hw
theorem Oi {ty it r c:Nat} {seen:Array Nat} {es:Array MapEntry} {e:MapEntry} {K:Value→World→Prop} {w:World} (hi:w.heap[it]?=some (.mapIter (some r) c (seen.push e.born) c)) (hh:w.heap[r]?=some (.map es c)) (he:e∈es.toList) (hn:(es.toList.map (·.born)).Nodup)  :
  OpX P (.entry (.const (.pointer (some ⟨it,0,none⟩)))) ty K w=K (.tuple #[e.key,e.val]) w:=by
 refine Bb fun ρ hg=>?_
 simp [execOp,An,hg.1,run_entry_at w it r c seen es c e hi hh he hn]
end
end Lyc
namespace Go.Proofs.YtelplojmbjnplaaGreatDoor
open Lyc Go
@[go_sem] theorem Z6:CI Tryz.prog 76 .i64=some (.pointer none):=by
 have h:BS Tryz.prog 76=some (.i64,.pointer none):=by kernel_rfl
 simp [CI,h]
@[go_sem] theorem bY:E3 Tryz.prog 76=some .i64:=by
 have h:BS Tryz.prog 76=some (.i64,.pointer none):=by kernel_rfl
 simp [E3,h]
@[go_sem] theorem eT:CI Tryz.prog 92 .i64=some (.pointer none):=by
 have h:BS Tryz.prog 92=some (.i64,.pointer none):=by kernel_rfl
 simp [CI,h]
def ebo (x:Int × Value × Nat):Nat:=x.2.2
theorem FQ {l:AH} {x:MapEntry} (h:x∈(Av .i64 l).toList):∃y∈l,x=⟨.int .i64 y.1,y.2.1,y.2.2⟩:=by
 simp only[Av,List.mem_map] at h
 obtain⟨y,hy,rfl⟩:=h
 exact⟨y,hy,rfl⟩
theorem LI (l:AH):(Av .i64 l).toList.map (·.born)=l.map ebo:=by
 simp [Av,ebo,Function.comp_def]
theorem Mw:∀{l:AH},(l.map ebo).Nodup→∀{x y:Int × Value × Nat},x∈l→y∈l→ebo x=ebo y→x=y
 | [],_,_,_,h,_,_=>by simp at h
 | a::l,hn,x,y,hx,hy,he=>by
  rw[List.map_cons,List.nodup_cons] at hn
  rcases List.mem_cons.1 hx with rfl|hx'<;>rcases List.mem_cons.1 hy with rfl|hy'
  ·rfl
  ·exact absurd (he ▸ List.mem_map.2 ⟨y,hy',rfl⟩) hn.1
  ·exact absurd (he ▸ List.mem_map.2 ⟨x,hx',rfl⟩) hn.1
  ·exact Mw hn.2 hx' hy' he
theorem Vh {w:World} {pt m c:Nat} {l:AH} (hb:w.heap[pt]?=some (.cells #[.map (some m)] 76)) (hm:w.heap[m]?=some (.map (Av .i64 l) c)) (hlt:∀x∈l,ebo x<c) (hnd:(l.map ebo).Nodup) {yv:Value} (I:List Int→World→Prop)
  (h0:∀w1,Chg [] w w1→I [] w1) (hI:∀ks w1 w2,I ks w1→Chg [w.heap.size] w1 w2→I ks w2) (hM:∀ks w1,I ks w1→w1.heap[m]?=some (.map (Av .i64 l) c))
  (hy:∀ks x w1,I ks w1→x∈l→ks.length<l.length→Bj Tryz.prog yv [.int .i64 x.1] (fun v w2=>v=.bool true∧I (ks++[x.1]) w2∧∃G,Chg G w1 w2∧w.heap.size∉G) w1) :
  Calls Tryz.prog 69 #[yv,.pointer (some ⟨pt,0,none⟩)] w (Ac fun _ w'=>∃ks,ks.Perm (l.map (·.1))∧I ks w'):=by
 apply P1
 intro K hK
 unfold Le
 simp -dsimp (disch:=first|omega|(simp only[go_sem,seval];try omega))only[go_sem,seval,hb]
 rw[FZ FW.1 hm]
 have hndl:l.Nodup:=by
  have:(l.map ebo).Pairwise (·≠·):=hnd
  exact(List.pairwise_map.1 this).imp fun h e=>h (by rw[e])
 have hborn:∀x∈(Av .i64 l).toList,x.born<c:=by
  intro x hx
  obtain⟨y,hy,rfl⟩:=FQ hx
  exact hlt y hy
 refine Loop0.st (fun(done:AH) w1=>(∀x∈done,x∈l)∧(done.map ebo).Nodup∧I (done.map (·.1)) w1∧w1.heap[w.heap.size]?=some (.mapIter (some m) c (done.map ebo).toArray c)) (fun done=>l.length-done.length) [] ⟨by simp,by simp,h0 _ (AB _ _),Lyc.heap_alloc_new _ _ _ rfl⟩ ?_
 rintro next done w1 hn ⟨hd,hdn,hi,hit⟩
 have hm1:=hM _ _ hi
 refine J5 hit hm1 hborn (fun hover=>?_) (fun e he hne w2 hw2=>?_)
 ·simp -dsimp (disch:=first|omega|(simp only[go_sem,seval];try omega))only[go_sem,seval]
  refine hK _ _ ⟨done.map (·.1),List.Perm.map _ ?_,hi⟩
  have hdl:done.Nodup:=by
   have:(done.map ebo).Pairwise (·≠·):=hdn
   exact(List.pairwise_map.1 this).imp fun h e=>h (by rw[e])
  refine(List.perm_ext_iff_of_nodup hdl hndl).2 fun x=>⟨hd x,fun hx=>?_⟩
  have:=hover ⟨.int .i64 x.1,x.2.1,x.2.2⟩ (by simp only[Av,List.mem_map];exact⟨x,hx,rfl⟩)
  simp only[List.mem_map] at this
  obtain⟨y,hyd,hy2⟩:=this
  have hyl:=hd y hyd
  rw[←Mw hnd hyl hx hy2]
  exact hyd
 ·obtain⟨y,hyl,rfl⟩:=FQ he
  have hnd':ebo y∉done.map ebo:=by simpa [ebo] using hne
  have hit2:w2.heap[w.heap.size]?=some (.mapIter (some m) c (done.map ebo).toArray c):=by rcases hw2 with rfl|rfl<;>exact hit
  have hc2:Chg [] w1 w2:=by rcases hw2 with rfl|rfl;exact Chg.refl _ _;exact(Chg.refl _ _).drew
  have hl2:=Aa hit2
  have hc3:Chg [w.heap.size] w1 (Ab w2 w.heap.size (.mapIter (some m) c ((done.map ebo).toArray.push y.2.2) c)):=(hc2.mono (by simp)).set _ _ (by simp)
  have hi3:=hI _ _ _ hi hc3
  have hit3:(Ab w2 w.heap.size (.mapIter (some m) c ((done.map ebo).toArray.push y.2.2) c)).heap[w.heap.size]?=some (.mapIter (some m) c ((done.map ebo).toArray.push y.2.2) c):=Ar _ _ _ _ rfl hl2
  generalize Ab w2 _ _=w3 at hc3 hi3 hit3 ⊢
  have hm3:=hM _ _ hi3
  simp -dsimp (disch:=first|omega|(simp only[go_sem,seval];try omega))only[go_sem,seval]
  rw[Oi (e:=⟨.int .i64 y.1,y.2.1,y.2.2⟩) hit3 hm3 he (by rw[LI];exact hnd)]
  simp -dsimp (disch:=first|omega|(simp only[go_sem,seval];try omega))only[go_sem,seval]
  have hdl:done.length<l.length:=by
   have h1:(done.map ebo++[ebo y]).Nodup:=by
    rw[List.nodup_append]
    exact⟨hdn,by simp,by intro a ha b hb;simp at hb;subst hb;rintro rfl;exact hnd' ha⟩
   have h2:=List.Nodup.length_le_of_subset h1 (l₂:=l.map ebo) (by
    intro a ha
    rcases List.mem_append.1 ha with ha|ha
    ·obtain⟨z,hz,rfl⟩:=List.mem_map.1 ha
     exact List.mem_map.2 ⟨z,hd z hz,rfl⟩
    ·simp at ha;subst ha;exact List.mem_map.2 ⟨y,hyl,rfl⟩)
   simp at h2;omega
  refine(hy _ y w3 hi3 hyl (by simpa using hdl)).use ?_
  rintro v w4 ⟨rfl,hi4,G,hc4,hG⟩
  simp -dsimp (disch:=first|omega|(simp only[go_sem,seval];try omega))only[go_sem,seval]
  have hit4:=hc4.keep hit3 hG
  refine hn (done++[y]) _ ⟨?_,?_,?_,?_⟩ (by simp;omega)
  ·intro x hx
   rcases List.mem_append.1 hx with hx|hx
   ·exact hd x hx
   ·simp at hx;subst hx;exact hyl
  ·rw[List.map_append,List.nodup_append]
   exact⟨hdn,by simp,by intro a ha b hb;simp at hb;subst hb;rintro rfl;exact hnd' ha⟩
  ·simpa using hi4
  ·rw[hit4];simp [ebo]
def Gv (pt:Nat):Value:=.func (.func 69) #[] #[.pointer (some ⟨pt,0,none⟩)]
theorem RE {w:World} {m c:Nat} {l:AH} (hm:w.heap[m]?=some (.map (Av .i64 l) c)):Calls Tryz.prog 38 #[.map (some m)] w
  (Ac fun v w'=>v=Gv w.heap.size∧w'.heap[w.heap.size]?=some (.cells #[.map (some m)] 76)∧Chg [] w w'):=by
 apply Uq
 intro K hK
 unfold Jc
 simp -dsimp (disch:=first|omega|(simp only[go_sem,seval];try omega))only[go_sem,seval]
 exact hK _ _ ⟨rfl,Lyc.heap_alloc_new _ _ _ rfl,AB _ _⟩
theorem R3 {w:World} {pt m c:Nat} {l:AH} (hb:w.heap[pt]?=some (.cells #[.map (some m)] 76)) (hm:w.heap[m]?=some (.map (Av .i64 l) c)) (hlt:∀x∈l,ebo x<c) (hnd:(l.map ebo).Nodup) (hlen:l.length≤1000000) :
  Calls Tryz.prog 111 #[.slice none 0 0,Gv pt] w (Ac fun v w'=>∃ks,ks.Perm (l.map (·.1))∧Ox w.heap.size w' 3 1 Cr v ks∧Chg [] w w'):=by
 have hlp:=Aa hb
 have hlm:=Aa hm
 apply Th
 intro K hK
 unfold LZ
 simp -dsimp (disch:=first|omega|(simp only[go_sem,seval];try omega))only[go_sem,seval]
 have hc0:=AB w (.cells #[.slice none 0 0] 40)
 have hb0:=Lyc.heap_alloc_new w (.cells #[.slice none 0 0] 40) _ rfl
 have hz0:(w.alloc (.cells #[.slice none 0 0] 40)).heap.size=w.heap.size+1:=by simp -dsimp (disch:=first|omega|(simp only[go_sem,seval];try omega))only[go_sem,seval]
 generalize w.alloc (.cells #[.slice none 0 0] 40)=w0 at hc0 hb0 hz0 ⊢
 refine⟨fun Lp yv hyv=>⟨_,[],_,rfl,XW,?_⟩⟩
 have hl:((w0.alloc (.deferred (some []))).alloc (Lp .ready)).heap[w0.heap.size+1]?=some (Lp .ready):=by simp -dsimp (disch:=first|omega|(simp only[go_sem,seval];try omega))only[go_sem,seval]
 have hr:((w0.alloc (.deferred (some []))).alloc (Lp .ready)).heap[w0.heap.size]?=some (.deferred (some [])):=by simp -dsimp (disch:=first|omega|(simp only[go_sem,seval];try omega))only[go_sem,seval]
 have hc1:=BY w0 (.deferred (some [])) (Lp .ready)
 have hz1:((w0.alloc (.deferred (some []))).alloc (Lp .ready)).heap.size=w0.heap.size+2:=by simp -dsimp (disch:=first|omega|(simp only[go_sem,seval];try omega))only[go_sem,seval]
 generalize (w0.alloc (.deferred (some []))).alloc (Lp .ready)=w1 at hl hr hc1 hz1 ⊢
 have hc01:=hc0.trans0 hc1
 have hb1:=hc1.keep hb0 (by simp)
 refine Calls.ret (Vh (w:=w1) (pt:=pt) (m:=m) (c:=c) (l:=l) (hc01.keep hb (by simp)) (hc01.keep hm (by simp)) hlt hnd
  (fun ks w2=>w2.heap[w0.heap.size+1]?=some (Lp .ready)∧Chg [w.heap.size,w0.heap.size+1] w1 w2∧∃v,w2.heap[w.heap.size]?=some (.cells #[v] 40)∧Ox (w1.heap.size+1) w2 3 1 Cr v ks) ?_ ?_ ?_ ?_) ?_
 ·exact fun w2 hc2=>⟨hc2.keep hl (by simp),hc2.mono (by simp),_,hc2.keep hb1 (by simp),Ox.nil _ _ _ _ _⟩
 ·rintro ks w2 w3 ⟨h1,h2,v,h3,h4⟩ hc
  exact⟨hc.keep h1 (by simp;omega),h2.trans hc (by simp),v,hc.keep h3 (by simp;omega),h4.low hc (by simp)⟩
 ·rintro ks w2 ⟨h1,h2,v,h3,h4⟩
  exact h2.keep (hc01.keep hm (by simp)) (by simp;omega)
 ·rintro ks x w2 ⟨h1,h2,v,h3,h4⟩ hx hlen'
  refine hyv _ _ _ rfl h1 ⟨h1,?_⟩
  have hl1:=Aa h1
  have hl3:=Aa h3
  have hc3:Chg [w0.heap.size+1] w2 (Ab w2 (w0.heap.size+1) (Lp .busy)):=(Chg.refl _ _).set _ _ (by simp)
  have h1':(Ab w2 (w0.heap.size+1) (Lp .busy)).heap[w0.heap.size+1]?=some (Lp .busy):=Ar _ _ _ _ rfl hl1
  have h3':=hc3.keep h3 (by simp;omega)
  have h4':=h4.low hc3 (by simp;omega)
  have h2':Chg [w.heap.size,w0.heap.size+1] w1 (Ab w2 (w0.heap.size+1) (Lp .busy)):=h2.trans hc3 (by simp)
  generalize Ab w2 _ _=w3 at hc3 h1' h3' h4' h2' ⊢
  have hl3':=Aa h3'
  obtain⟨a,cap,rfl,hcp,hsx,hown,-⟩:=h4'.form
  simp -dsimp (disch:=first|omega|(simp only[go_sem,seval];try omega))only[go_sem,seval,h3',BB]
  have hs2:=h2'.size
  have hca:=AB w3 (.cells #[.int .i64 x.1] 3)
  have ho:=h4'.chg0 hca
  have hsa:Sx (w3.alloc (.cells #[.int .i64 x.1] 3)) (some 3) Cr (some ⟨w3.heap.size,0,none⟩) [x.1]:=Sx.built (c:=[.int .i64 x.1]) (by simp -dsimp (disch:=first|omega|(simp only[go_sem,seval];try omega))only[go_sem,seval]) rfl
  have hb3:=hca.keep h3' (by simp)
  have hb3':=hca.keep h1' (by simp)
  have hz3:(w3.alloc (.cells #[.int .i64 x.1] 3)).heap.size=w3.heap.size+1:=by simp -dsimp (disch:=first|omega|(simp only[go_sem,seval];try omega))only[go_sem,seval]
  generalize w3.alloc _=w4 at hca ho hsa hb3 hb3' hz3 ⊢
  refine BJ WJ Vy SW ho hsa rfl (by simp;omega) (by omega) (by omega) ?_
  intro v' w5 ho5 hc5 _
  have hge:=ho.own_ge
  have hb5:=hc5.keep hb3 (fun hm=>by have:=hge _ hm;omega)
  have hb5':=hc5.keep hb3' (fun hm=>by have:=hge _ hm;omega)
  have hl5:=Aa hb5
  have hl5':=Aa hb5'
  obtain⟨a5,cap5,rfl,-,-,hown5,-⟩:=ho5.form
  have hc6:Chg [w.heap.size,w0.heap.size+1] w5 (Ab (Ab w5 w.heap.size (.cells #[.slice a5 (ks++[x.1]).length cap5] 40)) (w0.heap.size+1) (Lp .ready)):=((Chg.refl _ _).set _ _ (by simp)).set _ _ (by simp)
  have hc25:Chg ([w0.heap.size+1]++(Value.slice a ks.length cap).ownBlock.toList) w2 w5:=((hc3.mono (by simp)).trans0 hca).trans hc5 (by simp;intro x hx;exact .inl (.inr hx))
  have hc46:Chg ((Value.slice a ks.length cap).ownBlock.toList++[w.heap.size,w0.heap.size+1]) w4 (Ab (Ab w5 w.heap.size (.cells #[.slice a5 (ks++[x.1]).length cap5] 40)) (w0.heap.size+1) (Lp .ready)):=(hc5.mono (fun x hx=>.inl (List.mem_append_left _ hx))).trans hc6 (fun x hx=>.inl (List.mem_append_right _ hx))
  simp -dsimp (disch:=first|omega|(simp only[go_sem,seval];try omega))only[go_sem,seval,hb5,hb5']
  refine⟨⟨((h2'.trans0 hca)).trans hc46 ?_,_,rfl,ho5.low hc6 (by simp;omega)⟩,_,(((hc3.mono (F':=(w0.heap.size+1)::((Value.slice a ks.length cap).ownBlock.toList++[w.heap.size,w0.heap.size+1])) (by simp)).trans0 hca).trans hc46 (fun x hx=>.inl (by simp only[List.mem_cons];exact .inr hx))),?_⟩
  ·intro x hx
   rcases List.mem_append.1 hx with hx|hx
   ·right;have:=hge x hx;omega
   ·exact .inl hx
  ·simp only[List.mem_cons,List.mem_append,List.not_mem_nil,or_false,not_or]
   refine⟨by omega,fun hm=>?_,by omega,by omega⟩
   have:=hge _ hm;omega
 ·rintro v w2 ⟨ks,hp,h1,h2,v',h3,h4⟩
  refine .inl ⟨h1,?_⟩
  have hl1:=Aa h1
  have hc3:Chg [w0.heap.size+1] w2 (Ab w2 (w0.heap.size+1) (Lp (.over .normal))):=(Chg.refl _ _).set _ _ (by simp)
  have h3':=hc3.keep h3 (by simp;omega)
  have h4':=h4.low hc3 (by simp;omega)
  have hr2:=(h2.trans hc3 (by simp)).keep hr (by simp;omega)
  have hc4:=h2.trans hc3 (by simp)
  generalize Ab w2 _ _=w3 at hc3 h3' h4' hr2 hc4 ⊢
  simp -dsimp (disch:=first|omega|(simp only[go_sem,seval];try omega))only[go_sem,seval,h3']
  refine ER hr2 ?_
  have hc5:Chg [w0.heap.size] w3 (Ab w3 w0.heap.size (.deferred none)):=(Chg.refl _ _).set _ _ (by simp)
  refine hK _ _ ⟨ks,hp,(h4'.low hc5 (by simp;omega)).base_le (by omega),(hc01.trans hc4 ?_).trans hc5 ?_⟩
  ·simp;omega
  ·simp;omega
theorem W7 {w:World} {base:Nat} {a:Option Addr} {cap:Nat} {zs:List Int} (ho:Ox base w 3 1 Cr (.slice a zs.length cap) zs) (hz:zs.length≤1000000) :
  Calls Tryz.prog 68 #[.slice a zs.length cap] w (Ac fun v w'=>Ox base w' 3 1 Cr (.slice a zs.length cap) (zs.mergeSort fun x y=>decide (x≤y))∧Chg (Value.slice a zs.length cap).ownBlock.toList w w'):=by
 have hfl:zs.flatMap Cr=zs.map (Value.int .i64):=by
  clear ho hz
  induction zs with
  | nil=>rfl
  | cons x l ih=>rw[List.flatMap_cons,ih];rfl
 by_cases h0:zs=[]
 ·subst h0
  have hms:([]:List Int).mergeSort (fun x y=>decide (x≤y))=[]:=by simp
  rw[hms]
  refine(Tryz.slices_Sort_int_none a cap w).mono ?_
  rintro e w' ⟨rfl,rfl⟩
  exact⟨ho,Chg.refl _ _⟩
 ·obtain⟨hl,ho'⟩:=ho
  rcases ho' with ⟨hv,-⟩|⟨g,cap',cur,hv,hbase,hg,h1,h2,h3,h4⟩
  ·rw[Value.slice.injEq] at hv
   exact absurd (List.eq_nil_of_length_eq_zero hv.2.1) h0
  rw[Value.slice.injEq] at hv
  obtain⟨rfl,-,rfl⟩:=hv
  have hlt:=Aa hg
  have h2':cap≤maxLen:=h2
  unfold maxLen at h2'
  have ht:cur.toList.take zs.length=zs.map (Value.int .i64):=by rw[←hfl];simpa using h4
  have hml:(zs.mergeSort fun x y=>decide (x≤y)).length=zs.length:=List.length_mergeSort _
  have hfl2:∀l:List Int,l.flatMap Cr=l.map (Value.int .i64):=by
   intro l
   induction l with
   | nil=>rfl
   | cons x l ih=>rw[List.flatMap_cons,ih];rfl
  refine(Tryz.slices_Sort_int g 0 cap zs w (holds_of_blockI hg ht) hlt (by omega)).mono ?_
  rintro e w' ⟨rfl,n,os,rfl⟩
  refine⟨?_,?_⟩
  ·have:=ownsRow_sortedI (base:=base) (n:=n) (os:=os) (ss:=zs) (ts:=zs.mergeSort fun x y=>decide (x≤y)) hml hbase hg h1 h2 h3
   unfold Ox
   rw[hfl2,hml]
   exact this
  ·obtain⟨k1,k2,k3,k4,k5⟩:=grownBy_sortedI (w:=w) (g:=g) (n:=n) (os:=os) (zs.mergeSort fun x y=>decide (x≤y)).toArray
   refine⟨k1,k2,k3,k4,fun b hb hn=>k5 b hb ?_⟩
   simp [Value.ownBlock] at hn
   intro he
   exact hn (Option.some.inj he)
def DF (l:List Int):Prop:=l.Pairwise (·<·)
theorem Se {l:List Int} (h:l.Nodup):DF (l.mergeSort fun x y=>decide (x≤y)):=by
 have h1:=List.pairwise_mergeSort (le:=fun x y:Int=>decide (x≤y)) (by intro a b c;simp;omega) (by intro a b;simp;omega) l
 have h2:(l.mergeSort fun x y=>decide (x≤y)).Nodup:=(List.mergeSort_perm l _).nodup_iff.2 h
 have h3:(l.mergeSort fun x y=>decide (x≤y)).Pairwise (·≠·):=h2
 exact(h1.and h3).imp fun h=>by simp at h;omega
theorem TL {w:World} {pt m c:Nat} {l:AH} (hb:w.heap[pt]?=some (.cells #[.map (some m)] 76)) (hm:w.heap[m]?=some (.map (Av .i64 l) c)) (hlt:∀x∈l,ebo x<c) (hnd:(l.map ebo).Nodup) (hlen:l.length≤1000000) (hk:(l.map (·.1)).Nodup) :
  Calls Tryz.prog 37 #[Gv pt] w (Ac fun v w'=>∃ks,ks.Perm (l.map (·.1))∧DF ks∧Ox w.heap.size w' 3 1 Cr v ks∧Chg [] w w'):=by
 have hcol:Calls Tryz.prog 67 #[Gv pt] w (Ac fun v w'=>∃ks,ks.Perm (l.map (·.1))∧Ox w.heap.size w' 3 1 Cr v ks∧Chg [] w w'):=by
  apply Y2
  intro K hK
  unfold NO
  refine OpX.call W6 rfl (Calls.ret (R3 hb hm hlt hnd hlen) ?_)
  exact fun v w' h=>hK _ _ h
 apply Yb
 intro K hK
 unfold J0
 refine OpX.call WG rfl (Calls.ret (hcol) ?_)
 rintro v w1 ⟨ks,hp,ho,hc⟩
 obtain⟨a,cap,rfl,-,-,hown,-⟩:=ho.form
 refine OpX.call ?_ rfl (Calls.ret (W7 ho (by rw[hp.length_eq];simpa using hlen)) ?_)
 ·exact bd Tryz.func68 (by kernel_rfl)
 rintro v w2 ⟨ho2,hc2⟩
 refine hK _ _ ⟨_,(List.mergeSort_perm _ _).trans hp,Se (hp.nodup_iff.2 hk),?_,hc.trans hc2 fun x hx=>.inr (ho.own_ge x hx)⟩
 have hml:(ks.mergeSort fun x y=>decide (x≤y)).length=ks.length:=List.length_mergeSort _
 exact ho2
set_option maxRecDepth 100000
def I6 (p0 p1:Value) (K:Value→World→Prop):World→Prop :=
 xB 33 p1 fun t3 =>
 xC 13 [.const p0] [27] 3 fun t7 =>
 xC 30 [.const p0,.const t7] [27,3] 81 fun t8 =>
 xO .eql 81 t8 (.pointer none) fun t9 =>
 xW t9
 (xC 31 [.const (.int .i64 13)] [34] 30 fun t10 =>
 K t10) <|
 xF 33 t3 3 fun t11 =>
 xL 9 t11 fun t12 =>
 xU t12 9 fun t13 =>
 xO .gtr 3 t13 (.int .i64 2000) fun t14 =>
 xW t14
 (xC 31 [.const (.int .i64 16)] [34] 30 fun t15 =>
 K t15) <|
 xF 33 t3 0 fun t16 =>
 xL 3 t16 fun t17 =>
 xO .eql 3 t17 (.int .i64 1) fun t19 =>
 xW t19
 (xF 33 t3 3 fun t21 =>
 xL 9 t21 fun t22 =>
 xC 32 [.const p0,.const t22] [27,9] 30 fun t23 =>
 K t23) <|
 xO .eql 3 t17 (.int .i64 2) fun t25 =>
 xW t25
 (xF 33 t3 1 fun t27 =>
 xL 3 t27 fun t28 =>
 xF 33 t3 2 fun t29 =>
 xL 3 t29 fun t30 =>
 xF 33 t3 3 fun t31 =>
 xL 9 t31 fun t32 =>
 xC 33 [.const p0,.const t28,.const t30,.const t32] [27,3,3,9] 30 fun t33 =>
 K t33) <|
 xO .eql 3 t17 (.int .i64 3) fun t35 =>
 xW t35
 (xF 33 t3 4 fun t37 =>
 xL 3 t37 fun t38 =>
 xF 33 t3 5 fun t39 =>
 xL 3 t39 fun t40 =>
 xC 34 [.const p0,.const t38,.const t40] [27,3,3] 30 fun t41 =>
 K t41) <|
 xC 31 [.const (.int .i64 18)] [34] 30 fun t42 =>
 K t42
theorem VO (p0 p1:Value):Lk 11 #[p0,p1] (I6 p0 p1):=lk [p0,p1] [] Tryz.func11
theorem Eu:Ad Tryz.prog 11:=bd Tryz.func11
def La (p0:Value) (K:Value→World→Prop):World→Prop :=
 xO .eql 27 p0 (.pointer none) fun t4 =>
 xW t4
 (K (.int .i64 0)) <|
 OpX Tryz.prog (.nilCheck (.const p0)) 0 fun t6 =>
 xF 80 t6 4 fun t7 =>
 xL 3 t7 fun t8 =>
 K t8
theorem V5 (p0:Value):Lk 13 #[p0] (La p0):=lk [p0] [] Tryz.func13
theorem Zr:Ad Tryz.prog 13:=bd Tryz.func13
def Nz (p0 p1:Value) (K:Value→World→Prop):World→Prop :=
 xC 30 [.const p0,.const p1] [27,3] 81 fun t8 =>
 xO .eql 81 t8 (.pointer none) fun t10 =>
 xW t10
 (K (.slice none 0 0)) <|
 OpX Tryz.prog (.nilCheck (.const t8)) 0 fun t12 =>
 xF 94 t12 0 fun t13 =>
 xL 91 t13 fun t14 =>
 xC 36 [.const t14] [91] 37 fun t15 =>
 K t15
theorem UB (p0 p1:Value):Lk 14 #[p0,p1] (Nz p0 p1):=lk [p0,p1] [] Tryz.func14
theorem Y1:Ad Tryz.prog 14:=bd Tryz.func14
def M0 (p0:Value) (K:Value→World→Prop):World→Prop :=
 xO .eql 27 p0 (.pointer none) fun t4 =>
 xW t4
 (K (.slice none 0 0)) <|
 OpX Tryz.prog (.nilCheck (.const p0)) 0 fun t6 =>
 xF 80 t6 3 fun t7 =>
 xL 76 t7 fun t8 =>
 xC 38 [.const t8] [76] 97 fun t9 =>
 xC 37 [.const t9] [97] 40 fun t10 =>
 K t10
theorem Xq (p0:Value):Lk 16 #[p0] (M0 p0):=lk [p0] [] Tryz.func16
theorem Pz:Ad Tryz.prog 16:=bd Tryz.func16
def LS (p0:Value) (K:Value→World→Prop):World→Prop :=
 xO .eql 27 p0 (.pointer none) fun t5 =>
 xW t5
 (K (.slice none 0 0)) <|
 OpX Tryz.prog (.nilCheck (.const p0)) 0 fun t7 =>
 xF 80 t7 7 fun t8 =>
 xL 53 t8 fun t9 =>
 OpX Tryz.prog (.nilCheck (.const p0)) 0 fun t11 =>
 xF 80 t11 7 fun t12 =>
 xS 53 t12 (.slice none 0 0) <|
 K t9
theorem Uw (p0:Value):Lk 20 #[p0] (LS p0):=lk [p0] [] Tryz.func20
theorem Nl:Ad Tryz.prog 20:=bd Tryz.func20
def Ln (p0 p1 p2:Value) (K:Value→World→Prop):World→Prop :=
 xA 59 fun t6 =>
 xC 30 [.const p0,.const p1] [27,3] 81 fun t11 =>
 xO .eql 81 t11 (.pointer none) fun t13 =>
 xW t13
 (OpX Tryz.prog (.build 59 #[]) 59 fun t14 =>
 xS 59 t6 t14 <|
 xD 59 t6 fun t6_1 =>
 K t6_1) <|
 Join1 (fun k1 =>
 Join1 (fun k2 =>
 OpX Tryz.prog (.nilCheck (.const p0)) 0 fun t17 =>
 xF 80 t17 4 fun t18 =>
 xL 3 t18 fun t19 =>
 xO .eql 3 p1 t19 fun t20 =>
 xW t20
 (OpX Tryz.prog (.nilCheck (.const t11)) 0 fun t24 =>
 xF 94 t24 1 fun t25 =>
 xL 3 t25 fun t26 =>
 xO .eql 3 p2 t26 fun t27 =>
 k2 t27) <|
 k2 (.bool false)) fun t28 =>
 xW t28
 (OpX Tryz.prog (.nilCheck (.const p0)) 0 fun t30 =>
 xF 80 t30 6 fun t31 =>
 xL 3 t31 fun t32 =>
 k1 t32) <|
 k1 (.int .i64 0)) fun t8 =>
 xC 39 [.const t11,.const p2] [81,3] 99 fun t35 =>
 xC 40 [.const t35,.const t8] [99,3] 59 fun t37 =>
 xS 59 t6 t37 <|
 xD 59 t6 fun t6_2 =>
 K t6_2
theorem SN (p0 p1 p2:Value):Lk 21 #[p0,p1,p2] (Ln p0 p1 p2):=lk [p0,p1,p2] [(14,[8]),(16,[28])] Tryz.func21
theorem Mj:Ad Tryz.prog 21:=bd Tryz.func21
def IZ (p0 p1:Value) (K:Value→World→Prop):World→Prop :=
 xO .eql 27 p0 (.pointer none) fun t6 =>
 xW t6
 (K (.pointer none)) <|
 OpX Tryz.prog (.nilCheck (.const p0)) 0 fun t8 =>
 xF 80 t8 3 fun t9 =>
 xL 76 t9 fun t10 =>
 OpX Tryz.prog (.lookup 76 (.const t10) (.const p1) false) 81 fun t12 =>
 K t12
theorem U1 (p0 p1:Value):Lk 30 #[p0,p1] (IZ p0 p1):=lk [p0,p1] [] Tryz.func30
theorem FK:Ad Tryz.prog 30:=bd Tryz.func30
def OG (p0 p1:Value) (K:Value→World→Prop):World→Prop :=
 OpX Tryz.prog (.nilCheck (.const p0)) 0 fun t11 =>
 xF 80 t11 5 fun t12 =>
 xC 52 [.const t12,.const p1] [78,9] 122 fun t14 =>
 xU t14 122 fun t15 =>
 Loop2 (.slice none 0 0) (.int .i64 0) fun t5 t16 next1 =>
 xO .lss 3 t16 t15 fun t17 =>
 xW t17
 (xI 122 t14 t16 fun t19 =>
 xL 125 t19 fun t20 =>
 xA 125 fun t7 =>
 xS 125 t7 t20 <|
 xL 125 t7 fun t23 =>
 xC 53 [.const p0,.const t23] [27,125] 126 fun t24 =>
 xE t24 0 9 fun t25 =>
 xE t24 1 30 fun t26 =>
 xC 55 [.const t26,.const t25] [30,9] 30 fun t30 =>
 xC 54 [.const t30,.const t16] [30,3] 30 fun t32 =>
 OpX Tryz.prog (.buildSlice 116 1 #[(0,.const t32)]) 116 fun t33 =>
 OpX Tryz.prog (.call { callee:=.builtin .append,args:=#[.const t5,.const t33],argTypes:=#[116,116] }) 116 fun t34 =>
 xO .add 3 t16 (.int .i64 1) fun t35 =>
 next1 t34 t35) <|
 xC 56 [.const t5] [116] 30 fun t37 =>
 K t37
theorem Xn (p0 p1:Value):Lk 32 #[p0,p1] (OG p0 p1):=lk [p0,p1] [(8,[5,16])] Tryz.func32
theorem ZH:Ad Tryz.prog 32:=bd Tryz.func32
def Km (p0 p1 p2 p3:Value) (K:Value→World→Prop):World→Prop :=
 xC 30 [.const p0,.const p1] [27,3] 81 fun t12 =>
 xC 39 [.const t12,.const p2] [81,3] 99 fun t14 =>
 xO .eql 99 t14 (.pointer none) fun t16 =>
 xW t16
 (xC 31 [.const (.int .i64 12)] [34] 30 fun t17 =>
 K t17) <|
 OpX Tryz.prog (.buildSlice 108 1 #[(0,.const p3)]) 108 fun t20 =>
 xC 57 [.const t14,.const t20] [99,108] 0 fun _ =>
 xC 58 [.const p0,.const (.int .i64 0)] [27,3] 0 fun _ =>
 K .nilIface
theorem RJ (p0 p1 p2 p3:Value):Lk 33 #[p0,p1,p2,p3] (Km p0 p1 p2 p3):=lk [p0,p1,p2,p3] [] Tryz.func33
theorem YY:Ad Tryz.prog 33:=bd Tryz.func33
def LJ (p0 p1 p2:Value) (K:Value→World→Prop):World→Prop :=
 xC 28 [.const p1,.const p2] [3,3] 4 fun t16 =>
 xN 4 t16 fun t17 =>
 xW t17
 (xC 31 [.const (.int .i64 1)] [34] 30 fun t18 =>
 K t18) <|
 OpX Tryz.prog (.nilCheck (.const p0)) 0 fun t20 =>
 xF 80 t20 3 fun t21 =>
 xL 76 t21 fun t22 =>
 OpX Tryz.prog (.range 76 (.const t22)) 0 fun t23 =>
 Loop0 fun next1 =>
 OpX Tryz.prog (.next (.const t23) false) 0 fun t24 =>
 xE t24 0 4 fun t25 =>
 xW t25
 (OpX Tryz.prog (.entry (.const t23)) 0 fun t26 =>
 xE t26 1 81 fun t27 =>
 OpX Tryz.prog (.nilCheck (.const t27)) 0 fun t29 =>
 xF 94 t29 0 fun t30 =>
 xL 91 t30 fun t31 =>
 xO .sub 3 p2 (.int .i64 1) fun t34 =>
 xC 59 [.const t31,.const p1,.const t34] [91,3,3] 30 fun t35 =>
 xK .neq 30 t35 fun t37 =>
 xW t37
 (OpX Tryz.prog (.nilCheck (.const p0)) 0 fun t39 =>
 xF 80 t39 3 fun t40 =>
 xL 76 t40 fun t41 =>
 OpX Tryz.prog (.range 76 (.const t41)) 0 fun t42 =>
 Loop0 fun next2 =>
 OpX Tryz.prog (.next (.const t42) false) 0 fun t43 =>
 xE t43 0 4 fun t44 =>
 xW t44
 (OpX Tryz.prog (.entry (.const t42)) 0 fun t45 =>
 xE t45 1 81 fun t46 =>
 Ai <|
 xP (.nilCheck (.const t46)) 0 fun t48 =>
 qF 94 t48 0 fun t49 =>
 qL 91 t49 fun t50 =>
 xP (.nilCheck (.const p0)) 0 fun t52 =>
 qF 80 t52 0 fun t53 =>
 qL 3 t53 fun t54 =>
 xP (.nilCheck (.const p0)) 0 fun t56 =>
 qF 80 t56 1 fun t57 =>
 qL 3 t57 fun t58 =>
 qP .sub 3 t58 (.int .i64 1) fun t59 =>
 xC 59 [.const t50,.const t54,.const t59] [91,3,3] 30 fun _ =>
 next2) <|
 xC 31 [.const (.int .i64 19)] [34] 30 fun t61 =>
 K t61) <|
 next1) <|
 OpX Tryz.prog (.nilCheck (.const p0)) 0 fun t66 =>
 xF 80 t66 0 fun t67 =>
 xS 3 t67 p1 <|
 OpX Tryz.prog (.nilCheck (.const p0)) 0 fun t68 =>
 xF 80 t68 1 fun t69 =>
 xS 3 t69 p2 <|
 OpX Tryz.prog (.nilCheck (.const p0)) 0 fun t71 =>
 xF 80 t71 3 fun t72 =>
 xL 76 t72 fun t73 =>
 OpX Tryz.prog (.range 76 (.const t73)) 0 fun t74 =>
 Loop0 fun next3 =>
 OpX Tryz.prog (.next (.const t74) false) 0 fun t75 =>
 xE t75 0 4 fun t76 =>
 xW t76
 (OpX Tryz.prog (.entry (.const t74)) 0 fun t77 =>
 xE t77 1 81 fun t78 =>
 xC 51 [.const t78] [81] 0 fun _ =>
 next3) <|
 K .nilIface
theorem PT (p0 p1 p2:Value):Lk 34 #[p0,p1,p2] (LJ p0 p1 p2):=lk [p0,p1,p2] [(14,[]),(33,[]),(54,[])] Tryz.func34
theorem PX:Ad Tryz.prog 34:=bd Tryz.func34
def Jm (p0 p1:Value) (K:Value→World→Prop):World→Prop :=
 xB 125 p1 fun t3 =>
 Ai <|
 xP (.nilCheck (.const p0)) 0 fun t9 =>
 qF 80 t9 3 fun t10 =>
 qL 76 t10 fun t11 =>
 xP (.nilCheck (.const p0)) 0 fun t13 =>
 qF 80 t13 4 fun t14 =>
 qL 3 t14 fun t15 =>
 xR (.lookup 76 (.const t11) (.const t15) false) 81 fun t16 =>
 xF 125 t3 0 fun t17 =>
 xL 3 t17 fun t18 =>
 Join0 (fun k1 =>
 Join0 (fun k2 =>
 xO .eql 3 t18 (.int .i64 1) fun t20 =>
 xW t20
 (Ai <|
 xP (.nilCheck (.const p0)) 0 fun t48 =>
 qF 80 t48 4 fun t49 =>
 qL 3 t49 fun t50 =>
 xP (.nilCheck (.const t16)) 0 fun t52 =>
 qF 94 t52 1 fun t53 =>
 qL 3 t53 fun t54 =>
 qF 125 t3 2 fun t55 =>
 qL 9 t55 fun t56 =>
 OpX Tryz.prog (.build 56 #[(0,.const t50),(1,.const t54),(2,.const t56)]) 56 fun t57 =>
 xC 91 [.const p0,.const t57] [27,56] 0 fun _ =>
 k1) <|
 Join1 (fun k3 =>
 xO .eql 3 t18 (.int .i64 2) fun t22 =>
 xW t22
 (k3 (.bool true)) <|
 xO .eql 3 t18 (.int .i64 3) fun t23 =>
 k3 t23) fun t21 =>
 xW t21
 (xF 125 t3 0 fun t60 =>
 xL 3 t60 fun t61 =>
 xO .eql 3 t61 (.int .i64 2) fun t62 =>
 xC 92 [.const t16,.const t62] [81,4] 30 fun t63 =>
 xK .neq 30 t63 fun t65 =>
 xW t65
 (K (.tuple #[(.string { data:=#[115,112,108,105,116] }),t63])) <|
 xC 93 [.const p0] [27] 0 fun _ =>
 k1) <|
 xO .eql 3 t18 (.int .i64 4) fun t25 =>
 xW t25
 (Ai <|
 xP (.nilCheck (.const t16)) 0 fun t71 =>
 qF 94 t71 0 fun t72 =>
 qL 91 t72 fun t73 =>
 xP (.nilCheck (.const t16)) 0 fun t75 =>
 qF 94 t75 1 fun t76 =>
 qL 3 t76 fun t77 =>
 xC 94 [.const t73,.const t77] [91,3] 3 fun t78 =>
 xP (.nilCheck (.const t16)) 0 fun t79 =>
 qF 94 t79 1 fun t80 =>
 xS 3 t80 t78 <|
 xC 93 [.const p0] [27] 0 fun _ =>
 k1) <|
 xO .eql 3 t18 (.int .i64 5) fun t27 =>
 xW t27
 (xC 95 [.const p0,.const t16] [27,81] 30 fun t85 =>
 K (.tuple #[(.string { data:=#[99,108,111,115,101] }),t85])) <|
 xO .eql 3 t18 (.int .i64 6) fun t29 =>
 xW t29
 (xC 96 [.const p0] [27] 30 fun t87 =>
 K (.tuple #[(.string { data:=#[119,105,110,100,111,119] }),t87])) <|
 xO .eql 3 t18 (.int .i64 7) fun t31 =>
 xW t31
 (xC 98 [.const p0,.const (.int .i64 1)] [27,3] 3 fun t90 =>
 xC 97 [.const p0,.const t90] [27,3] 0 fun _ =>
 k1) <|
 xO .eql 3 t18 (.int .i64 8) fun t33 =>
 xW t33
 (xC 98 [.const p0,.const (.int .i64 (-1))] [27,3] 3 fun t94 =>
 xC 97 [.const p0,.const t94] [27,3] 0 fun _ =>
 k1) <|
 xO .eql 3 t18 (.int .i64 9) fun t35 =>
 xW t35
 (Ai <|
 xP (.nilCheck (.const p0)) 0 fun t97 =>
 qF 80 t97 3 fun t98 =>
 qL 76 t98 fun t99 =>
 qF 125 t3 1 fun t100 =>
 qL 3 t100 fun t101 =>
 xR (.lookup 76 (.const t99) (.const t101) false) 81 fun t102 =>
 qR .eql 81 t102 (.pointer none) fun t103 =>
 xW t103
 (xC 31 [.const (.int .i64 12)] [34] 30 fun t104 =>
 K (.tuple #[(.string { data:=#[115,101,108,101,99,116] }),t104])) <|
 xF 125 t3 1 fun t106 =>
 xL 3 t106 fun t107 =>
 xC 97 [.const p0,.const t107] [27,3] 0 fun _ =>
 k1) <|
 xO .eql 3 t18 (.int .i64 10) fun t37 =>
 xW t37
 (xF 125 t3 1 fun t110 =>
 xL 3 t110 fun t111 =>
 xC 99 [.const t16,.const t111] [81,3] 30 fun t112 =>
 K (.tuple #[(.string { data:=#[109,111,118,101] }),t112])) <|
 xO .eql 3 t18 (.int .i64 11) fun t39 =>
 xW t39
 (xF 125 t3 1 fun t114 =>
 xL 3 t114 fun t115 =>
 xC 58 [.const p0,.const t115] [27,3] 0 fun _ =>
 k1) <|
 xO .eql 3 t18 (.int .i64 14) fun t41 =>
 xW t41
 (k2) <|
 xO .eql 3 t18 (.int .i64 12) fun t43 =>
 xW t43
 (k2) <|
 xO .eql 3 t18 (.int .i64 13) fun t45 =>
 xW t45
 (OpX Tryz.prog (.nilCheck (.const p0)) 0 fun t121 =>
 xF 80 t121 8 fun t122 =>
 xL 3 t122 fun t123 =>
 xO .add 3 t123 (.int .i64 1) fun t124 =>
 OpX Tryz.prog (.nilCheck (.const p0)) 0 fun t125 =>
 xF 80 t125 8 fun t126 =>
 xS 3 t126 t124 <|
 k1) <|
 k1) <|
 OpX Tryz.prog (.nilCheck (.const p0)) 0 fun t118 =>
 xF 80 t118 6 fun t119 =>
 xS 3 t119 (.int .i64 0) <|
 k1) <|
 K (.tuple #[(.string { data:=#[] }),.nilIface])
theorem Xy (p0 p1:Value):Lk 53 #[p0,p1] (Jm p0 p1):=lk [p0,p1] [(7,[]),(11,[]),(41,[21])] Tryz.func53
theorem Q8:Ad Tryz.prog 53:=bd Tryz.func53
def NL (p0 p1:Value) (K:Value→World→Prop):World→Prop :=
 Ai <|
 xP (.nilCheck (.const p0)) 0 fun t6 =>
 qF 80 t6 3 fun t7 =>
 qL 76 t7 fun t8 =>
 xP (.nilCheck (.const p0)) 0 fun t10 =>
 qF 80 t10 4 fun t11 =>
 qL 3 t11 fun t12 =>
 xR (.lookup 76 (.const t8) (.const t12) false) 81 fun t13 =>
 Ai <|
 xP (.nilCheck (.const p0)) 0 fun t16 =>
 qF 80 t16 6 fun t17 =>
 qL 3 t17 fun t18 =>
 qP .add 3 t18 p1 fun t20 =>
 xP (.call { callee:=.builtin .max,args:=#[.const t20,.const (.int .i64 0)],argTypes:=#[3,3] }) 3 fun t21 =>
 xP (.nilCheck (.const t13)) 0 fun t24 =>
 qF 94 t24 1 fun t25 =>
 qL 3 t25 fun t26 =>
 xC 39 [.const t13,.const t26] [81,3] 99 fun t27 =>
 xT (qZ 3 t17 t18) <|
 xC 105 [.const t27] [99] 3 fun t28 =>
 xT (qZ 3 t17 t18) <|
 xP (.call { callee:=.builtin .min,args:=#[.const t21,.const t28],argTypes:=#[3,3] }) 3 fun t29 =>
 xP (.nilCheck (.const p0)) 0 fun t30 =>
 qF 80 t30 6 fun t31 =>
 xS 3 t31 t29 <|
 K (.tuple #[])
theorem S6 (p0 p1:Value):Lk 58 #[p0,p1] (NL p0 p1):=lk [p0,p1] [] Tryz.func58
theorem OI:Ad Tryz.prog 58:=bd Tryz.func58
def JG (p0 p1:Value) (K:Value→World→Prop):World→Prop :=
 xB 56 p1 fun t3 =>
 Ai <|
 xP (.nilCheck (.const p0)) 0 fun t6 =>
 qF 80 t6 7 fun t7 =>
 qL 53 t7 fun t8 =>
 qL 56 t3 fun t9 =>
 OpX Tryz.prog (.buildSlice 53 1 #[(0,.const t9)]) 53 fun t10 =>
 xT (qZ 53 t7 t8) <|
 OpX Tryz.prog (.call { callee:=.builtin .append,args:=#[.const t8,.const t10],argTypes:=#[53,53] }) 53 fun t11 =>
 xP (.nilCheck (.const p0)) 0 fun t12 =>
 qF 80 t12 7 fun t13 =>
 xS 53 t13 t11 <|
 OpX Tryz.prog (.nilCheck (.const p0)) 0 fun t15 =>
 xF 80 t15 7 fun t16 =>
 xL 53 t16 fun t17 =>
 xU t17 53 fun t18 =>
 xO .gtr 3 t18 (.int .i64 100) fun t19 =>
 xW t19
 (Ai <|
 xP (.nilCheck (.const p0)) 0 fun t22 =>
 qF 80 t22 7 fun t23 =>
 qL 53 t23 fun t24 =>
 xP (.nilCheck (.const p0)) 0 fun t26 =>
 qF 80 t26 7 fun t27 =>
 qL 53 t27 fun t28 =>
 xR (.call { callee:=.builtin .len,args:=#[.const t28],argTypes:=#[53] }) 3 fun t29 =>
 qP .sub 3 t29 (.int .i64 100) fun t30 =>
 xP (.slice 53 (.const t24) (some (.const t30)) none none) 53 fun t31 =>
 OpX Tryz.prog (.call { callee:=.builtin .append,args:=#[.const (.slice none 0 0),.const t31],argTypes:=#[53,53] }) 53 fun t32 =>
 xP (.nilCheck (.const p0)) 0 fun t33 =>
 qF 80 t33 7 fun t34 =>
 xS 53 t34 t32 <|
 K (.tuple #[])) <|
 K (.tuple #[])
theorem RX (p0 p1:Value):Lk 91 #[p0,p1] (JG p0 p1):=lk [p0,p1] [] Tryz.func91
theorem YZ:Ad Tryz.prog 91:=bd Tryz.func91
def I9 (p0:Value) (K:Value→World→Prop):World→Prop :=
 OpX Tryz.prog (.nilCheck (.const p0)) 0 fun t3 =>
 xF 80 t3 5 fun t4 =>
 xC 132 [.const t4] [78] 0 fun _ =>
 OpX Tryz.prog (.nilCheck (.const p0)) 0 fun t7 =>
 xF 80 t7 6 fun t8 =>
 xS 3 t8 (.int .i64 0) <|
 K (.tuple #[])
theorem Qi (p0:Value):Lk 93 #[p0] (I9 p0):=lk [p0] [] Tryz.func93
theorem FI:Ad Tryz.prog 93:=bd Tryz.func93
def KE (p0 p1:Value) (K:Value→World→Prop):World→Prop :=
 Join0 (fun k1 =>
 xC 133 [.const p1] [81] 4 fun t7 =>
 xN 4 t7 fun t8 =>
 xW t8
 (OpX Tryz.prog (.nilCheck (.const p0)) 0 fun t10 =>
 xF 80 t10 3 fun t11 =>
 xL 76 t11 fun t12 =>
 xU t12 76 fun t13 =>
 xO .eql 3 t13 (.int .i64 1) fun t14 =>
 xW t14
 (xC 31 [.const (.int .i64 13)] [34] 30 fun t15 =>
 K t15) <|
 xC 98 [.const p0,.const (.int .i64 1)] [27,3] 3 fun t17 =>
 Ai <|
 xP (.nilCheck (.const p0)) 0 fun t19 =>
 qF 80 t19 3 fun t20 =>
 qL 76 t20 fun t21 =>
 xP (.nilCheck (.const p0)) 0 fun t23 =>
 qF 80 t23 4 fun t24 =>
 qL 3 t24 fun t25 =>
 OpX Tryz.prog (.call { callee:=.builtin .delete,args:=#[.const t21,.const t25],argTypes:=#[76,3] }) 0 fun _ =>
 OpX Tryz.prog (.nilCheck (.const p0)) 0 fun t28 =>
 xF 80 t28 4 fun t29 =>
 xS 3 t29 t17 <|
 k1) <|
 k1) <|
 xC 93 [.const p0] [27] 0 fun _ =>
 K .nilIface
theorem ZC (p0 p1:Value):Lk 95 #[p0,p1] (KE p0 p1):=lk [p0,p1] [(2,[])] Tryz.func95
theorem R4:Ad Tryz.prog 95:=bd Tryz.func95
def LX (p0:Value) (K:Value→World→Prop):World→Prop :=
 Loop1 (.int .i64 1) fun t3 next1 =>
 xO .leq 3 t3 (.int .i64 9) fun t5 =>
 xW t5
 (OpX Tryz.prog (.nilCheck (.const p0)) 0 fun t9 =>
 xF 80 t9 3 fun t10 =>
 xL 76 t10 fun t11 =>
 OpX Tryz.prog (.lookup 76 (.const t11) (.const t3) false) 81 fun t13 =>
 xO .eql 81 t13 (.pointer none) fun t14 =>
 xW t14
 (Ai <|
 xP (.nilCheck (.const p0)) 0 fun t16 =>
 qF 80 t16 3 fun t17 =>
 qL 76 t17 fun t18 =>
 xP (.nilCheck (.const p0)) 0 fun t21 =>
 qF 80 t21 0 fun t22 =>
 qL 3 t22 fun t23 =>
 xP (.nilCheck (.const p0)) 0 fun t25 =>
 qF 80 t25 1 fun t26 =>
 qL 3 t26 fun t27 =>
 qP .sub 3 t27 (.int .i64 1) fun t28 =>
 xP (.nilCheck (.const p0)) 0 fun t30 =>
 qF 80 t30 2 fun t31 =>
 qL 3 t31 fun t32 =>
 xC 29 [.const t23,.const t28,.const t32] [3,3,3] 81 fun t33 =>
 xT (qZ 76 t17 t18) <|
 OpX Tryz.prog (.mapUpdate 76 (.const t18) (.const t3) (.const t33)) 0 fun _ =>
 xC 97 [.const p0,.const t3] [27,3] 0 fun _ =>
 K .nilIface) <|
 xO .add 3 t3 (.int .i64 1) fun t7 =>
 next1 t7) <|
 xC 31 [.const (.int .i64 15)] [34] 30 fun t37 =>
 K t37
theorem Ys (p0:Value):Lk 96 #[p0] (LX p0):=lk [p0] [(6,[3])] Tryz.func96
theorem PZ:Ad Tryz.prog 96:=bd Tryz.func96
def Of (p0 p1:Value) (K:Value→World→Prop):World→Prop :=
 OpX Tryz.prog (.nilCheck (.const p0)) 0 fun t6 =>
 xF 80 t6 4 fun t7 =>
 xS 3 t7 p1 <|
 xC 93 [.const p0] [27] 0 fun _ =>
 K (.tuple #[])
theorem YK (p0 p1:Value):Lk 97 #[p0,p1] (Of p0 p1):=lk [p0,p1] [] Tryz.func97
theorem FH:Ad Tryz.prog 97:=bd Tryz.func97
def NV (p0 p1:Value) (K:Value→World→Prop):World→Prop :=
 xC 16 [.const p0] [27] 40 fun t9 =>
 xU t9 40 fun t11 =>
 Loop1 (.int .i64 0) fun t12 next1 =>
 xO .lss 3 t12 t11 fun t13 =>
 xW t13
 (xI 40 t9 t12 fun t15 =>
 xL 3 t15 fun t16 =>
 OpX Tryz.prog (.nilCheck (.const p0)) 0 fun t19 =>
 xF 80 t19 4 fun t20 =>
 xL 3 t20 fun t21 =>
 xO .eql 3 t16 t21 fun t22 =>
 xW t22
 (xO .add 3 t12 p1 fun t26 =>
 xU t9 40 fun t28 =>
 xO .add 3 t26 t28 fun t29 =>
 xU t9 40 fun t31 =>
 xO .rem 3 t29 t31 fun t32 =>
 xI 40 t9 t32 fun t33 =>
 xL 3 t33 fun t34 =>
 K t34) <|
 xO .add 3 t12 (.int .i64 1) fun t35 =>
 next1 t35) <|
 OpX Tryz.prog (.nilCheck (.const p0)) 0 fun t37 =>
 xF 80 t37 4 fun t38 =>
 xL 3 t38 fun t39 =>
 K t39
theorem Yt (p0 p1:Value):Lk 98 #[p0,p1] (NV p0 p1):=lk [p0,p1] [(8,[12])] Tryz.func98
theorem IC:Ad Tryz.prog 98:=bd Tryz.func98
def J1 (p0 p1 p2:Value) (K:Value→World→Prop):World→Prop :=
 xC 28 [.const p0,.const p1] [3,3] 4 fun t10 =>
 xN 4 t10 fun t11 =>
 xW t11
 (K (.pointer none)) <|
 OpX Tryz.prog (.makeMap 76 none) 76 fun t15 =>
 OpX Tryz.prog (.build 80 #[(0,.const p0),(1,.const p1),(2,.const p2),(3,.const t15),(4,.const (.int .i64 1))]) 80 fun t16 =>
 OpX Tryz.prog (.box 80 (.const t16)) 27 fun t17 =>
 Ai <|
 xP (.nilCheck (.const t17)) 0 fun t19 =>
 qF 80 t19 3 fun t20 =>
 qL 76 t20 fun t21 =>
 qP .sub 3 p1 (.int .i64 1) fun t24 =>
 xC 29 [.const p0,.const t24,.const p2] [3,3,3] 81 fun t26 =>
 xT (qZ 76 t20 t21) <|
 OpX Tryz.prog (.mapUpdate 76 (.const t21) (.const (.int .i64 1)) (.const t26)) 0 fun _ =>
 K t17
theorem SP (p0 p1 p2:Value):Lk 10 #[p0,p1,p2] (J1 p0 p1 p2):=lk [p0,p1,p2] [] Tryz.func10
theorem KL:Ad Tryz.prog 10:=bd Tryz.func10
def NJ (p0 p1 p2:Value) (K:Value→World→Prop):World→Prop :=
 xC 50 [.const p0,.const p1] [3,3] 91 fun t10 =>
 OpX Tryz.prog (.makeMap 92 none) 92 fun t12 =>
 OpX Tryz.prog (.build 94 #[(0,.const t10),(1,.const (.int .i64 1)),(2,.const p2),(3,.const t12)]) 94 fun t13 =>
 OpX Tryz.prog (.box 94 (.const t13)) 81 fun t14 =>
 xC 51 [.const t14] [81] 0 fun _ =>
 K t14
theorem Zh (p0 p1 p2:Value):Lk 29 #[p0,p1,p2] (NJ p0 p1 p2):=lk [p0,p1,p2] [] Tryz.func29
theorem KF:Ad Tryz.prog 29:=bd Tryz.func29
def JE (p0 p1:Value) (K:Value→World→Prop):World→Prop :=
 Join1 (fun k1 =>
 xO .geq 3 p0 (.int .i64 1) fun t6 =>
 xW t6
 (xO .leq 3 p0 (.int .i64 200) fun t9 =>
 xW t9
 (xO .geq 3 p1 (.int .i64 2) fun t13 =>
 xW t13
 (xO .leq 3 p1 (.int .i64 60) fun t17 =>
 k1 t17) <|
 k1 (.bool false)) <|
 k1 (.bool false)) <|
 k1 (.bool false)) fun t4 =>
 K t4
theorem PL (p0 p1:Value):Lk 28 #[p0,p1] (JE p0 p1):=lk [p0,p1] [(3,[4])] Tryz.func28
theorem Nt:Ad Tryz.prog 28:=bd Tryz.func28
def HA (p0 p1:Value) (K:Value→World→Prop):World→Prop :=
 xO .eql 81 p0 (.pointer none) fun t6 =>
 xW t6
 (K (.pointer none)) <|
 OpX Tryz.prog (.nilCheck (.const p0)) 0 fun t8 =>
 xF 94 t8 3 fun t9 =>
 xL 92 t9 fun t10 =>
 OpX Tryz.prog (.lookup 92 (.const t10) (.const p1) false) 99 fun t12 =>
 K t12
theorem OY (p0 p1:Value):Lk 39 #[p0,p1] (HA p0 p1):=lk [p0,p1] [] Tryz.func39
theorem Gd:Ad Tryz.prog 39:=bd Tryz.func39
def Mo (p0:Value) (K:Value→World→Prop):World→Prop :=
 OpX Tryz.prog (.nilCheck (.const p0)) 0 fun t6 =>
 xF 94 t6 0 fun t7 =>
 xL 91 t7 fun t8 =>
 xC 36 [.const t8] [91] 37 fun t9 =>
 xU t9 37 fun t10 =>
 Loop1 (.int .i64 0) fun t11 next1 =>
 xO .lss 3 t11 t10 fun t12 =>
 xW t12
 (Join0 (fun k2 =>
 xI 37 t9 t11 fun t13 =>
 xL 51 t13 fun t14 =>
 xA 51 fun t3 =>
 xS 51 t3 t14 <|
 Ai <|
 xP (.nilCheck (.const p0)) 0 fun t16 =>
 qF 94 t16 3 fun t17 =>
 qL 92 t17 fun t18 =>
 qF 51 t3 0 fun t19 =>
 qL 3 t19 fun t20 =>
 xR (.lookup 92 (.const t18) (.const t20) false) 99 fun t21 =>
 xO .neq 99 t21 (.pointer none) fun t23 =>
 xW t23
 (xF 51 t3 1 fun t25 =>
 xF 49 t25 2 fun t26 =>
 xL 3 t26 fun t27 =>
 xF 51 t3 1 fun t28 =>
 xF 49 t28 3 fun t29 =>
 xL 3 t29 fun t30 =>
 xC 84 [.const t21,.const t27,.const t30] [99,3,3] 4 fun _ =>
 k2) <|
 Ai <|
 xP (.nilCheck (.const p0)) 0 fun t33 =>
 qF 94 t33 3 fun t34 =>
 qL 92 t34 fun t35 =>
 qF 51 t3 0 fun t36 =>
 qL 3 t36 fun t37 =>
 qF 51 t3 1 fun t38 =>
 qF 49 t38 2 fun t39 =>
 qL 3 t39 fun t40 =>
 qF 51 t3 1 fun t41 =>
 qF 49 t41 3 fun t42 =>
 qL 3 t42 fun t43 =>
 xP (.nilCheck (.const p0)) 0 fun t45 =>
 qF 94 t45 2 fun t46 =>
 qL 3 t46 fun t47 =>
 xC 85 [.const t40,.const t43,.const t47] [3,3,3] 99 fun t48 =>
 xT (qZ 3 t36 t37) <|
 xT (qZ 92 t34 t35) <|
 OpX Tryz.prog (.mapUpdate 92 (.const t35) (.const t37) (.const t48)) 0 fun _ =>
 k2) <|
 xO .add 3 t11 (.int .i64 1) fun t49 =>
 next1 t49) <|
 K (.tuple #[])
theorem WE (p0:Value):Lk 51 #[p0] (Mo p0):=lk [p0] [(3,[11]),(11,[])] Tryz.func51
theorem ED:Ad Tryz.prog 51:=bd Tryz.func51
def Ka (p0 p1:Value) (K:Value→World→Prop):World→Prop :=
 Ai <|
 xP (.nilCheck (.const p0)) 0 fun t9 =>
 qF 94 t9 0 fun t10 =>
 qL 91 t10 fun t11 =>
 xP (.nilCheck (.const p0)) 0 fun t13 =>
 qF 94 t13 1 fun t14 =>
 qL 3 t14 fun t15 =>
 xC 131 [.const t11,.const t15,.const p1] [91,3,4] 180 fun t17 =>
 xP (.extract (.const t17) 0) 3 fun t18 =>
 xP (.extract (.const t17) 1) 30 fun t19 =>
 xK .neq 30 t19 fun t21 =>
 xW t21
 (K t19) <|
 OpX Tryz.prog (.nilCheck (.const p0)) 0 fun t25 =>
 xF 94 t25 1 fun t26 =>
 xS 3 t26 t18 <|
 xC 51 [.const p0] [81] 0 fun _ =>
 K .nilIface
theorem XX (p0 p1:Value):Lk 92 #[p0,p1] (Ka p0 p1):=lk [p0,p1] [] Tryz.func92
theorem Te:Ad Tryz.prog 92:=bd Tryz.func92
def L9 (p0 p1:Value) (K:Value→World→Prop):World→Prop :=
 Join1 (fun k1 =>
 Join1 (fun k2 =>
 xO .eql 3 p1 (.int .i64 1) fun t8 =>
 xW t8
 (k2 (.bool true)) <|
 xO .eql 3 p1 (.int .i64 3) fun t11 =>
 k2 t11) fun t12 =>
 xW t12
 (k1 (.int .i64 (-1))) <|
 k1 (.int .i64 1)) fun t5 =>
 Ai <|
 xP (.nilCheck (.const p0)) 0 fun t14 =>
 qF 94 t14 0 fun t15 =>
 qL 91 t15 fun t16 =>
 xP (.nilCheck (.const p0)) 0 fun t18 =>
 qF 94 t18 1 fun t19 =>
 qL 3 t19 fun t20 =>
 qP .leq 3 p1 (.int .i64 2) fun t22 =>
 xC 134 [.const t16,.const t20,.const t22,.const t5] [91,3,4,3] 30 fun t24 =>
 xK .neq 30 t24 fun t26 =>
 xW t26
 (K t24) <|
 xC 51 [.const p0] [81] 0 fun _ =>
 K .nilIface
theorem Sg (p0 p1:Value):Lk 99 #[p0,p1] (L9 p0 p1):=lk [p0,p1] [(4,[5]),(6,[12])] Tryz.func99
theorem Wa:Ad Tryz.prog 99:=bd Tryz.func99
def O0 (p0:Value) (K:Value→World→Prop):World→Prop :=
 Ai <|
 xP (.nilCheck (.const p0)) 0 fun t7 =>
 qF 94 t7 1 fun t8 =>
 qL 3 t8 fun t9 =>
 xP (.nilCheck (.const p0)) 0 fun t11 =>
 qF 94 t11 0 fun t12 =>
 qL 91 t12 fun t13 =>
 xP (.nilCheck (.const p0)) 0 fun t15 =>
 qF 94 t15 1 fun t16 =>
 qL 3 t16 fun t17 =>
 xC 94 [.const t13,.const t17] [91,3] 3 fun t18 =>
 xT (qZ 3 t8 t9) <|
 xO .eql 3 t18 t9 fun t21 =>
 xW t21
 (K (.bool false)) <|
 OpX Tryz.prog (.nilCheck (.const p0)) 0 fun t23 =>
 xF 94 t23 0 fun t24 =>
 xL 91 t24 fun t25 =>
 xC 175 [.const t25,.const t9] [91,3] 30 fun t27 =>
 xK .neq 30 t27 fun t29 =>
 xW t29
 (K (.bool false)) <|
 OpX Tryz.prog (.nilCheck (.const p0)) 0 fun t31 =>
 xF 94 t31 3 fun t32 =>
 xL 92 t32 fun t33 =>
 OpX Tryz.prog (.call { callee:=.builtin .delete,args:=#[.const t33,.const t9],argTypes:=#[92,3] }) 0 fun _ =>
 OpX Tryz.prog (.nilCheck (.const p0)) 0 fun t37 =>
 xF 94 t37 1 fun t38 =>
 xS 3 t38 t18 <|
 xC 51 [.const p0] [81] 0 fun _ =>
 K (.bool true)
theorem VB (p0:Value):Lk 133 #[p0] (O0 p0):=lk [p0] [] Tryz.func133
theorem Rz:Ad Tryz.prog 133:=bd Tryz.func133
end Go.Proofs.YtelplojmbjnplaaGreatDoor
namespace Lyc
open Go
section
variable {P:Program}
theorem KU {t:TypeId} (h:Ag P t=some 10):∃ms,P.underlying t=some (.interface ms):=by
 unfold Ag at h
 cases hu:P.underlying t with
 | none=>rw[hu] at h;simp at h
 | some d=>rw[hu] at h;cases d<;>simp at h;exact⟨_,rfl⟩
theorem Fx {op:BinOp} {t:TypeId} {a v:Value} {K:Value→World→Prop} {w:World} (h:∀x,(AX op t a .nilIface x (.const .nilIface)).run P w=.ok (.value v) w):BinN P op t a K w=K v w:=by
 apply propext
 constructor
 ·rintro⟨hx⟩
  have:=hx (.const undef)
  have e:=h (.const undef)
  unfold AX at e
  rw[e] at this
  exact this
 ·exact fun hk=>⟨fun x=>by have e:=h x;unfold AX at e;rw[e];exact hk⟩
theorem KW {t:TypeId} (h:Ag P t=some 10) (w:World):(Op.equal t .nilIface .nilIface).run P w=.ok true w:=by
 obtain⟨e,he⟩:=KU h
 unfold Op.equal Op.maxDepth Op.equalIn
 simp [run_underlying he]
theorem No {t:TypeId} (h:Ag P t=some 10) (u:TypeId) (x:Value) (w:World):(Op.equal t (.iface u x) .nilIface).run P w=.ok false w:=by
 obtain⟨e,he⟩:=KU h
 unfold Op.equal Op.maxDepth Op.equalIn
 simp [run_underlying he]
@[go_sem] theorem fU (t:TypeId) (K:Value→World→Prop) (w:World) (h:Ag P t=some 10):BinN P .eql t .nilIface K w=K (.bool true) w:=by
 refine Fx fun x=>?_
 unfold AX eqGuard binOp
 simp [KW h]
@[go_sem] theorem bf (t:TypeId) (K:Value→World→Prop) (w:World) (h:Ag P t=some 10):BinN P .neq t .nilIface K w=K (.bool false) w:=by
 refine Fx fun x=>?_
 unfold AX eqGuard binOp
 simp [KW h]
@[go_sem] theorem dF (t u:TypeId) (x:Value) (K:Value→World→Prop) (w:World) (h:Ag P t=some 10):BinN P .eql t (.iface u x) K w=K (.bool false) w:=by
 refine Fx fun y=>?_
 unfold AX eqGuard binOp
 simp [No h]
@[go_sem] theorem di (t u:TypeId) (x:Value) (K:Value→World→Prop) (w:World) (h:Ag P t=some 10):BinN P .neq t (.iface u x) K w=K (.bool true) w:=by
 refine Fx fun y=>?_
 unfold AX eqGuard binOp
 simp [No h]
theorem K9 {u ty:TypeId} {x:Value} {K:Value→World→Prop} {w:World} (h:∃d,P.underlying u=some d∧∀ms,d≠.interface ms):OpX P (.makeInterface u (.const x)) ty K w=K (.iface u x) w:=by
 obtain⟨d,hd,hn⟩:=h
 refine Bb fun ρ hg=>?_
 have:(Instr.makeInterface u x).run P w=.ok (.iface u x) w:=by
  unfold Instr.makeInterface
  rw[Sem.run_bind,run_underlying hd]
  cases d<;>first|rfl|exact absurd rfl (hn _)
 simp [execOp,An,hg.1,this]
@[go_sem] theorem aN (u ty:TypeId) (x:Value) (K:Value→World→Prop) (w:World) (h:Ag P u=some 4):OpX P (.makeInterface u (.const x)) ty K w=K (.iface u x) w:=by
 obtain⟨e,he⟩:=Hc h
 exact K9 ⟨_,he,fun _ h=>by cases h⟩
@[go_sem] theorem cB (u ty:TypeId) (x:Value) (K:Value→World→Prop) (w:World) (h:Ag P u=some 8):OpX P (.makeInterface u (.const x)) ty K w=K (.iface u x) w:=by
 have:∃k,P.underlying u=some (.int k):=by
  unfold Ag at h
  cases hu:P.underlying u with
  | none=>rw[hu] at h;simp at h
  | some d=>rw[hu] at h;cases d<;>simp at h;exact⟨_,rfl⟩
 obtain⟨k,hk⟩:=this
 exact K9 ⟨_,hk,fun _ h=>by cases h⟩
theorem VX {t ty:TypeId} {kk:IntKind} {z:Value} {r c:Nat} {l:AH} {k:Int} {w:World} (ht:BS P t=some (kk,z)) (hh:w.heap[r]?=some (.map (Av kk l) c)) :
  ∀ρ,BA ρ→(execOp ρ (An (.lookup t (.const (.map (some r))) (.const (.int kk k)) false) ty)).run P w=.ok (.value ((Br l k).getD z)) w:=by
 obtain⟨kt,e,h1,h2,h3⟩:=Fc ht
 intro ρ hg
 simp only[execOp,An,hg.1,Instr.lookup]
 simp [run_underlying h1,Eg hh,Gi h2,F9 h2,Dy h3]
 rw[←HH l k 0]
 cases hp:Bm l k 0<;>simp [Dy h3]
@[go_sem] theorem aH (t ty:TypeId) (kk:IntKind) (r:Nat) (k:Int) (K:Value→Prop) (w:World) :
  RdX P (.lookup t (.const (.map (some r))) (.const (.int kk k)) false) ty K w =
   OrK (CI P t kk) (fun z=>OrK (CN kk w.heap[r]?) (fun p=>K ((Br p.1 k).getD z)) (RdX P (.lookup t (.const (.map (some r))) (.const (.int kk k)) false) ty K w) ()) (RdX P (.lookup t (.const (.map (some r))) (.const (.int kk k)) false) ty K w) () :=
 AG (fun z hz=>AG (fun p hp=>FL (VX (Gg hz) (EG hp))) rfl) rfl
theorem YP {t te:TypeId} {n:Nat} (ht:Ag P t=some 4) (he:Az P t=some te) (hs:Ak P te=some n) (hn:n≠0) {a b:Nat} {ca cb:Array Value} {ta tb:TypeId} {K:Value→World→Prop} {w:World}
  (ha:w.heap[a]?=some (.cells ca ta (0,0))) (hb:w.heap[b]?=some (.cells cb tb (0,0))):BinX P .eql t (.pointer (some ⟨a,0,none⟩)) (.pointer (some ⟨b,0,none⟩)) K w=K (.bool (decide (a=b))) w:=by
 obtain⟨e,hu⟩:=Hc ht
 have hte:te=e:=by unfold Az at he;rw[hu] at he;simpa using he.symm
 subst hte
 have hi:∃j,P.info? te=some j∧j.size=n:=by
  unfold Ak at hs
  cases h:P.info? te with
  | none=>rw[h] at hs;simp at hs
  | some j=>rw[h] at hs;exact⟨j,rfl,by simpa using hs⟩
 obtain⟨j,hj,hjs⟩:=hi
 refine Oy fun x y=>?_
 unfold AX eqGuard
 by_cases hab:a=b
 ·subst hab
  simp [run_eql_ptr_same (P:=P) w ⟨a,0,none⟩ hu hj]
 ·simp [run_eql_ptr_other (P:=P) w hu hj (by omega) (show(⟨a,0,none⟩:Addr)≠⟨b,0,none⟩ by simp [hab]) ha hb,hab]
end
theorem Fj {α:Type} (f:α→Int × Value × Nat) (l:List α) (id:Int):Br (l.map f) id=(l.find? fun x=>(f x).1 == id).map fun x=>(f x).2.1:=by
 induction l with
 | nil=>rfl
 | cons x l ih =>
  simp only[List.map_cons,Br,List.find?_cons]
  by_cases h:id=(f x).1
  ·simp [h]
  ·have:((f x).1 == id)=false:=by simp;omega
   simp [h,this,ih]
theorem Ll {α:Type} (f:α→Int × Value × Nat) (l:List α) (id:Int):Cp (l.map f) id=(l.eraseP fun x=>(f x).1 == id).map f:=by
 induction l with
 | nil=>rfl
 | cons x l ih =>
  simp only[List.map_cons,Cp,List.eraseP_cons]
  by_cases h:id=(f x).1
  ·simp [h]
  ·have:((f x).1 == id)=false:=by simp;omega
   simp [h,this,ih]
theorem HF {l:AH} {k:Int} (h:Br l k=none) (v:Value) (c:Nat):Ck l k v c=l++[(k,v,c)]:=by
 induction l with
 | nil=>rfl
 | cons x l ih =>
  simp only[Br] at h
  by_cases hk:k=x.1
  ·simp [hk] at h
  ·simp only[hk,if_false] at h
   simp [Ck,hk,ih h]
theorem Pa {α:Type} {R:α→α→Prop} (hs:∀x y,R x y→R y x) {l:List α} (h:l.Pairwise R) {x y:α} (hx:x∈l) (hy:y∈l) (hne:x≠y):R x y:=by
 induction l with
 | nil=>simp at hx
 | cons z l ih =>
  rw[List.pairwise_cons] at h
  rcases List.mem_cons.1 hx with rfl|hx'<;>rcases List.mem_cons.1 hy with rfl|hy'
  ·exact absurd rfl hne
  ·exact h.1 y hy'
  ·exact hs _ _ (h.1 x hx')
  ·exact ih h.2 hx' hy'
end Lyc
namespace Go.Proofs.YtelplojmbjnplaaGreatDoor
open Lyc Go
structure Pt where
 id:Int
 born:Nat
 t:Nat
 W:Nat
 H:Nat
 T:Tm
 M:Scm
 G:Hs
def Pt.own (p:Pt) (x:Nat):Prop:=EH p.t p.T p.M p.G x
def Pt.ent (p:Pt):Int × Value × Nat:=(p.id,.pointer (some ⟨p.t,0,none⟩),p.born)
def BL (base:Nat) (w:World) (p:Pt):Prop:=TmAt base w p.t p.W p.H p.T p.M p.G∧p.M.rows=[]
def SR (e:TypeId):Bool:=Nat.beq e 163 || Nat.beq e 236 || Nat.beq e 167 || Nat.beq e 57 || Nat.beq e 226
theorem BL.tag {base:Nat} {w:World} {p:Pt} (h:BL base w p):∀x,p.own x→∃c e fr,w.heap[x]?=some (.cells c e fr)∧SR e=true:=by
 obtain⟨h,-⟩:=h
 obtain⟨⟨c1,f1,a1⟩,⟨c2,f2,a2⟩,⟨c3,f3,a3⟩,a4⟩:=h.scr.at_.tags
 obtain⟨⟨c5,f5,a5⟩,a6⟩:=h.his.tag2
 have hb:=h.hb
 unfold Tm.obj at hb
 rintro x (rfl|rfl|hx|rfl|hx|⟨r,hr,hne,o,ha⟩)
 ·exact⟨_,_,_,hb,rfl⟩
 ·exact⟨_,_,_,a1,rfl⟩
 ·simp only[Scm.blk,List.mem_cons] at hx
  rcases hx with rfl|rfl|hx
  ·exact⟨_,_,_,a2,rfl⟩
  ·exact⟨_,_,_,a3,rfl⟩
  ·obtain⟨c,f,b⟩:=a4 _ hx
   exact⟨_,_,_,b,rfl⟩
 ·exact⟨_,_,_,a5,rfl⟩
 ·obtain⟨c,f,b⟩:=a6 x hx
  exact⟨_,_,_,b,rfl⟩
 ·obtain⟨b,o',c,e',fr,pre,post,e1,e2,e3,-,-⟩:=(h.his.rows r hr).at_ hne
  rw[ha] at e1
  cases e1
  exact⟨_,_,_,e2,by rw[LQ e3];rfl⟩
theorem BL.lt {base:Nat} {w:World} {p:Pt} (h:BL base w p):∀x,p.own x→x<w.heap.size:=fun x hx=>let ⟨_,_,_,e,_⟩:=h.tag x hx;Aa e
theorem BL.chg {base:Nat} {w w':World} {p:Pt} {F:List Nat} (h:BL base w p) (hc:Chg F w w') (hF:∀x∈F,¬p.own x):BL base w' p:=⟨h.1.frame h.2 hc hF,h.2⟩
theorem BL.chg0 {base:Nat} {w w':World} {p:Pt} (h:BL base w p) (hc:Chg [] w w'):BL base w' p:=h.chg hc (by simp)
structure Wn where
 n:Int
 born:Nat
 b:Nat
 lb:Nat
 tm:Nat
 tc:Nat
 L:Ly
 active:Int
 room:Int
 pts:List Pt
def Wn.own (W:Wn) (x:Nat):Prop:=x=W.b∨x=W.lb∨x=W.tm∨x∈W.L.root.blks∨∃p∈W.pts,p.own x
def Wn.ent (W:Wn):Int × Value × Nat:=(W.n,.pointer (some ⟨W.b,0,none⟩),W.born)
structure WnAt (base:Nat) (w:World) (W:Wn):Prop where
 hb:w.heap[W.b]?=some (.cells #[.pointer (some ⟨W.lb,0,none⟩),.int .i64 W.active,.int .i64 W.room,.map (some W.tm)] 94)
 lay:LAt w W.lb W.L
 hm:w.heap[W.tm]?=some (.map (Av .i64 (W.pts.map Pt.ent)) W.tc)
 each:∀p∈W.pts,BL base w p
 apart:W.pts.Pairwise fun p q=>∀x,p.own x→¬q.own x
 ids:(W.pts.map (·.id)).Nodup
 lo:∀x,W.own x→base≤x
structure Wn.ok (W:Wn):Prop where
 lay:W.L.ok
 act:W.active∈W.L.root.ids
 has:∀i,i∈W.pts.map (·.id)↔i∈W.L.root.ids
 size:∀p∈W.pts,∀r,(p.id,r)∈W.L.root.panes W.L.R→(p.W:Int)=r.w∧(p.H:Int)=r.h
section
variable {base:Nat} {w w':World} {W:Wn}
theorem WnAt.lt (h:WnAt base w W):∀x,W.own x→x<w.heap.size:=by
 rintro x (rfl|rfl|rfl|hx|⟨p,hp,hx⟩)
 ·exact Aa h.hb
 ·exact Aa h.lay.hb
 ·exact Aa h.hm
 ·exact h.lay.tree.lt x hx
 ·exact(h.each p hp).lt x hx
theorem WnAt.chg {F:List Nat} (h:WnAt base w W) (hc:Chg F w w') (hF:∀x∈F,¬W.own x):WnAt base w' W :=
 ⟨hc.keep h.hb fun hm=>hF _ hm (.inl rfl),h.lay.chg hc (fun hm=>hF _ hm (.inr (.inl rfl))) fun x hx hm=>hF _ hm (.inr (.inr (.inr (.inl hx)))),hc.keep h.hm fun hm=>hF _ hm (.inr (.inr (.inl rfl))),
  fun p hp=>(h.each p hp).chg hc fun x hx ho=>hF x hx (.inr (.inr (.inr (.inr ⟨p,hp,ho⟩)))),h.apart,h.ids,h.lo⟩
theorem WnAt.chg0 (h:WnAt base w W) (hc:Chg [] w w'):WnAt base w' W:=h.chg hc (by simp)
theorem WnAt.trn {o o':Nat→Prop} (h:WnAt base w W) (ht:Trn o o' w w') (hF:∀x,o x→¬W.own x):WnAt base w' W:=by
 obtain⟨F,hc,hf⟩:=ht.chg
 exact h.chg hc fun x hx=>hF x (hf x hx)
theorem WnAt.off (h:WnAt base w W) {p:Pt} (hp:p∈W.pts):¬p.own W.b∧¬p.own W.lb∧¬p.own W.tm∧∀x∈W.L.root.blks,¬p.own x:=by
 have ht:=(h.each p hp).tag
 refine⟨fun ho=>?_,fun ho=>?_,fun ho=>?_,fun x hx ho=>?_⟩
 ·obtain⟨c,e,fr,h1,h2⟩:=ht _ ho
  rw[h.hb] at h1
  simp only[Option.some.injEq,Obj.cells.injEq] at h1
  rw[←h1.2.1] at h2
  exact absurd h2 (by decide)
 ·obtain⟨c,e,fr,h1,h2⟩:=ht _ ho
  rw[h.lay.hb] at h1
  simp only[Option.some.injEq,Obj.cells.injEq] at h1
  rw[←h1.2.1] at h2
  exact absurd h2 (by decide)
 ·obtain⟨c,e,fr,h1,h2⟩:=ht _ ho
  rw[h.hm] at h1
  simp at h1
 ·obtain⟨c,e,fr,h1,h2⟩:=ht _ ho
  obtain⟨c',fr',h3⟩:=h.lay.tree.tag x hx
  rw[h3] at h1
  simp only[Option.some.injEq,Obj.cells.injEq] at h1
  rw[←h1.2.1] at h2
  exact absurd h2 (by decide)
theorem WnAt.ne (h:WnAt base w W):W.b≠W.lb∧W.b≠W.tm∧W.lb≠W.tm∧W.b∉W.L.root.blks∧W.lb∉W.L.root.blks∧W.tm∉W.L.root.blks:=by
 have hb:=h.hb
 have hl:=h.lay.hb
 have hm:=h.hm
 refine⟨BN hb hl rfl,fun e=>?_,fun e=>?_,fun hx=>?_,fun hx=>?_,fun hx=>?_⟩
 ·rw[e,hm] at hb;simp at hb
 ·rw[e,hm] at hl;simp at hl
 ·obtain⟨c',fr',h3⟩:=h.lay.tree.tag _ hx;exact BN hb h3 rfl rfl
 ·obtain⟨c',fr',h3⟩:=h.lay.tree.tag _ hx;exact BN hl h3 rfl rfl
 ·obtain⟨c',fr',h3⟩:=h.lay.tree.tag _ hx;rw[hm] at h3;simp at h3
end
end Go.Proofs.YtelplojmbjnplaaGreatDoor
