/- Helpers of this claim, part 5: engine, translated functions, contracts, plain laws. -/
import Derived.Test.YtnpkidnbhlepkaaGreatB4
import Derived.Test.YtnpkidnbhlepkaaGreatB2
import Derived.Test.YtnpkidnbhlepkaaGreatB0
import Derived.Test.YtnpkidnbhlepkaaGreatB1
import Derived.Test.YtnpkidnbhlepkaaGreatB3
import Derived.Test.YtnpkidnbhlepkaaGreatRows
import Derived.Lib.SmallJoins
set_option linter.unusedSimpArgs false
set_option linter.unusedVariables false
namespace Go.Proofs.YtnpkidnbhlepkaaGreat
open Lyc Go Go.Proofs.Tryz
theorem jO{l:List Bool}{w x:Nat}(h:¬(x<w∧l.getD x false=false))(k:Nat):Co l w k x=x:=by
 cases k with
 | zero=>rfl
 | succ k=>simp only[Co];rw[rF h]
theorem fP{l:List Bool}{w x:Nat}(h:x<w∧l.getD x false=false):Co l w (w-x) x=Co l w (w-(x+1)) (x+1):=by
 obtain⟨k,hk⟩:∃k,w-x=k+1:=⟨w-x-1,O⟩;rw[hk,show w-(x+1)=k by omega];simp only[Co];rw[rG h]
theorem eQ{w:World}{s:Nat}{M:Scm}(h:DAt w s M)(ok:M.S.ok)(r:Int):Calls prog 62 #[.pointer (some ⟨s,0,none⟩),.int .i32 r] w (Ac λ_ w'=>DDo w s M w' (M.S.ctl r)):=by
 have hb:=h.hb;have hl:=Aa hb;have tl:=h.tl;have hwh:=Dn ok;have hw0:=ok.w0;have hw1:=ok.w1;have hnx:=ok.nx;have hny:=ok.ny;apply ZN;intro K hK;unfold Pk;unfold Scr.ctl at hK;refine si (λw'=>∃U:Scr,DDo w s M w' U∧(if r=8 then(M.S.at (M.S.now.x-1) M.S.now.y).calm else if r=9 then M.S.tab.calm else if r=10∨r=11∨r=12 then M.S.below.calm else if r=13 then(M.S.at 0 M.S.now.y).calm else M.S)=U.calm) ?_ ?_
 ·refine sn ?_;refine sd (λg1=>?_) (λg1=>?_)
  ·rw[rG g1];refine sq hb ?_;refine td Ce rfl (Cl (h.chg0 (sg _ _).drew)) ?_;rintro v w1 ⟨rfl,hc1⟩;have hc01:=(sg [] w).drew.trans0 hc1;have j1:=h.chg0 hc01;have hb1:=j1.hb;have hl1:=Aa hb1;simp -dsimp (disch:=first|omega|(simp only[go_sem,seval];try omega))only[go_sem,seval,Gr.val,hb1];refine td Km rfl (JN w1 _ M.S.cur.w O O) ?_;rintro v w2 ⟨rfl,rfl⟩;refine sq hb1 ?_;have e:Ay ((M.S.now.x:Int)-1) M.S.cur.w=M.S.now.x-1:=by unfold Ay;omega
   rw[e];exact⟨_,DDx.num (hc01.mono Z) (by exact .rf rfl rfl rfl) j1 (M.S.at (M.S.now.x-1) M.S.now.y) _ _ rfl rfl tl,rfl⟩
  rw[rF g1];refine sn ?_;refine sd (λg2=>?_) (λg2=>?_)
  ·rw[rG g2];refine sq hb ?_;have e1:(M.S.now.x:Int)+1=((M.S.now.x+1:Nat):Int):=O;rw[e1];refine Loop0.st (λ(x:Nat) w'=>x≤M.S.w∧DAx w' s M x M.S.now.y∧Chg (s::M.dblk) w w'∧Co M.S.tabs M.S.w (M.S.w-x) x=Co M.S.tabs M.S.w (M.S.w-(M.S.now.x+1)) (M.S.now.x+1)) (λx=>M.S.w-x) (M.S.now.x+1) ⟨O,h.mv _ _,(sg _ _).set _ _ (.inl Z),rfl⟩ ?_;rintro next x w1 hn ⟨hx,j1,hc1,htab⟩
   have hb1:=j1.hb;have hl1:=Aa hb1;refine sq hb1 ?_;refine sh (λv w'=>v=.bool (decide (x<M.S.w∧M.S.tabs.getD x false=false))∧Chg [] w1 w') ?_ ?_
   ·refine sq hb1 ?_;refine td Ce rfl (Cl (j1.chg0 (sg _ _).drew)) ?_;rintro v w2 ⟨rfl,hc2⟩;have hc02:=(sg [] w1).drew.trans0 hc2;have j2:=j1.chg0 hc02;have hb2:=j2.hb;have hl2:=Aa hb2;simp -dsimp (disch:=first|omega|(simp only[go_sem,seval];try omega))only[go_sem,seval,Gr.val,hb2];refine sd (λg3=>?_) (λg3=>⟨sv λh'=>g3 O,hc02⟩);refine sq hb2 ?_;refine⟨?_,hc02⟩;cases M.S.tabs.getD x false<;>simp;omega
   ·rintro v w2 ⟨rfl,hc2⟩;have j2:=j1.chg0 hc2;have hb2:=j2.hb;have hl2:=Aa hb2;refine sd (λg3=>?_) (λg3=>?_)
    ·refine sq hb2 ?_;have e2:(x:Int)+1=((x+1:Nat):Int):=O;rw[e2];exact hn (x+1) _ ⟨O,j2.mv _ _,(hc1.trans0 hc2).set _ _ (.inl Z),by rw[←htab,fP g3]⟩ O
    ·refine td Ku rfl (KL j2 ok) ?_;intro v w3 hd;refine⟨M.S.tab,.trans (hc1.trans0 hc2) (by exact .rf rfl rfl rfl) ?_,rfl⟩;have e:M.S.tab=M.S.move x M.S.now.y:=by
      unfold Scr.tab Scr.move;rw[←htab,jO g3,Er hny];congr 1;unfold Ay;omega
     rw[e];exact hd
  rw[rF g2];refine sh (λv w'=>v=.bool (decide (r=10∨r=11∨r=12))∧w'=w) ?_ ?_
  ·refine sn ?_;refine sd (λg3=>⟨su (.inl g3),rfl⟩) (λg3=>?_);refine sn ?_;refine sd (λg4=>⟨su (.inr (.inl g4)),rfl⟩) (λg4=>?_);refine sn ?_;exact sw ⟨λh=>.inr (.inr h),λh=>O⟩
  rintro v w1 ⟨rfl,rfl⟩;refine sd (λg3=>?_) (λg3=>?_)
  ·rw[rG g3];refine td Gq rfl (Ga h ok rfl) ?_;intro v w2 hd;exact⟨_,hd,rfl⟩
  rw[rF g3];refine sn ?_;refine sd (λg4=>?_) (λg4=>?_)
  ·rw[rG g4];refine sq hb ?_;exact⟨_,DDx.num (sg _ _) (by exact .rf rfl rfl rfl) h (M.S.at 0 M.S.now.y) _ _ rfl rfl tl,rfl⟩
  ·rw[rF g1,rF g2,rF g3,rF g4] at hK;exact hK _ _ (DDx.of h (sg _ _) rfl)
 rintro w1 ⟨U,⟨M1,j1,rfl,hc1,hb1⟩,e⟩;rw[e] at hK;have hm1:=j1.hb;have hl1:=Aa hm1;have tl1:=j1.tl;refine sq hm1 ?_;exact hK _ _ (DDx.num hc1 hb1 j1 M1.S.calm _ _ rfl rfl tl1)
theorem Yl{w:World}{s:Nat}{M:Scm}(h:DAt w s M)(ok:M.S.ok)(r:Int):Calls prog 63 #[.pointer (some ⟨s,0,none⟩),.int .i32 r] w (Ac λ_ w'=>DDo w s M w' (M.S.esc r)):=by
 have hb:=h.hb;have hl:=Aa hb;have tl:=h.tl;have hwh:=Dn ok;have hw1:=ok.w1;have hnx:=ok.nx;apply Zy;intro K hK;unfold PQ;unfold Scr.esc at hK;refine si (λw'=>∃U:Scr,DDo w s M w' U∧(if r=55 then M.S.save else if r=72 then { M.S with tabs:=M.S.tabs.set M.S.now.x true } else if r=69 then(M.S.at 0 M.S.now.y).below.calm else if r=68 then M.S.below.calm else if r=77 then M.S.above.calm else if r=56 then M.S.restore.calm else if r=99 then M.S.renew.calm else M.S)=U.calm) ?_ ?_
 ·refine sn ?_;refine sd (λg1=>?_) (λg1=>?_)
  ·rw[rG g1] at hK;refine td Jn rfl (JU h) ?_;intro v w1 hd;exact hK _ _ hd
  rw[rF g1];refine sn ?_;refine sd (λg2=>?_) (λg2=>?_)
  ·rw[rF g1,rG g2] at hK;refine sq hb ?_;exact hK _ _ (DDx.trans0 (DDx.num (sg _ _) (by exact .rf rfl rfl rfl) h { M.S with tabs:=M.S.tabs.set M.S.now.x true } _ _ rfl rfl (by simp [tl])) (sg _ _).drew)
  rw[rF g2];refine sn ?_;refine sd (λg3=>?_) (λg3=>?_)
  ·rw[rF O,rG g3];refine td Gq rfl (Ga h ok rfl) ?_;intro v w1 hd;exact⟨_,hd,rfl⟩
  refine sn ?_;refine sd (λg4=>?_) (λg4=>?_)
  ·rw[rG g4];refine sq hb ?_;have j3:=h.num (M.S.at 0 M.S.now.y) ((0:Nat):Int) M.S.now.y rfl rfl tl;refine td Gq rfl (Ga (M:={ M with S:=M.S.at 0 M.S.now.y }) j3 (Scr.ok.at ok ok.w0 ok.ny).ok rfl) ?_;intro v w1 hd;exact⟨_,.trans ((sg _ _).set _ _ (.inl Z)) (by exact .rf rfl rfl rfl) hd,rfl⟩
  rw[rF g4,rF g3];refine sn ?_;refine sd (λg5=>?_) (λg5=>?_)
  ·rw[rG g5];refine td TV rfl (Vw h ok) ?_;intro v w1 hd;exact⟨_,hd,rfl⟩
  rw[rF g5];refine sn ?_;refine sd (λg6=>?_) (λg6=>?_)
  ·rw[rG g6];refine td KI rfl (Kn h ok) ?_;intro v w1 hd;exact⟨_,hd,rfl⟩
  rw[rF g6];refine sn ?_;refine sd (λg7=>?_) (λg7=>?_)
  ·rw[rG g7];refine sq hb ?_;refine td Ce rfl (Cl h) ?_;rintro v w1 ⟨rfl,hc1⟩;have j1:=h.chg0 hc1;simp -dsimp (disch:=first|omega|(simp only[go_sem,seval];try omega))only[go_sem,seval,Gr.val];refine td Ce rfl (Cl j1) ?_;rintro v w2 ⟨rfl,hc2⟩;have hc02:=hc1.trans0 hc2;have j2:=h.chg0 hc02;simp -dsimp (disch:=first|omega|(simp only[go_sem,seval];try omega))only[go_sem,seval,Gr.val];rw[hwh.1,hwh.2];refine td OV rfl (RS w2 M.S.w M.S.h ok.w0 ok.w1 ok.h0 ok.h1) ?_;rintro v w3 ⟨s3,M3,rfl,j3,e3,hc3,hz3,hg3,hq0,hq1⟩;have hc03:=hc02.trans0 hc3;have i3:=h.chg0 hc03;have hb3:=i3.hb;have hm3:=j3.hb;have hl3:=Aa hb3;have hn3:M3.S.now.x=0∧M3.S.now.y=0:=by rw[e3];exact⟨rfl,rfl⟩
   rw[hn3.1,hn3.2] at hm3;have tl3:=j3.tl;have hlt3:=Aa hm3;have hlen:=M3.dcells_len 0 0 tl3;have hag:AT (some (M3.dobj 0 0)) 0 231=some (M3.dcells 0 0).toArray:=by
    unfold Scm.dobj;rw[Fe,rG (by simp [hlen])];simp only[Nat.zero_add,List.extract_toArray,List.extract_eq_take_drop,List.drop_zero,Nat.sub_zero];rw[List.take_of_length_le O]
   have hput:Ao (some (M.dobj M.S.now.x M.S.now.y)) 0 (M3.dcells 0 0)=some (M3.dobj 0 0):=Tn (by rw[hlen,M.dcells_len _ _ tl]);have hput2:=M3.dwGv 0 0 M.gv M.rows tl3;obtain⟨ga,gc,hgv,-,-⟩:=h.own.form;have hcl:(Value.agg (M3.dcells 0 0).toArray).cells=(M3.dcells 0 0).toArray:=rfl;have hok:AV (M3.dcells 0 0)=true:=by
    unfold Scm.dcells Scm.dend;rw[hg3];simp [AV,Value.oneCell']
   refine sr hm3 hag ?_;rw[D5 _ _ _ _ _ _ _ (by rw[hcl];simp only[List.size_toArray,hlen];kernel_rfl) (by rw[hcl];exact hok)];rw[hcl,hb3];refine sq hput ?_;rw[hgv] at hput2 ⊢;refine sq hput2 ?_;rw[←hgv];refine⟨{ M3.S with gone:=M.S.gone },?_,by rw[e3];rfl⟩;show DDx _ _ _ _ _ ((M3.S.now.x:Nat):Int) ((M3.S.now.y:Nat):Int);rw[hn3.1,hn3.2];exact⟨{ M3 with S:={ M3.S with gone:=M.S.gone },gv:=M.gv,rows:=M.rows },i3.re { M3 with S:={ M3.S with gone:=M.S.gone },gv:=M.gv,rows:=M.rows } 0 0 ⟨j3.h0,j3.k0⟩ ⟨j3.h1,j3.k1⟩ tl3 rfl rfl,rfl,(hc03.mono Z).set _ _ (.inl Z),⟨λb hb=>.inl hb,λb hb=>.inr (.inr (by have:=hc02.size;rcases hb with rfl|rfl<;>dsimp only<;>omega))⟩⟩
  ·rw[rF g1,rF g2,rF g4,rF g3,rF g5,rF g6,rF g7] at hK;exact hK _ _ (DDx.of h (sg _ _) rfl)
 rintro w1 ⟨U,⟨M1,j1,rfl,hc1,hb1⟩,e⟩;rw[e] at hK;have hm1:=j1.hb;have hl1:=Aa hm1;have tl1:=j1.tl;refine sq hm1 ?_;exact hK _ _ (DDx.num hc1 hb1 j1 M1.S.calm _ _ rfl rfl tl1)
theorem iW{w:World}{s:Nat}{M:Scm}(h:DAt w s M)(ok:M.S.ok)(n:Int)(on:Bool):Calls prog 68 #[.pointer (some ⟨s,0,none⟩),.int .i64 n,.bool on] w (Ac λ_ w'=>DDo w s M w' (M.S.mode n on)):=by
 have hb:=h.hb;have hl:=Aa hb;have tl:=h.tl;have hg0:=ok.g0;apply XL;intro K hK;unfold PL;unfold Scr.mode at hK;refine sn ?_;refine sd (λg1=>?_) (λg1=>?_)
 ·rw[rG g1] at hK;refine sq hb ?_;cases on with
  | true =>
   rw[Bool.and_true] at hK;refine sn ?_;exact hK _ _ (DDx.num (sg _ _) (by exact .rf rfl rfl rfl) h { M.S with wraps:=true,waits:=M.S.waits } _ _ rfl rfl tl)
  | false =>
   rw[Bool.and_false] at hK;have h1:=h.num { M.S with wraps:=false } M.S.now.x M.S.now.y rfl rfl tl;refine sn ?_;exact hK _ _ (DDx.num (sg _ _) (by exact .rf rfl rfl rfl) h { M.S with wraps:=false,waits:=false } _ _ rfl rfl tl)
 rw[rF g1] at hK;refine sn ?_;refine sd (λg2=>?_) (λg2=>?_)
 ·rw[rG g2] at hK;refine sq hb ?_;exact hK _ _ (DDx.num (sg _ _) (by exact .rf rfl rfl rfl) h { M.S with shown:=on } _ _ rfl rfl tl)
 rw[rF g2] at hK;refine sh (λv w'=>v=.bool (decide (n=47∨n=1047∨n=1049))∧w'=w) ?_ ?_
 ·refine sn ?_;refine sd (λg3=>⟨su (.inl g3),rfl⟩) (λg3=>?_);refine sn ?_;refine sd (λg4=>⟨su (.inr (.inl g4)),rfl⟩) (λg4=>?_);refine sn ?_;exact sw ⟨λh=>.inr (.inr h),λh=>O⟩
 rintro v w1 ⟨rfl,rfl⟩;refine sd (λg3=>?_) (λg3=>?_)
 ·rw[rG g3] at hK;refine sh (λv w'=>v=.bool (decide (on=true∧M.S.alt=false))∧w'=w1) ?_ ?_
  ·cases on with
   | true =>
    refine sq hb ?_;cases M.S.alt<;>simp [Bu]
   | false=>exact so
  rintro v w2 ⟨rfl,rfl⟩;refine sd (λg4=>?_) (λg4=>?_)
  ·rw[rG g4] at hK;refine td Jn rfl (JU h) ?_;rintro v w3 ⟨M3,j3,e3,hc3,hb3⟩;have hm3:=j3.hb;have tl3:=j3.tl;have hl3:=Aa hm3;have hsv:M.S.save.g0=M.S.g0∧M.S.save.now=M.S.now:=by unfold Scr.save;cases M.S.alt<;>exact⟨rfl,rfl⟩
   have hn3:M3.S.now=M.S.now:=by rw[e3,hsv.2]
   have hg3:M3.S.g0.w=M.S.w∧M3.S.g0.h=M.S.h:=by rw[e3,hsv.1];exact⟨hg0.w,hg0.h⟩
   rw[hsv.2] at j3 hm3;refine sq hm3 ?_;have k1:=j3.num { M3.S with alt:=true } M.S.now.x M.S.now.y rfl rfl tl3;have hc4:Chg (s::M.dblk) w2 (Ab w3 s (({ M3 with S:={ M3.S with alt:=true } }:Scm).dobj M.S.now.x M.S.now.y)):=hc3.set _ _ (.inl Z);generalize Ab w3 s (({ M3 with S:={ M3.S with alt:=true } }:Scm).dobj M.S.now.x M.S.now.y)=w4 at *;rw[hg3.1,hg3.2];refine td Kg rfl (KT w4.drew M.S.w M.S.h ok.w0 ok.w1 ok.h0 ok.h1) ?_;rintro v w5 ⟨⟨nb,cap,sp,rfl,q1,q2,q3⟩,hc5⟩;have hc45:=(sg [] w4).drew.trans0 hc5;have k5:=k1.chg0 hc45;have hb5:=k5.hb;have hl5:=Aa hb5;have hput:=({ M3 with S:={ M3.S with alt:=true } }:Scm).dwG1 M.S.now.x M.S.now.y (Gr.plain M.S.w M.S.h Cel.blank) nb cap sp tl3;rw[Fc,Ew] at hput;simp -dsimp (disch:=first|omega|(simp only[go_sem,seval];try omega))only[go_sem,seval,Gr.val,Fc,Ew,hb5,hput];have hG:SxC w5 (some 60) (some ⟨nb,0,none⟩) (Gr.plain M.S.w M.S.h Cel.blank).cs:=⟨λ_=>⟨nb,0,_,_,_,[],sp,rfl,q3,by simp [Bz],Z,rfl⟩⟩;have hT:({ M.S.save with alt:=true,g1:=Gr.plain M.S.w M.S.h Cel.blank,waits:=false }:Scr)={ M3.S with alt:=true,g1:=Gr.plain M.S.w M.S.h Cel.blank,waits:=false }:=by rw[e3]
   rw[hT] at hK;have k6:=k5.re { M3 with S:={ M3.S with alt:=true,g1:=Gr.plain M.S.w M.S.h Cel.blank,waits:=false },b1:=nb,c1:=cap,p1:=sp } M.S.now.x M.S.now.y ⟨k5.h0,k5.k0⟩ ⟨hG,q1⟩ tl3 rfl rfl;refine hK _ _ ?_;show DDx _ _ _ _ _ ((M3.S.now.x:Nat):Int) ((M3.S.now.y:Nat):Int);rw[show((M3.S.now.x:Nat):Int)=M.S.now.x by rw[hn3],show((M3.S.now.y:Nat):Int)=M.S.now.y by rw[hn3]];exact⟨{ M3 with S:={ M3.S with alt:=true,g1:=Gr.plain M.S.w M.S.h Cel.blank,waits:=false },b1:=nb,c1:=cap,p1:=sp },k6,rfl,(hc4.trans0 hc45).set _ _ (.inl Z),⟨hb3.dk,λb hb=>hb.elim (λh=>hb3.q b (.inl h)) λh=>.inr (.inr (by rw[h];have:=hc4.size;have e:w4.drew.heap.size=w4.heap.size:=rfl;dsimp only;omega))⟩⟩
  ·rw[rF g4] at hK;refine sh (λv w'=>v=.bool (decide (on=false∧M.S.alt=true))∧w'=w2) ?_ ?_
   ·cases on with
    | true=>exact so
    | false =>
     refine sq hb ?_;cases M.S.alt<;>simp [Bu]
   rintro v w3 ⟨rfl,rfl⟩;refine sd (λg5=>?_) (λg5=>?_)
   ·rw[rG g5] at hK;refine sq hb ?_;have h1:=h.num { M.S with alt:=false } M.S.now.x M.S.now.y rfl rfl tl;have ok1:({ M.S with alt:=false }:Scr).ok:=⟨ok.w0,ok.w1,ok.h0,ok.h1,ok.g0,ok.g1,ok.nx,ok.ny,ok.s0x,ok.s0y,ok.s1x,ok.s1y,ok.tf,ok.fh,ok.tl,ok.gl,ok.gr⟩;have hc1:Chg (s::M.dblk) w3 (Ab w3 s (({ M with S:={ M.S with alt:=false } }:Scm).dobj M.S.now.x M.S.now.y)):=(sg _ _).set _ _ (.inl Z);refine td KI rfl (Kn h1 ok1) ?_;rintro v w4 ⟨M4,j4,e4,hc4,hb4⟩;have hm4:=j4.hb;have hl4:=Aa hm4;have tl4:=j4.tl;refine sq hm4 ?_;have hT:({ M.S with alt:=false }:Scr).restore=M4.S.calm:=by rw[e4];rfl
    rw[hT] at hK;refine hK _ _ (.trans (M1:={ M with S:={ M.S with alt:=false } }) hc1 (by exact .rf rfl rfl rfl) ?_);have hn4:M4.S.calm.now=AZ { M.S with alt:=false }:=by rw[e4];rfl
    rw[hn4];exact DDx.num hc4 hb4 j4 M4.S.calm _ _ rfl rfl tl4
   ·rw[rF g5] at hK;exact hK _ _ (DDx.of h (sg _ _) rfl)
 ·rw[rF g3] at hK;exact hK _ _ (DDx.of h (sg _ _) rfl)
theorem EF(w:World)(a:Act')(i:Nat)(AS:Int)(hi:i<8):Calls prog 64 #[a.val,.int .i64 i,.int .i64 AS] w (Ac λv w'=>v=.int .i64 (a.num i AS)∧Chg [] w w'):=by
 apply Yy;intro K hK;unfold PH;refine sn ?_;have hc:Chg [] w (w.alloc (.cells a.cells.toArray 89)):=(sg _ _).alloc _;refine sh (λv w'=>v=.bool (decide (a.n≤i∨a.nums.getD i 0<AS))∧w'=(w.alloc (.cells a.cells.toArray 89))) ?_ ?_
 ·refine sn ?_;refine sd (λh2=>O) (λh2=>?_);refine sn ?_;refine sd (λh3=>O) (λh3=>?_);refine sn ?_;refine sd (λh4=>⟨su (.inl h4),rfl⟩) (λh4=>?_);have hi:i=0∨i=1∨i=2∨i=3∨i=4∨i=5∨i=6∨i=7:=O;rcases hi with rfl|rfl|rfl|rfl|rfl|rfl|rfl|rfl<;>(refine sn ?_;exact sw ⟨λh=>.inr h,λh=>h.resolve_left h4⟩)
 rintro v w1 ⟨rfl,rfl⟩;unfold Act'.num at hK;refine sd (λh2=>?_) (λh2=>?_)
 ·refine hK _ _ ⟨?_,hc⟩;split
  ·rfl
  ·congr 1;omega
 ·have e:(if 8≤i∨a.n≤i then AS else max (a.nums.getD i 0) AS)=a.nums.getD i 0:=by
   rw[rF O];omega
  rw[e] at hK;have hi:i=0∨i=1∨i=2∨i=3∨i=4∨i=5∨i=6∨i=7:=O;clear h2 e;rcases hi with rfl|rfl|rfl|rfl|rfl|rfl|rfl|rfl<;>(refine sn ?_;exact hK _ _ ⟨rfl,hc⟩)
theorem KC{a:Act'}(b:∀x∈a.nums,0≤x∧x≤9999){i:Nat}(c:i<8){AS:Int}(d:0≤AS)(e:AS≤9999):AS≤a.num i AS∧a.num i AS≤9999:=by
 unfold Act'.num;split
 ·omega
 ·have f:a.nums.length=8:=rfl;have:=b (a.nums.getD i 0) (by rw[rN,rI O];exact rR _);omega
def Bo(S:Scr)(a:Act'):Scr:=match S.moved a with|some T=>T.calm|none=>match S.changed a with|some T=>T.calm|none=>S
theorem FL{S:Scr}(ok:S.ok)(x:Nat)(a:x<S.w)(y:Int):S.move x y=S.at x (Ay y S.h):=by unfold Scr.move;rw[Er a]
theorem Ov{S:Scr}(ok:S.ok){n:Int}(a:0≤n):Ay (EK S (-n)) S.h=(max ((S.now.y:Int)-n) (if S.top≤S.now.y then(S.top:Int) else 0)).toNat:=by
 have b:=ok.ny;have c:=ok.tf;have d:=ok.fh;unfold Ay EK;split<;>split<;>omega
theorem Nu{S:Scr}(ok:S.ok){n:Int}(a:0≤n):Ay (EK S n) S.h=(min ((S.now.y:Int)+n) (if S.now.y+1≤S.fin then(S.fin:Int)-1 else(S.h:Int)-1)).toNat:=by
 have b:=ok.ny;have c:=ok.tf;have d:=ok.fh;unfold Ay EK;split<;>split<;>(try split)<;>omega
theorem Da{T:Scr}(ok:T.ok):T.move T.now.x T.now.y=T:=by
 unfold Scr.move Scr.at;rw[Er ok.nx,Er ok.ny]
theorem Vm{w:World}{s:Nat}{M:Scm}(h:DAt w s M)(ok:M.S.ok)(a:Act')(hs:∀x∈a.nums,0≤x∧x≤9999):Calls prog 67 #[.pointer (some ⟨s,0,none⟩),a.val] w
  (Ac λ_ w'=>DDo w s M w' (Bo M.S a)):=by
 have hwh:=Dn ok;have hwb:=CN M.S.alt;have hN:=KC hs (i:=0) O (AS:=1) O O;have hmin:min (a.num 0 1) 9999=a.num 0 1:=O;have hlt:=h.lt;have hny:=ok.ny;have hnx:=ok.nx;have hh1:=ok.h1;have hw1:=ok.w1;have hfh:=ok.fh;have htf:=ok.tf;apply W8;intro K hK;unfold NP;refine sn ?_;obtain⟨w1,hw1⟩:∃w1,w1=w.alloc (.cells a.cells.toArray 89):=⟨_,rfl⟩;have hc1:Chg [] w w1:=by rw[hw1];exact Ar _ _
 have a1:w1.heap[w.heap.size]?=some (.cells a.cells.toArray 89):=by rw[hw1];exact so
 simp only[Act'.cells] at hw1;rw[←hw1];clear hw1;refine td Fb rfl (EF w1 a 0 1 O) ?_;rintro v w2 ⟨rfl,hc2⟩;have hc02:=hc1.trans0 hc2;refine td Ce rfl (Cl (h.chg0 hc02)) ?_;rintro v w3 ⟨rfl,hc3⟩;have hc03:=hc02.trans0 hc3;have a3:=hc3.keep (hc2.keep a1 Z) Z;simp -dsimp (disch:=first|omega|(simp only[go_sem,seval];try omega))only[go_sem,seval,Gr.val];have hc4:=hc03.alloc (.cells #[.int .i64 M.S.cur.w,.int .i64 M.S.cur.h,.slice (some ⟨M.cb,0,none⟩) M.S.cur.cs.length M.cc] 50);have b4:(w3.alloc (.cells #[.int .i64 M.S.cur.w,.int .i64 M.S.cur.h,.slice (some ⟨M.cb,0,none⟩) M.S.cur.cs.length M.cc] 50)).heap[w3.heap.size]?=some (.cells #[.int .i64 M.S.cur.w,.int .i64 M.S.cur.h,.slice (some ⟨M.cb,0,none⟩) M.S.cur.cs.length M.cc] 50):=by exact so
 have a4:=(Ar w3 (.cells #[.int .i64 M.S.cur.w,.int .i64 M.S.cur.h,.slice (some ⟨M.cb,0,none⟩) M.S.cur.cs.length M.cc] 50)).keep a3 Z;generalize w3.alloc (.cells #[.int .i64 M.S.cur.w,.int .i64 M.S.cur.h,.slice (some ⟨M.cb,0,none⟩) M.S.cur.cs.length M.cc] 50)=w4 at *;have j4:=(h.chg0 hc4).chg0 (sg _ _).drew;have a5:w4.drew.heap[w.heap.size]?=some (.cells a.cells.toArray 89):=a4;have b5:w4.drew.heap[w3.heap.size]?=some (.cells #[.int .i64 M.S.cur.w,.int .i64 M.S.cur.h,.slice (some ⟨M.cb,0,none⟩) M.S.cur.cs.length M.cc] 50):=b4;have hc5:Chg [] w w4.drew:=hc4.drew;have hb4:w4.heap[s]?=some (M.dobj M.S.now.x M.S.now.y):=(h.chg0 hc4).hb;refine sh (λv w'=>v=.bool (decide (M.S.top≤M.S.now.y∧M.S.now.y<M.S.fin))∧w'=w4.drew) ?_ ?_
 ·refine sq hb4 ?_;refine sd (λg=>?_) (λg=>⟨sv O,rfl⟩);refine sq hb4 ?_;exact sw O
 rintro v w5 ⟨rfl,rfl⟩;clear hb4 a4 b4 hc4 hc03 hc02 hc3 hc2 hc1 a3 a1;generalize w4.drew=w5 at *;have hb:=j4.hb;have hl:=Aa hb;have tl:=j4.tl;obtain⟨n,hn⟩:∃n:Int,n=a.num 0 1:=⟨_,rfl⟩;rw[←hn] at hmin hN ⊢;refine si (λw'=>∃T x y,DDx w5 s M w' T x y∧T.ok∧Bo M.S a=(T.move x y).calm) ?_ ?_
 ·refine sq a5 ?_;refine sd (λg1=>?_) (λg1=>?_)
  ·refine sn ?_;refine td Hf rfl (GW j4 ok (n:=-n) O O) ?_;intro v w6 hd;refine⟨_,_,_,hd,ok,?_⟩;rw[FL ok _ hnx,Ov ok O,hn];unfold Bo Scr.moved;rw[g1,←hn,hmin];rfl
  refine sn ?_;refine sd (λg2=>?_) (λg2=>?_)
  ·refine td Hf rfl (GW j4 ok (n:=n) O O) ?_;intro v w6 hd;refine⟨_,_,_,hd,ok,?_⟩;rw[FL ok _ hnx,Nu ok O,hn];unfold Bo Scr.moved;rw[g2,←hn,hmin];rfl
  refine sn ?_;refine sd (λg3=>?_) (λg3=>?_)
  ·refine sq hb ?_;refine⟨M.S,_,_,DDx.of (j4.mv _ _) ((sg _ _).set _ _ (.inl Z)) rfl,ok,?_⟩;unfold Bo Scr.moved;rw[g3,←hn,hmin];rfl
  refine sn ?_;refine sd (λg4=>?_) (λg4=>?_)
  ·refine sq hb ?_;refine⟨M.S,_,_,DDx.of (j4.mv _ _) ((sg _ _).set _ _ (.inl Z)) rfl,ok,?_⟩;unfold Bo Scr.moved;rw[g4,←hn,hmin];rfl
  refine sn ?_;refine sd (λg5=>?_) (λg5=>?_)
  ·refine td Hf rfl (GW j4 ok (n:=n) O O) ?_;rintro v w6 ⟨M6,j6,e6,hc6,hb6⟩;have hm6:=j6.hb;have hl6:=Aa hm6;have tl6:=j6.tl;refine sq hm6 ?_;refine⟨_,_,_,⟨M6,j6.mv 0 _,e6,hc6.set _ _ (.inl Z),hb6⟩,ok,?_⟩;rw[show((0:Int))=((0:Nat):Int) from rfl,FL ok _ ok.w0,Nu ok O];unfold Bo Scr.moved;rw[g5,←hn,hmin];rfl
  refine sn ?_;refine sd (λg6=>?_) (λg6=>?_)
  ·refine sn ?_;refine td Hf rfl (GW j4 ok (n:=-n) O O) ?_;rintro v w6 ⟨M6,j6,e6,hc6,hb6⟩;have hm6:=j6.hb;have hl6:=Aa hm6;have tl6:=j6.tl;refine sq hm6 ?_;refine⟨_,_,_,⟨M6,j6.mv 0 _,e6,hc6.set _ _ (.inl Z),hb6⟩,ok,?_⟩;rw[show((0:Int))=((0:Nat):Int) from rfl,FL ok _ ok.w0,Ov ok O];unfold Bo Scr.moved;rw[g6,←hn,hmin];rfl
  refine sh (λv w'=>v=.bool (decide (a.r=71∨a.r=96))∧w'=w5) ?_ ?_
  ·refine sn ?_;refine sd (λg=>⟨su (.inl g),rfl⟩) (λg=>?_);refine sn ?_;exact sw ⟨λh=>.inr h,λh=>h.resolve_left g⟩
  rintro v w6 ⟨rfl,rfl⟩;refine sd (λg7=>?_) (λg7=>?_)
  ·refine sq hb ?_;refine⟨M.S,_,_,DDx.of (j4.mv _ _) ((sg _ _).set _ _ (.inl Z)) rfl,ok,?_⟩;unfold Bo Scr.moved;rcases g7 with g7|g7<;>(rw[g7,←hn,hmin];rfl)
  refine sn ?_;refine sd (λg8=>?_) (λg8=>?_)
  ·refine sq hb ?_;refine⟨M.S,_,_,DDx.of (j4.mv _ _) ((sg _ _).set _ _ (.inl Z)) rfl,ok,?_⟩;unfold Bo Scr.moved;rw[g8,←hn,hmin];rfl
  refine sh (λv w'=>v=.bool (decide (a.r=72∨a.r=102))∧w'=w6) ?_ ?_
  ·refine sn ?_;refine sd (λg=>⟨su (.inl g),rfl⟩) (λg=>?_);refine sn ?_;exact sw ⟨λh=>.inr h,λh=>h.resolve_left g⟩
  rintro v w7 ⟨rfl,rfl⟩;refine sd (λg9=>?_) (λg9=>?_)
  ·have hN1:=KC hs (i:=1) O (AS:=1) O O;have hza:=Aa a5;have hlt7:=hlt s Z;refine sr hb a5 ?_;have j8:=j4.mv M.S.now.x (n-1);have a8:=((sg [s] w7).set s (M.dobj M.S.now.x (n-1)) (.inl Z)).keep a5 (by simp;omega);have hc8:Chg (s::M.dblk) w7 (Ab w7 s (M.dobj M.S.now.x (n-1))):=(sg _ _).set _ _ (.inl Z);generalize Ab w7 s (M.dobj M.S.now.x (n-1))=w8 at *
   (try refine sq a8 ?_)
   refine td Fb rfl (EF w8 a 1 1 O) ?_;rintro v w9 ⟨rfl,hc9⟩;have j9:=j8.chg0 hc9;have hb9:=j9.hb;have hl9:=Aa hb9;refine sq hb9 ?_;refine⟨M.S,_,_,DDx.of (j9.mv _ _) ((hc8.trans0 hc9).set _ _ (.inl Z)) rfl,ok,?_⟩;unfold Bo Scr.moved;rcases g9 with g9|g9<;>(rw[g9,←hn,hmin];rfl)
  refine sn ?_;refine sd (λg10=>?_) (λg10=>?_)
  ·refine sq a5 ?_;refine td Fb rfl (EF w7 a 0 0 O) ?_;rintro v w8 ⟨rfl,hc8⟩;refine td Mw rfl (Ll (j4.chg0 hc8) ok (a.num 0 0) true) ?_;intro v w9 hd;refine⟨(M.S.wipeRows (a.num 0 0)).wipeLine (a.num 0 0),(((M.S.wipeRows (a.num 0 0)).wipeLine (a.num 0 0)).now.x:Int),(((M.S.wipeRows (a.num 0 0)).wipeLine (a.num 0 0)).now.y:Int),.trans (hc8.mono Z) (by exact .rf rfl rfl rfl) hd,(Scr.ok.wipeLine (Scr.ok.wipeRows ok).ok).ok,?_⟩;rw[Da (Scr.ok.wipeLine (Scr.ok.wipeRows ok).ok).ok];unfold Bo Scr.moved Scr.changed;rw[g10];rfl
  refine sn ?_;refine sd (λg11=>?_) (λg11=>?_)
  ·refine sq a5 ?_;refine td Fb rfl (EF w7 a 0 0 O) ?_;rintro v w8 ⟨rfl,hc8⟩;refine td Mw rfl (Ll (j4.chg0 hc8) ok (a.num 0 0) false) ?_;intro v w9 hd;refine⟨M.S.wipeLine (a.num 0 0),((M.S.wipeLine (a.num 0 0)).now.x:Int),((M.S.wipeLine (a.num 0 0)).now.y:Int),.trans (hc8.mono Z) (by exact .rf rfl rfl rfl) hd,(Scr.ok.wipeLine ok).ok,?_⟩;rw[Da (Scr.ok.wipeLine ok).ok];unfold Bo Scr.moved Scr.changed;rw[g11];rfl
  refine sh (λv w'=>v=.bool (decide (a.r=76∨a.r=77))∧w'=w7) ?_ ?_
  ·refine sn ?_;refine sd (λg=>⟨su (.inl g),rfl⟩) (λg=>?_);refine sn ?_;exact sw ⟨λh=>.inr h,λh=>h.resolve_left g⟩
  rintro v w8 ⟨rfl,rfl⟩;refine sd (λg12=>?_) (λg12=>?_)
  ·obtain⟨m,hm⟩:∃m:Int,m=if a.r=76 then -n else n:=⟨_,rfl⟩
   have hmb:-9999≤m∧m≤9999:=by rw[hm];split<;>omega
   have hR:Bo M.S a=(if M.S.top≤M.S.now.y∧M.S.now.y<M.S.fin then(M.S.scroll M.S.now.y m).at 0 M.S.now.y else M.S).calm:=by
    unfold Bo Scr.moved Scr.changed Scr.shiftRows;rcases g12 with g|g
    ·rw[hm,rG g,g,←hn,hmin];rfl
    ·rw[hm,rF O,g,←hn,hmin];simp only[Int.neg_neg];rfl
   refine sh (λv w'=>v=.int .i64 m∧w'=w8) ?_ ?_
   ·refine sq a5 ?_;refine sd (λg=>?_) (λg=>⟨by rw[hm,rF g],rfl⟩);refine sn ?_;rw[hm,rG g]
   rintro v w9 ⟨rfl,rfl⟩;refine sd (λg13=>?_) (λg13=>?_)
   ·rw[rG g13] at hR;refine sr hb b5 ?_;refine td F4 rfl (Gc (j4.chg0 (sg _ _).drew)) ?_;rintro v w10 ⟨rfl,hc10⟩;have hc910:=(sg [] w9).drew.trans0 hc10;have j10:=j4.chg0 hc910;have hb10:=j10.hb;have b10:=hc910.keep b5 Z;refine sr hb10 b10 ?_;have hcu:=j10.cur;have hG:=ok.cur;have hsc:=Oj hG.ok hG.r hcu.1 M.cc hcu.2 (top:=M.S.now.y) (fin:=M.S.fin) (n:=m) (C6 M.S);unfold Gr.val at hsc;refine td KW rfl (hsc) ?_;rintro v w11 ⟨⟨nb,cap,sp,rfl,k1,k2,k3⟩,hc11⟩;have j11:=j10.chg0 hc11;have hb11:=j11.hb;have hl11:=Aa hb11;have hput:=M.dwCur M.S.now.x M.S.now.y (M.S.cur.scroll M.S.now.y M.S.fin m M.S.free) nb cap sp tl;simp -dsimp (disch:=first|omega|(simp only[go_sem,seval];try omega))only[go_sem,seval,Gr.val,hb11,hput];have j12:=j11.grid k3 k1;have hS12:=M.setCur_S (M.S.cur.scroll M.S.now.y M.S.fin m M.S.free) nb cap sp;have hgd:Gd w9 M (M.setCur (M.S.cur.scroll M.S.now.y M.S.fin m M.S.free) nb cap sp):=Gd.cur (.rf rfl rfl rfl) (by have:=hc910.size;omega) _ _ _;have hg12:=JA M (M.S.cur.scroll M.S.now.y M.S.fin m M.S.free) nb cap sp;have hc12:Chg (s::M.dblk) w9 (Ab w11 s ((M.setCur (M.S.cur.scroll M.S.now.y M.S.fin m M.S.free) nb cap sp).dobj M.S.now.x M.S.now.y)):=((hc910.trans0 hc11).mono Z).set _ _ (.inl Z);generalize M.setCur (M.S.cur.scroll M.S.now.y M.S.fin m M.S.free) nb cap sp=M12 at *;generalize Ab w11 s (M12.dobj M.S.now.x M.S.now.y)=w12 at *;have hb12:=j12.hb;have hl12:=Aa hb12;have tl12:=j12.tl;refine sq hb12 ?_;refine⟨M.S.scroll M.S.now.y m,_,_,⟨M12,j12.mv 0 _,hS12,hc12.set _ _ (.inl Z),⟨hgd.dk,hgd.q⟩⟩,(Scr.ok.scroll ok).ok,?_⟩;have okS:=(Scr.ok.scroll (t:=M.S.now.y) (n:=m) ok);rw[hR,show((0:Int))=((0:Nat):Int) from rfl,FL okS.ok _ okS.ok.w0];congr 2;rw[okS.h,Er hny]
   ·rw[rF g13] at hR;refine⟨M.S,_,_,DDx.of j4 (sg _ _) rfl,ok,?_⟩;rw[hR,Da ok]
  refine sn ?_;refine sd (λg14=>?_) (λg14=>?_)
  ·refine sr hb b5 ?_;refine td F4 rfl (Gc (j4.chg0 (sg _ _).drew)) ?_;rintro v w10 ⟨rfl,hc10⟩;have hc910:=(sg [] w8).drew.trans0 hc10;have j10:=j4.chg0 hc910;have hb10:=j10.hb;have b10:=hc910.keep b5 Z;refine sr hb10 b10 ?_;have hcu:=j10.cur;have hG:=ok.cur;have hsc:=LO hG.ok hG.r hcu.1 M.cc hcu.2 (X:=M.S.now.x) (Y:=M.S.now.y) (by rw[hG.w];exact hnx) (by rw[hG.h];exact hny) (n:=n) (C6 M.S);unfold Gr.val at hsc;refine td SD rfl (hsc) ?_;rintro v w11 ⟨⟨nb,cap,sp,rfl,k1,k2,k3⟩,hc11⟩;have j11:=j10.chg0 hc11;have hb11:=j11.hb;have hl11:=Aa hb11;have hput:=M.dwCur M.S.now.x M.S.now.y (M.S.cur.shift M.S.now.x M.S.now.y n M.S.free) nb cap sp tl;simp -dsimp (disch:=first|omega|(simp only[go_sem,seval];try omega))only[go_sem,seval,Gr.val,hb11,hput];have hT:(M.S.line λg=>g.shift M.S.now.x 0 n M.S.free)=M.S.setCur (M.S.cur.shift M.S.now.x M.S.now.y n M.S.free):=NK ok _ _ _;have okT:Nx M.S (M.S.line λg=>g.shift M.S.now.x 0 n M.S.free):=Scr.ok.line ok λ_ hg=>hg.shift;have hd:=DDx.grid (x:=M.S.now.x) (y:=M.S.now.y) ((hc910.trans0 hc11).mono Z) (by exact .rf rfl rfl rfl) j11 k3 k1 (by have:=hc910.size;omega);rw[←hT] at hd;refine⟨_,_,_,hd,okT.ok,?_⟩;have hnow:(M.S.line λg=>g.shift M.S.now.x 0 n M.S.free).now=M.S.now:=by rw[hT,Gs]
   have hid:=Da okT.ok;rw[hnow] at hid;rw[hid];unfold Bo Scr.moved Scr.changed;rw[g14,←hn,hmin];rfl
  refine sn ?_;refine sd (λg15=>?_) (λg15=>?_)
  ·refine sr hb b5 ?_;refine td F4 rfl (Gc (j4.chg0 (sg _ _).drew)) ?_;rintro v w10 ⟨rfl,hc10⟩;have hc910:=(sg [] w8).drew.trans0 hc10;have j10:=j4.chg0 hc910;have hb10:=j10.hb;have b10:=hc910.keep b5 Z;refine sr hb10 b10 ?_;have hcu:=j10.cur;have hG:=ok.cur;have hsc:=LO hG.ok hG.r hcu.1 M.cc hcu.2 (X:=M.S.now.x) (Y:=M.S.now.y) (by rw[hG.w];exact hnx) (by rw[hG.h];exact hny) (n:=(-n)) (C6 M.S);unfold Gr.val at hsc;refine td SD rfl (hsc) ?_;rintro v w11 ⟨⟨nb,cap,sp,rfl,k1,k2,k3⟩,hc11⟩;have j11:=j10.chg0 hc11;have hb11:=j11.hb;have hl11:=Aa hb11;have hput:=M.dwCur M.S.now.x M.S.now.y (M.S.cur.shift M.S.now.x M.S.now.y (-n) M.S.free) nb cap sp tl;simp -dsimp (disch:=first|omega|(simp only[go_sem,seval];try omega))only[go_sem,seval,Gr.val,hb11,hput];have hT:(M.S.line λg=>g.shift M.S.now.x 0 (-n) M.S.free)=M.S.setCur (M.S.cur.shift M.S.now.x M.S.now.y (-n) M.S.free):=NK ok _ _ _;have okT:Nx M.S (M.S.line λg=>g.shift M.S.now.x 0 (-n) M.S.free):=Scr.ok.line ok λ_ hg=>hg.shift;have hd:=DDx.grid (x:=M.S.now.x) (y:=M.S.now.y) ((hc910.trans0 hc11).mono Z) (by exact .rf rfl rfl rfl) j11 k3 k1 (by have:=hc910.size;omega);rw[←hT] at hd;refine⟨_,_,_,hd,okT.ok,?_⟩;have hnow:(M.S.line λg=>g.shift M.S.now.x 0 (-n) M.S.free).now=M.S.now:=by rw[hT,Gs]
   have hid:=Da okT.ok;rw[hnow] at hid;rw[hid];unfold Bo Scr.moved Scr.changed;rw[g15,←hn,hmin];rfl
  refine sn ?_;refine sd (λg16=>?_) (λg16=>?_)
  ·refine sq hb ?_;refine td G1 rfl (HG (Y:=M.S.now.y) (X:=M.S.now.x) (E:=M.S.now.x+n) (j4.chg0 (sg _ _).drew) ok O O O O O O) ?_;intro v w9 hd;have hT:M.S.erase M.S.now.x n=M.S.setCur (M.S.cur.fill M.S.now.x M.S.now.y ((M.S.now.x:Int)+n-M.S.now.x) 1 M.S.free):=by
    rw[show(M.S.now.x:Int)+n-M.S.now.x=n by omega];exact Ts ok _ _ _
   rw[←hT] at hd;have okT:=Scr.ok.erase (x:=M.S.now.x) (n:=n) ok;refine⟨_,_,_,.trans (sg _ _).drew (by exact .rf rfl rfl rfl) hd,okT.ok,?_⟩;have hnow:(M.S.erase M.S.now.x n).now=M.S.now:=by rw[hT,Gs]
   have hid:=Da okT.ok;rw[hnow] at hid;rw[hid];unfold Bo Scr.moved Scr.changed;rw[g16,←hn,hmin];rfl
  refine sn ?_;refine sd (λg17=>?_) (λg17=>?_)
  ·refine td Hn rfl (GS (n:=n) j4 ok O O) ?_;intro v w9 hd;have okT:=Scr.ok.up (n:=n) ok;refine⟨_,_,_,hd,okT.ok,?_⟩;have hid:=Da okT.ok;rw[Jq] at hid;rw[hid];unfold Bo Scr.moved Scr.changed;rw[g17,←hn,hmin];rfl
  refine sn ?_;refine sd (λg18=>?_) (λg18=>?_)
  ·refine sn ?_;refine td Hn rfl (GS (n:=-n) j4 ok O O) ?_;intro v w9 hd;have okT:=Scr.ok.scroll (t:=M.S.top) (n:=-n) ok;have e2:M.S.scroll M.S.top (-n)={ M.S.up (-n) with gone:=(M.S.scroll M.S.top (-n)).gone }:=by rw[IM]
   have hd':=hd.gone (M.S.scroll M.S.top (-n)).gone;rw[←e2] at hd';refine⟨_,_,_,hd',okT.ok,?_⟩;have hnow:(M.S.scroll M.S.top (-n)).now=M.S.now:=Dy _;have hid:=Da okT.ok;rw[hnow] at hid;rw[hid];unfold Bo Scr.moved Scr.changed;rw[g18,←hn,hmin];rfl
  refine sn ?_;refine sd (λg19=>?_) (λg19=>?_)
  ·have hN10:=KC hs (i:=1) O (AS:=0) O O;refine sq a5 ?_;refine td Fb rfl (EF w8 a 1 0 O) ?_;rintro v w9 ⟨rfl,hc9⟩;have j9:=j4.chg0 hc9;have b9:=hc9.keep b5 Z;have hb9:=j9.hb;have hl9:=Aa hb9;obtain⟨q,hq⟩:∃q:Int,q=a.num 1 0:=⟨_,rfl⟩;rw[←hq] at hN10 ⊢;obtain⟨f,hf⟩:∃f:Nat,(f:Int)=if q=0∨(M.S.h:Int)<q then(M.S.h:Int) else q:=by
    split
    ·exact⟨M.S.h,rfl⟩
    ·exact⟨q.toNat,O⟩
   have hfb:f≤M.S.h:=by
    split at hf<;>omega
   refine sh (λv w'=>v=.int .i64 (f:Int)∧w'=w9) ?_ ?_
   ·refine sh (λv w'=>v=.bool (decide (q=0∨(M.S.h:Int)<q))∧w'=w9) ?_ ?_
    ·refine sn ?_;refine sd (λg=>⟨su (.inl g),rfl⟩) (λg=>?_);refine sq b9 ?_;rw[hwh.2];exact sw ⟨λh=>.inr h,λh=>h.resolve_left g⟩
    rintro v w10 ⟨rfl,rfl⟩;refine sd (λg=>?_) (λg=>⟨by rw[hf,rF g],rfl⟩);refine sq b9 ?_;rw[hf,rG g,hwh.2]
   rintro v w10 ⟨rfl,rfl⟩;refine sn ?_;have hR:Bo M.S a=(M.S.region (n-1) q).calm:=by
    unfold Bo Scr.moved Scr.changed;rw[g19,←hn,hmin,←hq];rfl
   unfold Scr.region at hR;dsimp only at hR;rw[←hf] at hR;refine sd (λg20=>?_) (λg20=>?_)
   ·rw[rG g20] at hR;obtain⟨t,ht⟩:∃t:Nat,n-1=(t:Int):=⟨(n-1).toNat,O⟩;rw[ht] at hR;refine sr ht hb9 ?_;have okT:({ M.S with top:=t,fin:=f }:Scr).ok:=⟨ok.w0,ok.w1,ok.h0,ok.h1,ok.g0,ok.g1,ok.nx,ok.ny,ok.s0x,ok.s0y,ok.s1x,ok.s1y,by show t<f;omega,hfb,ok.tl,ok.gl,ok.gr⟩;refine⟨{ M.S with top:=t,fin:=f },0,0,DDx.num (hc9.mono Z) (by exact .rf rfl rfl rfl) j9 { M.S with top:=t,fin:=f } 0 0 rfl rfl tl,okT,?_⟩;rw[hR];rfl
   ·rw[rF g20] at hR;refine⟨M.S,_,_,DDx.of j9 (hc9.mono Z) rfl,ok,?_⟩;rw[hR,Da ok]
  refine sn ?_;refine sd (λg21=>?_) (λg21=>?_)
  ·refine td KI rfl (Kn j4 ok) ?_;intro v w9 hd;have okT:=Scr.ok.back ok;refine⟨{ M.S with now:=AZ M.S },_,_,hd,okT.ok,?_⟩;rw[Da okT.ok];unfold Bo Scr.moved;rw[g21];rfl
  ·have e:Bo M.S a=M.S:=by
    simp only[Bo,Scr.moved,Scr.changed,show ¬a.r=70 from g6,g1,g2,g3,g4,g5,show ¬a.r=71 from λh=>g7 (.inl h),show ¬a.r=96 from λh=>g7 (.inr h),g8,show ¬a.r=72 from λh=>g9 (.inl h),show ¬a.r=102 from λh=>g9 (.inr h),g10,g11,show ¬a.r=76 from λh=>g12 (.inl h),show ¬a.r=77 from λh=>g12 (.inr h),g14,g15,g16,g17,g18,g19,g21,if_false,or_self]
   rw[e] at hK;exact hK _ _ (.trans (hc5.mono Z) (by exact .rf rfl rfl rfl) (DDx.of j4 (sg _ _) rfl))
 ·rintro w6 ⟨T,x,y,⟨M6,j6,e6,hc6,hb6⟩,okT,e⟩;rw[e] at hK;refine td Ku rfl (KL j6 (by rw[e6];exact okT)) ?_;rintro v w7 ⟨M7,j7,e7,hc7,hb7⟩;rw[e6] at e7 j7;have hm7:=j7.hb;have hl7:=Aa hm7;have tl7:=j7.tl;refine sq hm7 ?_;have hc06:Chg (s::M.dblk) w w6:=(hc5.mono Z).trans hc6 (λb hb=>.inl hb);have hz5:=hc5.size;have hc07:Chg (s::M.dblk) w w7:=hc06.trans hc7 λb hb=>(rM.1 hb).elim (λe=>.inl (by simp [e])) λhb=>(hb6 b hb).elim (λh=>.inl (List.mem_cons_of_mem _ h)) (λh=>.inr O);have hz6:=hc6.size;have hK':=hK (.tuple #[]) (Ab w7 s (({ M7 with S:=M7.S.calm }:Scm).dobj (T.move x y).now.x (T.move x y).now.y));refine hK' ?_;rw[←e7];exact DDx.num hc07 (Gd.trans (w1:=w6) (Gd.trans (w1:=w5) (by exact .rf rfl rfl rfl) hb6 O) hb7 O) (e7 ▸ j7) M7.S.calm _ _ rfl rfl tl7
set_option maxRecDepth 100000
def Oe(a b:Value)(K:rD):rE:=xB 60 a λc=>xB 89 b λd=>xA 60 λe=>Join1 (λf=>xF 89 d 0 λg=>xL 3 g λg=>xO .neq 3 g (.int .i64 4) λg=>xW g (f (.bool true))<|xF 89 d 1 λg=>xL 21 g λg=>xO .neq 21 g (.int .i32 109) λg=>xW g (f (.bool true))<|xF 89 d 2 λg=>xL 5 g λg=>xO .neq 5 g (.int .u8 0) λg=>xW g (f (.bool true))<|xF 89 d 3 λg=>xL 5 g λg=>xO .neq 5 g (.int .u8 0) λg=>f g) λg=>xW g (xL 60 c λg=>xS 60 e g<|xD 60 e λg=>K g)<|Loop2 (.slice none 0 0) (.int .i64 0) λg f h=>Join1 (λi=>xF 89 d 4 λj=>xL 3 j λj=>xO .lss 3 f j λj=>xW j (xO .lss 3 f (.int .i64 8) λj=>i j)<|i (.bool false)) λj=>xW j (xF 89 d 5 λj=>xI 87 j f λj=>xL 3 j λj=>xQ (.buildSlice 117 1 #[(0,.const j)]) 117 λj=>xV g j 117 117 117 λj=>xO .add 3 f (.int .i64 1) λf=>h j f)<|xU g 117 λf=>xO .eql 3 f (.int .i64 0) λf=>xW f (xL 60 c λf=>xC 125 [.const f,.const (.int .i64 0)] [60,3] 60 λf=>xS 60 e f<|xD 60 e λf=>K f)<|Loop1 g λf g=>xU f 117 λj=>xO .gtr 3 j (.int .i64 0) λj=>xW j (Join1 (λj=>xI 117 f (.int .i64 0) λh=>xL 3 h λh=>Join1 (λd=>xO .neq 3 h (.int .i64 38) λi=>xW i (xO .neq 3 h (.int .i64 48) λi=>d i)<|d (.bool false)) λi=>xW i (xL 60 c λi=>xC 125 [.const i,.const h] [60,3] 60 λi=>xS 60 c i<|xQ (.slice 117 (.const f) (some (.const (.int .i64 1))) none none) 117 λi=>j i)<|Join3 (λi=>Join1 (λd=>xU f 117 λl=>xO .geq 3 l (.int .i64 3) λl=>xW l (xI 117 f (.int .i64 1) λl=>xL 3 l λl=>xO .eql 3 l (.int .i64 5) λl=>d l)<|d (.bool false)) λl=>xW l (Join2 (λl=>Join1 (λd=>xI 117 f (.int .i64 2) λm=>xL 3 m λm=>xO .geq 3 m (.int .i64 0) λm=>xW m (xI 117 f (.int .i64 2) λm=>xL 3 m λm=>xO .leq 3 m (.int .i64 255) λm=>d m)<|d (.bool false)) λm=>xW m (xI 117 f (.int .i64 2) λm=>xL 3 m λm=>xC 126 [.const m] [3] 5 λm=>l m (.bool true))<|l (.int .u8 0) (.bool false)) λm l=>xQ (.slice 117 (.const f) (some (.const (.int .i64 3))) none none) 117 λd=>i d m l)<|Join1 (λd=>xU f 117 λl=>xO .geq 3 l (.int .i64 5) λl=>xW l (xI 117 f (.int .i64 1) λl=>xL 3 l λl=>xO .eql 3 l (.int .i64 2) λl=>d l)<|d (.bool false)) λl=>xW l (Ag<|xP (.indexAddr 117 (.const f) (.const (.int .i64 2))) 0 λl=>qL 3 l λl=>xP (.indexAddr 117 (.const f) (.const (.int .i64 3))) 0 λd=>qL 3 d λd=>xP (.indexAddr 117 (.const f) (.const (.int .i64 4))) 0 λm=>qL 3 m λm=>xC 127 [.const l,.const d,.const m] [3,3,3] 5 λm=>xQ (.slice 117 (.const f) (some (.const (.int .i64 5))) none none) 117 λf=>i f m (.bool true))<|i (.slice none 0 0) (.int .u8 0) (.bool false)) λf m i=>Join0 (λd=>Join1 (λl=>xW i (xO .eql 3 h (.int .i64 38) λn=>l n)<|l (.bool false)) λn=>xW n (xF 60 c 1 λn=>xS 5 n m<|d)<|d)<|Join1 (λn=>xW i (xO .eql 3 h (.int .i64 48) λi=>n i)<|n (.bool false)) λi=>xW i (xF 60 c 2 λi=>xS 5 i m<|j f)<|j f) λi=>g i)<|xL 60 c λi=>xS 60 e i<|xD 60 e λi=>K i
theorem jf(a b:Value):Lk 65 #[a,b] (Oe a b):=lk [a,b] [(4,[27]),(16,[5,6]),(19,[36]),(37,[5]),(44,[5]),(49,[62]),(61,[5,8,9]),(63,[76]),(65,[8,9]),(67,[86]),(75,[101]),(83,[]),(85,[118]),(90,[125])] func65
theorem jN:Ad prog 65:=bd func65
def NB(a b:Value)(K:rD):rE:=xB 60 a λc=>xA 60 λd=>Join0 (λe=>xO .eql 3 b (.int .i64 0) λf=>xW f (xF 60 c 1 λf=>xS 5 f (.int .u8 0)<|xF 60 c 2 λf=>xS 5 f (.int .u8 0)<|xF 60 c 3 λf=>xS 5 f (.int .u8 0)<|e)<|xO .eql 3 b (.int .i64 1) λf=>xW f (xF 60 c 3 λf=>xL 5 f λf=>xC 179 [.const f,.const (.int .u8 1),.const (.bool true)] [5,5,4] 5 λf=>xF 60 c 3 λg=>xS 5 g f<|e)<|xO .eql 3 b (.int .i64 2) λg=>xW g (xF 60 c 3 λg=>xL 5 g λg=>xC 179 [.const g,.const (.int .u8 2),.const (.bool true)] [5,5,4] 5 λg=>xF 60 c 3 λf=>xS 5 f g<|e)<|xO .eql 3 b (.int .i64 3) λf=>xW f (xF 60 c 3 λf=>xL 5 f λf=>xC 179 [.const f,.const (.int .u8 4),.const (.bool true)] [5,5,4] 5 λf=>xF 60 c 3 λg=>xS 5 g f<|e)<|xO .eql 3 b (.int .i64 4) λg=>xW g (xF 60 c 3 λg=>xL 5 g λg=>xC 179 [.const g,.const (.int .u8 8),.const (.bool true)] [5,5,4] 5 λg=>xF 60 c 3 λf=>xS 5 f g<|e)<|xO .eql 3 b (.int .i64 5) λf=>xW f (xF 60 c 3 λf=>xL 5 f λf=>xC 179 [.const f,.const (.int .u8 16),.const (.bool true)] [5,5,4] 5 λf=>xF 60 c 3 λg=>xS 5 g f<|e)<|xO .eql 3 b (.int .i64 7) λg=>xW g (xF 60 c 3 λg=>xL 5 g λg=>xC 179 [.const g,.const (.int .u8 32),.const (.bool true)] [5,5,4] 5 λg=>xF 60 c 3 λf=>xS 5 f g<|e)<|xO .eql 3 b (.int .i64 22) λf=>xW f (xF 60 c 3 λf=>xL 5 f λf=>xC 179 [.const f,.const (.int .u8 1),.const (.bool false)] [5,5,4] 5 λf=>xC 179 [.const f,.const (.int .u8 2),.const (.bool false)] [5,5,4] 5 λf=>xF 60 c 3 λg=>xS 5 g f<|e)<|xO .eql 3 b (.int .i64 23) λg=>xW g (xF 60 c 3 λg=>xL 5 g λg=>xC 179 [.const g,.const (.int .u8 4),.const (.bool false)] [5,5,4] 5 λg=>xF 60 c 3 λf=>xS 5 f g<|e)<|xO .eql 3 b (.int .i64 24) λf=>xW f (xF 60 c 3 λf=>xL 5 f λf=>xC 179 [.const f,.const (.int .u8 8),.const (.bool false)] [5,5,4] 5 λf=>xF 60 c 3 λg=>xS 5 g f<|e)<|xO .eql 3 b (.int .i64 25) λg=>xW g (xF 60 c 3 λg=>xL 5 g λg=>xC 179 [.const g,.const (.int .u8 16),.const (.bool false)] [5,5,4] 5 λg=>xF 60 c 3 λf=>xS 5 f g<|e)<|xO .eql 3 b (.int .i64 27) λf=>xW f (xF 60 c 3 λf=>xL 5 f λf=>xC 179 [.const f,.const (.int .u8 32),.const (.bool false)] [5,5,4] 5 λf=>xF 60 c 3 λg=>xS 5 g f<|e)<|xO .eql 3 b (.int .i64 39) λg=>xW g (xF 60 c 1 λg=>xS 5 g (.int .u8 0)<|e)<|xO .eql 3 b (.int .i64 49) λg=>xW g (xF 60 c 2 λg=>xS 5 g (.int .u8 0)<|e)<|e)<|Join0 (λg=>Join1 (λe=>xO .geq 3 b (.int .i64 30) λf=>xW f (xO .leq 3 b (.int .i64 37) λf=>e f)<|e (.bool false)) λf=>xW f (xO .sub 3 b (.int .i64 30) λf=>xC 126 [.const f] [3] 5 λf=>xF 60 c 1 λe=>xS 5 e f<|g)<|g)<|Join0 (λe=>Join1 (λf=>xO .geq 3 b (.int .i64 40) λg=>xW g (xO .leq 3 b (.int .i64 47) λg=>f g)<|f (.bool false)) λg=>xW g (xO .sub 3 b (.int .i64 40) λg=>xC 126 [.const g] [3] 5 λg=>xF 60 c 2 λf=>xS 5 f g<|e)<|e)<|Join0 (λf=>Join1 (λg=>xO .geq 3 b (.int .i64 90) λe=>xW e (xO .leq 3 b (.int .i64 97) λe=>g e)<|g (.bool false)) λe=>xW e (xO .sub 3 b (.int .i64 82) λe=>xC 126 [.const e] [3] 5 λe=>xF 60 c 1 λg=>xS 5 g e<|f)<|f)<|Join0 (λg=>Join1 (λe=>xO .geq 3 b (.int .i64 100) λf=>xW f (xO .leq 3 b (.int .i64 107) λf=>e f)<|e (.bool false)) λf=>xW f (xO .sub 3 b (.int .i64 92) λf=>xC 126 [.const f] [3] 5 λf=>xF 60 c 2 λe=>xS 5 e f<|g)<|g)<|xL 60 c λe=>xS 60 d e<|xD 60 d λe=>K e
theorem iy(a b:Value):Lk 125 #[a,b] (NB a b):=lk [a,b] [(2,[]),(67,[]),(69,[89]),(73,[]),(75,[99]),(79,[]),(81,[109]),(85,[]),(87,[119])] func125
theorem Mp:Ad prog 125:=bd func125
def Rm(a:Value)(K:rD):rE:=xO .eql 3 a (.int .i64 0) λb=>xW b (K (.int .u8 1))<|xQ (.convert 3 5 (.const a)) 5 λb=>K b
theorem ba(a:Value):Lk 126 #[a] (Rm a):=lk [a] [] func126
theorem EI:Ad prog 126:=bd func126
def M8(a b c:Value)(K:rD):rE:=xC 180 [.const a] [3] 3 λd=>xO .quo 3 d (.int .i64 43) λd=>xO .mul 3 (.int .i64 36) d λd=>xO .add 3 (.int .i64 16) d λd=>xC 180 [.const b] [3] 3 λe=>xO .quo 3 e (.int .i64 43) λe=>xO .mul 3 (.int .i64 6) e λe=>xO .add 3 d e λe=>xC 180 [.const c] [3] 3 λd=>xO .quo 3 d (.int .i64 43) λd=>xO .add 3 e d λd=>xC 126 [.const d] [3] 5 λd=>K d
theorem ZS(a b c:Value):Lk 127 #[a,b,c] (M8 a b c):=lk [a,b,c] [] func127
theorem VN:Ad prog 127:=bd func127
def No(a b c:Value)(K:rD):rE:=Join1 (λd=>xO .quo 5 a b λe=>xO .rem 5 e (.int .u8 2) λe=>xO .eql 5 e (.int .u8 1) λe=>xW e (xO .sub 5 a b λe=>d e)<|d a) λe=>Join1 (λd=>xW c (xO .add 5 e b λf=>d f)<|d e) λf=>K f
theorem bm(a b c:Value):Lk 179 #[a,b,c] (No a b c):=lk [a,b,c] [(2,[0]),(8,[0])] func179
theorem CO:Ad prog 179:=bd func179
def MP(a:Value)(K:rD):rE:=xO .lss 3 a (.int .i64 0) λb=>xW b (K (.int .i64 0))<|xO .gtr 3 a (.int .i64 255) λb=>xW b (K (.int .i64 255))<|K a
theorem fk(a:Value):Lk 180 #[a] (MP a):=lk [a] [] func180
theorem KN:Ad prog 180:=bd func180
def onP(a way:BitVec 8)(b:Bool):BitVec 8:=bif b then a ||| way else a &&& ~~~way
theorem Ut(a way:BitVec 8)(b:way=1#8∨way=2#8∨way=4#8∨way=8#8∨way=16#8∨way=32#8):(a.toNat / way.toNat % 2=1→a.toNat-way.toNat=(a &&& ~~~way).toNat∧way.toNat≤a.toNat)∧(¬a.toNat / way.toNat % 2=1→a=a &&& ~~~way)∧(a &&& ~~~way).toNat+way.toNat=(a ||| way).toNat:=by
 rcases b with rfl|rfl|rfl|rfl|rfl|rfl<;>(revert a;decide)
theorem dS(w:World)(a way:BitVec 8)(b:Bool)(c:way=1#8∨way=2#8∨way=4#8∨way=8#8∨way=16#8∨way=32#8):Calls prog 179 #[.int .u8 a.toNat,.int .u8 way.toNat,.bool b] w (Ac λv d=>v=.int .u8 (onP a way b).toNat∧d=w):=by
 have e:=a.isLt;have f:=way.isLt;obtain⟨i,j,k⟩:=Ut a way c;have l:=(a ||| way).isLt;have n:way.toNat≠0:=by rcases c with rfl|rfl|rfl|rfl|rfl|rfl<;>decide
 apply bm;intro K o;unfold No;refine sh (λv d=>v=.int .u8 (a &&& ~~~way).toNat∧d=w) ?_ ?_
 ·have p:((a.toNat:Int).tdiv (way.toNat:Int))=((a.toNat / way.toNat:Nat):Int):=rfl;have q:a.toNat / way.toNat<256:=Nat.lt_of_le_of_lt (Nat.div_le_self ..) e;have r:IntKind.u8.wrap ((a.toNat / way.toNat:Nat):Int)=((a.toNat / way.toNat:Nat):Int):=by
   generalize a.toNat / way.toNat=m at *;exact so
  have s:(((a.toNat / way.toNat:Nat):Int)).tmod 2=((a.toNat / way.toNat % 2:Nat):Int):=rfl;refine sn ?_;rw[p,r,s];refine sd (λg=>?_) (λg=>⟨congrArg (λx:BitVec 8=>Value.int .u8 (x.toNat:Int)) (j O),rfl⟩);obtain⟨t,u⟩:=i O;refine sn ?_;rw[←t];congr 1;omega
 rintro v y ⟨rfl,rfl⟩;refine sh (λv d=>v=.int .u8 (onP a way b).toNat∧d=y) ?_ (λv d h=>o _ _ h);refine BrW.by (λg=>?_) (λg=>?_)
 ·subst g;refine sn ?_;show Value.int .u8 _=Value.int .u8 ((a ||| way).toNat:Int);congr 1;omega
 ·subst g;exact⟨rfl,rfl⟩
theorem EH(w:World)(n:Int):Calls prog 126 #[.int .i64 n] w (Ac λv a=>v=.int .u8 (if n=0 then 1#8 else BitVec.ofInt 8 n).toNat∧a=w):=by
 apply ba;intro K b;unfold Rm;refine sn ?_;refine sd (λg=>b _ _ ⟨by rw[rG g];rfl,rfl⟩) (λg=>?_);rw[rF g] at b;refine sn ?_;rw[Jz];exact b _ _ ⟨rfl,rfl⟩
theorem FZ{n:Int}(a:0≤n):(if n=0 then 1#8 else BitVec.ofInt 8 n)=hue n:=by
 unfold hue;split
 ·rename_i h;rw[h];rfl
 ·congr 1;omega
theorem Kh(w:World)(n:Int):Calls prog 180 #[.int .i64 n] w (Ac λv a=>v=.int .i64 (min (max n 0) 255)∧a=w):=by
 apply fk;intro K b;unfold MP;refine sn ?_;refine sd (λg=>b _ _ ⟨by congr 1;omega,rfl⟩) (λg=>?_);refine sn ?_;exact sd (λg2=>b _ _ ⟨by congr 1;omega,rfl⟩) (λg2=>b _ _ ⟨by congr 1;omega,rfl⟩)
theorem UC(w:World)(r g b:Int):Calls prog 127 #[.int .i64 r,.int .i64 g,.int .i64 b] w (Ac λv a=>v=.int .u8 (rgb r g b).toNat∧a=w):=by
 have c:∀n:Int,IntKind.i64.wrap ((min (max n 0) 255).tdiv 43)=BP n:=λn=>by
  have e:(min (max n 0) 255).tdiv 43=BP n:=by unfold BP;rw[Int.tdiv_eq_ediv_of_nonneg O]
  have d:0≤BP n∧BP n≤255:=by unfold BP;omega
  rw[e,F3 _ O O]
 have f:=EM r;have h:=EM g;have i:=EM b;apply ZS;intro K j;unfold M8;refine td KN rfl (Kh w r) ?_;rintro v k ⟨rfl,rfl⟩;refine sq c ?_;refine td KN rfl (Kh k g) ?_;rintro v w2 ⟨rfl,rfl⟩;refine sq c ?_;refine td KN rfl (Kh w2 b) ?_;rintro v l ⟨rfl,rfl⟩;refine sq c ?_;refine td EI rfl (EH l _) ?_;rintro v m ⟨rfl,rfl⟩;refine j _ _ ⟨?_,rfl⟩;rw[rF O];rfl
def Fv(c:Cel)(n:Int):Cel:=if 30≤n∧n≤37 then { c with fg:=hue (n-30) } else if 40≤n∧n≤47 then { c with bg:=hue (n-40) } else if 90≤n∧n≤97 then { c with fg:=hue (n-82) } else if 100≤n∧n≤107 then { c with bg:=hue (n-92) } else c
theorem LY(a:BitVec 8):a ||| 0#8=a∧a &&& ~~~0#8=a∧(a &&& ~~~1#8) &&& ~~~2#8=a &&& ~~~3#8:=by revert a;decide
theorem aa(c:Cel)(n:Int)(b:n≠0)(d:n≠1)(e:n≠2)(f:n≠3)(g:n≠4)(h:n≠5)(i:n≠7)(j:n≠22)(k:n≠23)(l:n≠24)(m:n≠25)(o:n≠27)(p:n≠39)(q:n≠49):B8 c n=Fv c n:=by
 obtain⟨r,s,-⟩:=LY c.a;by_cases t:n=6
 ·subst t;show({ c with a:=c.a ||| 0#8 }:Cel)=c;rw[r]
 by_cases u:n=26
 ·subst u;show({ c with a:=c.a &&& ~~~0#8 }:Cel)=c;rw[s]
 unfold B8 Fv;rw[rF b,rF O,rF j,rF O,rF p,rF q]
def PnI(w:World)(c:Cel)(w':World):Prop:=w'.heap[w.heap.size]?=some (.cells c.cells.toArray 60)∧w'.heap[w.heap.size+1]?=some (.cells #[.int .i32 0,.int .u8 0,.int .u8 0,.int .u8 0] 60)∧Chg [] w w'
theorem PnI.set{w w':World}{c c':Cel}(h:PnI w c w'):PnI w c' (Ab w' w.heap.size (.cells c'.cells.toArray 60)):=by
 have:=Aa h.1;refine⟨Aw _ _ _ _ rfl this,?_,h.2.2.set _ _ (.inr (rH _))⟩;rw[A5 _ _ _ _ O];exact h.2.1
theorem OT(w:World)(c:Cel)(n:Int)(hn:Bn n):Calls prog 125 #[c.val,.int .i64 n] w (Ac λv w'=>v=(B8 c n).val∧Chg [] w w'):=by
 obtain⟨m0,m1⟩:=hn;apply iy;intro K hK;unfold NB;refine sn ?_;refine si (λw'=>∃c1,PnI w c1 w'∧B8 c n=Fv c1 n) ?_ ?_
 ·obtain⟨w1,hw1⟩:∃w1,w1=(w.alloc (.cells c.cells.toArray 60)).alloc (.cells #[.int .i32 0,.int .u8 0,.int .u8 0,.int .u8 0] 60):=⟨_,rfl⟩;have hI:PnI w c w1:=by
   refine⟨?_,?_,?_⟩
   ·rw[hw1];exact so
   ·rw[hw1];exact so
   ·rw[hw1];exact sy
  simp only[Cel.cells] at hw1;have fin:∀(c1:Cel) (o:Obj),o=.cells c1.cells.toArray 60→B8 c n=Fv c1 n→∃c2,PnI w c2 (Ab w1 w.heap.size o)∧B8 c n=Fv c2 n:=λc1 o ho e=>⟨c1,by rw[ho];exact hI.set,e⟩;have hb:=hI.1;have hl:=Aa hb;have on1:∀(w':World) (a:BitVec 8) (k:BitVec 8) (b:Bool) (z:Int),(k=1#8∨k=2#8∨k=4#8∨k=8#8∨k=16#8∨k=32#8)→z=k.toNat→Calls prog 179 #[.int .u8 a.toNat,.int .u8 z,.bool b] w' (Ac λv w''=>v=.int .u8 (onP a k b).toNat∧w''=w'):=λw' a k b z hk e=>e ▸ dS w' a k b hk;rw[←hw1];clear hw1;refine sn ?_;refine sd (λg=>?_) (λg0=>?_)
  ·subst g;refine sq hb ?_;exact fin ⟨c.r,0,0,0⟩ _ rfl rfl
  refine sn ?_;refine sd (λg=>?_) (λg1=>?_)
  ·subst g;refine sq hb ?_;refine td CO rfl (on1 w1 c.a 1#8 true 1 Z rfl) ?_;rintro v w2 ⟨rfl,rfl⟩;refine sq hb ?_;exact fin ⟨c.r,c.fg,c.bg,onP c.a 1#8 true⟩ _ rfl rfl
  refine sn ?_;refine sd (λg=>?_) (λg2=>?_)
  ·subst g;refine sq hb ?_;refine td CO rfl (on1 w1 c.a 2#8 true 2 Z rfl) ?_;rintro v w2 ⟨rfl,rfl⟩;refine sq hb ?_;exact fin ⟨c.r,c.fg,c.bg,onP c.a 2#8 true⟩ _ rfl rfl
  refine sn ?_;refine sd (λg=>?_) (λg3=>?_)
  ·subst g;refine sq hb ?_;refine td CO rfl (on1 w1 c.a 4#8 true 4 Z rfl) ?_;rintro v w2 ⟨rfl,rfl⟩;refine sq hb ?_;exact fin ⟨c.r,c.fg,c.bg,onP c.a 4#8 true⟩ _ rfl rfl
  refine sn ?_;refine sd (λg=>?_) (λg4=>?_)
  ·subst g;refine sq hb ?_;refine td CO rfl (on1 w1 c.a 8#8 true 8 Z rfl) ?_;rintro v w2 ⟨rfl,rfl⟩;refine sq hb ?_;exact fin ⟨c.r,c.fg,c.bg,onP c.a 8#8 true⟩ _ rfl rfl
  refine sn ?_;refine sd (λg=>?_) (λg5=>?_)
  ·subst g;refine sq hb ?_;refine td CO rfl (on1 w1 c.a 16#8 true 16 Z rfl) ?_;rintro v w2 ⟨rfl,rfl⟩;refine sq hb ?_;exact fin ⟨c.r,c.fg,c.bg,onP c.a 16#8 true⟩ _ rfl rfl
  refine sn ?_;refine sd (λg=>?_) (λg7=>?_)
  ·subst g;refine sq hb ?_;refine td CO rfl (on1 w1 c.a 32#8 true 32 Z rfl) ?_;rintro v w2 ⟨rfl,rfl⟩;refine sq hb ?_;exact fin ⟨c.r,c.fg,c.bg,onP c.a 32#8 true⟩ _ rfl rfl
  refine sn ?_;refine sd (λg=>?_) (λg22=>?_)
  ·subst g;refine sq hb ?_;refine td CO rfl (on1 w1 c.a 1#8 false 1 Z rfl) ?_;rintro v w2 ⟨rfl,rfl⟩;refine sn ?_;refine td CO rfl (on1 w2 (onP c.a 1#8 false) 2#8 false 2 Z rfl) ?_;rintro v w3 ⟨rfl,rfl⟩;refine sq hb ?_;refine fin ⟨c.r,c.fg,c.bg,onP (onP c.a 1#8 false) 2#8 false⟩ _ rfl ?_;show({ c with a:=c.a &&& ~~~3#8 }:Cel)={ c with a:=(c.a &&& ~~~1#8) &&& ~~~2#8 };rw[(LY c.a).2.2]
  refine sn ?_;refine sd (λg=>?_) (λg23=>?_)
  ·subst g;refine sq hb ?_;refine td CO rfl (on1 w1 c.a 4#8 false 4 Z rfl) ?_;rintro v w2 ⟨rfl,rfl⟩;refine sq hb ?_;exact fin ⟨c.r,c.fg,c.bg,onP c.a 4#8 false⟩ _ rfl rfl
  refine sn ?_;refine sd (λg=>?_) (λg24=>?_)
  ·subst g;refine sq hb ?_;refine td CO rfl (on1 w1 c.a 8#8 false 8 Z rfl) ?_;rintro v w2 ⟨rfl,rfl⟩;refine sq hb ?_;exact fin ⟨c.r,c.fg,c.bg,onP c.a 8#8 false⟩ _ rfl rfl
  refine sn ?_;refine sd (λg=>?_) (λg25=>?_)
  ·subst g;refine sq hb ?_;refine td CO rfl (on1 w1 c.a 16#8 false 16 Z rfl) ?_;rintro v w2 ⟨rfl,rfl⟩;refine sq hb ?_;exact fin ⟨c.r,c.fg,c.bg,onP c.a 16#8 false⟩ _ rfl rfl
  refine sn ?_;refine sd (λg=>?_) (λg27=>?_)
  ·subst g;refine sq hb ?_;refine td CO rfl (on1 w1 c.a 32#8 false 32 Z rfl) ?_;rintro v w2 ⟨rfl,rfl⟩;refine sq hb ?_;exact fin ⟨c.r,c.fg,c.bg,onP c.a 32#8 false⟩ _ rfl rfl
  refine sn ?_;refine sd (λg=>?_) (λg39=>?_)
  ·subst g;refine sq hb ?_;exact fin ⟨c.r,0,c.bg,c.a⟩ _ rfl rfl
  refine sn ?_;refine sd (λg=>?_) (λg49=>?_)
  ·subst g;refine sq hb ?_;exact fin ⟨c.r,c.fg,0,c.a⟩ _ rfl rfl
  exact⟨c,hI,aa c n g0 g1 g2 g3 g4 g5 g7 g22 g23 g24 g25 g27 g39 g49⟩
 rintro w1 ⟨c1,hI1,e1⟩;have st:∀(c2 c3:Cel) (w':World),PnI w c2 w'→c3=c2→PnI w c3 w':=λ_ _ _ h e=>e ▸ h;refine si (PnI w (if 30≤n∧n≤37 then { c1 with fg:=hue (n-30) } else c1)) ?_ ?_
 ·refine DU ?_;refine sd (λg=>?_) (λg=>st _ _ _ hI1 (rF g));have hb:=hI1.1;have hl:=Aa hb;refine sn ?_;refine td EI rfl (EH w1 (n-30)) ?_;rintro v w2 ⟨rfl,rfl⟩;rw[FZ O];refine sq hb ?_;rw[rG g];exact hI1.set (c':=⟨c1.r,hue (n-30),c1.bg,c1.a⟩)
 rintro w2 hI2;obtain⟨c2,hc2⟩:∃c2,c2=if 30≤n∧n≤37 then { c1 with fg:=hue (n-30) } else c1:=⟨_,rfl⟩
 rw[←hc2] at hI2;refine si (PnI w (if 40≤n∧n≤47 then { c2 with bg:=hue (n-40) } else c2)) ?_ ?_
 ·refine DU ?_;refine sd (λg=>?_) (λg=>st _ _ _ hI2 (rF g));have hb:=hI2.1;have hl:=Aa hb;refine sn ?_;refine td EI rfl (EH w2 (n-40)) ?_;rintro v w3 ⟨rfl,rfl⟩;rw[FZ O];refine sq hb ?_;rw[rG g];exact hI2.set (c':=⟨c2.r,c2.fg,hue (n-40),c2.a⟩)
 rintro w3 hI3;obtain⟨c3,hc3⟩:∃c3,c3=if 40≤n∧n≤47 then { c2 with bg:=hue (n-40) } else c2:=⟨_,rfl⟩
 rw[←hc3] at hI3;refine si (PnI w (if 90≤n∧n≤97 then { c3 with fg:=hue (n-82) } else c3)) ?_ ?_
 ·refine DU ?_;refine sd (λg=>?_) (λg=>st _ _ _ hI3 (rF g));have hb:=hI3.1;have hl:=Aa hb;refine sn ?_;refine td EI rfl (EH w3 (n-82)) ?_;rintro v w4 ⟨rfl,rfl⟩;rw[FZ O];refine sq hb ?_;rw[rG g];exact hI3.set (c':=⟨c3.r,hue (n-82),c3.bg,c3.a⟩)
 rintro w4 hI4;obtain⟨c4,hc4⟩:∃c4,c4=if 90≤n∧n≤97 then { c3 with fg:=hue (n-82) } else c3:=⟨_,rfl⟩
 rw[←hc4] at hI4;refine si (PnI w (if 100≤n∧n≤107 then { c4 with bg:=hue (n-92) } else c4)) ?_ ?_
 ·refine DU ?_;refine sd (λg=>?_) (λg=>st _ _ _ hI4 (rF g));have hb:=hI4.1;have hl:=Aa hb;refine sn ?_;refine td EI rfl (EH w4 (n-92)) ?_;rintro v w5 ⟨rfl,rfl⟩;rw[FZ O];refine sq hb ?_;rw[rG g];exact hI4.set (c':=⟨c4.r,c4.fg,hue (n-92),c4.a⟩)
 rintro w5 hI5;obtain⟨c5,hc5⟩:∃c5,c5=if 100≤n∧n≤107 then { c4 with bg:=hue (n-92) } else c4:=⟨_,rfl⟩
 rw[←hc5] at hI5;have e:B8 c n=c5:=by
  rw[e1,hc5,hc4,hc3,hc2];unfold Fv;by_cases q1:30≤n∧n≤37
  ·rw[rG q1,rG q1,rF O,rF O,rF O]
  by_cases q2:40≤n∧n≤47
  ·rw[rF q1,rF q1,rG q2,rG q2,rF O,rF O]
  by_cases q3:90≤n∧n≤97
  ·rw[rF q1,rF q1,rF q2,rF q2,rG q3,rG q3,rF O]
  ·rw[rF q1,rF q1,rF q2,rF q2,rF q3,rF q3]
 obtain⟨hb,hz,hc⟩:=hI5;have hl:=Aa hb;have hl2:=Aa hz;refine sr hb hz ?_;refine hK _ _ ⟨by rw[e];rfl,hc.set _ _ (.inr O)⟩
end Go.Proofs.YtnpkidnbhlepkaaGreat
namespace Lyc
open Go
theorem fE(y:Int)(l:List Int):AI (5::y::l)=(if 0≤y∧y≤255 then some (hue y) else none,l):=by simp [AI]
theorem eD(r g b:Int)(l:List Int):AI (2::r::g::b::l)=(some (rgb r g b),l):=by simp [AI]
theorem cY{l:List Int}(a:¬(2≤l.length∧l.getD 0 0=5))(b:¬(4≤l.length∧l.getD 0 0=2)):AI l=(none,[]):=by
 unfold AI;split
 ·exact absurd ⟨Z,rfl⟩ a
 ·exact absurd ⟨Z,rfl⟩ b
 ·rfl
end Lyc
namespace Go.Proofs.YtnpkidnbhlepkaaGreat
open Lyc Go Go.Proofs.Tryz
theorem R7(n:Int):(fI n).length=1:=rfl
theorem Zi(n:Int):AV (fI n)=true:=rfl
def LfA(w:World)(v:Value)(l:List Int):Prop:=∃a b,v=.slice a l.length b∧l.length≤b∧Sx w (some 3) fI a l
theorem LfA.low{w w':World}{b:Nat}{v:Value}{l:List Int}(h:LfA w v l)(d:Chg [b] w w'){c:Array Value}{e:Nat × Nat}(f:w.heap[b]?=some (.cells c 60 e)):LfA w' v l:=by
 obtain⟨a,g,i,j,k⟩:=h;refine⟨a,g,i,j,k.chg d λb' o m n p=>?_⟩;rw[List.mem_singleton.1 p] at m;exact k.ne m n f rfl rfl
theorem LfA.drop{w:World}{g o cap:Nat}{l:List Int}(a:l.length≤cap)(h:Sx w (some 3) fI (some ⟨g,o,none⟩) l)(k:Nat)(b:k≤l.length):LfA w (.slice (some ⟨g,slo o cap k 1,none⟩) (l.length-k) (cap-k)) (l.drop k):=by
 refine⟨_,_,by rw[List.length_drop],by rw[List.length_drop];omega,?_⟩;have c:l.drop k=(l.drop k).take (l.length-k):=(List.take_of_length_le (by rw[List.length_drop];exact rH _)).symm;rw[c];refine h.sub (m:=1) R7 k _ _ ?_;unfold slo;split
 ·left;omega
 ·right;right;rfl
def PnA(w:World)(c:Cel)(w':World):Prop:=Chg [] w w'∧w'.heap[w.heap.size]?=some (.cells c.cells.toArray 60)∧w'.heap[w.heap.size+2]?=some (.cells #[.int .i32 0,.int .u8 0,.int .u8 0,.int .u8 0] 60)
theorem PnA.chg0{w w' w2:World}{c:Cel}(h:PnA w c w')(a:Chg [] w' w2):PnA w c w2:=⟨h.1.trans0 a,a.keep h.2.1 Z,a.keep h.2.2 Z⟩
theorem PnA.set{w w':World}{c:Cel}(h:PnA w c w')(c':Cel):PnA w c' (Ab w' w.heap.size (.cells c'.cells.toArray 60)):=by
 have a:=Aa h.2.1;refine⟨h.1.set _ _ (.inr (rH _)),Aw _ _ _ _ rfl a,?_⟩;rw[A5 _ _ _ _ O];exact h.2.2
set_option maxHeartbeats 1000000 in
theorem gA(w:World)(c:Cel)(a:Act')(hf:a.fits):Calls prog 65 #[c.val,a.val] w (Ac λv w'=>v=(D2 c a).val∧Chg [] w w'):=by
 apply jf;intro K hK;unfold Oe;refine sn ?_;have hz:(w.alloc (.cells #[.int .i32 c.r,.int .u8 c.fg.toNat,.int .u8 c.bg.toNat,.int .u8 c.a.toNat] 60)).heap.size=w.heap.size+1:=by exact so
 have hz2:((w.alloc (.cells #[.int .i32 c.r,.int .u8 c.fg.toNat,.int .u8 c.bg.toNat,.int .u8 c.a.toNat] 60)).alloc (.cells a.cells.toArray 89)).heap.size=w.heap.size+2:=by exact so
 simp only[Act'.cells] at hz2;rw[hz2,hz];obtain⟨w1,hw1⟩:∃w1,w1=(((w.alloc (.cells c.cells.toArray 60)).alloc (.cells a.cells.toArray 89)).alloc (.cells #[.int .i32 0,.int .u8 0,.int .u8 0,.int .u8 0] 60)):=⟨_,rfl⟩;have hc1:Chg [] w w1:=by rw[hw1];exact Fo _ _ _ _
 have hp1:w1.heap[w.heap.size]?=some (.cells c.cells.toArray 60):=by rw[hw1];exact so
 have ha1:w1.heap[w.heap.size+1]?=some (.cells a.cells.toArray 89):=by rw[hw1];exact so
 have ho1:w1.heap[w.heap.size+2]?=some (.cells #[.int .i32 0,.int .u8 0,.int .u8 0,.int .u8 0] 60):=by rw[hw1];exact so
 have hl1:=Aa ho1;simp only[Act'.cells,Cel.cells] at hw1;rw[←hw1];clear hw1 hz hz2;have ha0:=Aa ha1;refine sh (λv w'=>v=.bool (decide (a.kind≠4∨a.r≠109∨a.priv≠0∨a.mid≠0))∧w1=w') ?_ ?_
 ·refine sq ha1 ?_;refine sd (λg1=>?_) (λg1=>?_)
  ·exact⟨su (.inl g1),rfl⟩
  refine sq ha1 ?_;refine sd (λg2=>?_) (λg2=>?_)
  ·exact⟨su (.inr (.inl g2)),rfl⟩
  refine sq ha1 ?_;refine sd (λg3=>?_) (λg3=>?_)
  ·exact⟨su (.inr (.inr (.inl g3))),rfl⟩
  refine sq ha1 ?_;refine sw ⟨λh=>.inr (.inr (.inr h)),λh=>?_⟩;rcases h with h|h|h|h
  ·exact absurd h g1
  ·exact absurd h g2
  ·exact absurd h g3
  ·exact h
 rintro v w2 ⟨rfl,rfl⟩;unfold D2 at hK;refine sd (λd1=>?_) (λd1=>?_)
 ·rw[rG d1] at hK;refine sr hp1 ho1 ?_;exact hK _ _ ⟨rfl,hc1.set _ _ (.inr O)⟩
 rw[rF d1] at hK;obtain⟨R,hR⟩:∃R,R=Cn 9 a.left c:=⟨_,rfl⟩;rw[←hR] at hK;have fin:∀w3,PnA w R w3→xL 60 (.pointer (some ⟨w.heap.size,0,none⟩)) (λt128=>xS 60 (.pointer (some ⟨w.heap.size+2,0,none⟩)) t128 (xD 60 (.pointer (some ⟨w.heap.size+2,0,none⟩)) λt4_3=>K t4_3)) w3:=by
  rintro w3 ⟨e1,e2,e3⟩;have hl3:=Aa e3;refine sr e2 e3 ?_;exact hK _ _ ⟨rfl,e1.set _ _ (.inr O)⟩
 obtain⟨n,hn⟩:∃n,n=(min (max a.n 0) 8).toNat:=⟨_,rfl⟩;have hn8:n≤8:=O;have h8:a.nums.length=8:=rfl;have hleft:a.left=if a.nums.take n=[] then[0] else a.nums.take n:=by unfold Act'.left;rw[←hn]
 refine Loop2.st (λq:Nat × Value=>q.2) (λq=>.int .i64 (q.1:Int)) (λq w'=>q.1≤n∧Ox w.heap.size w' 3 1 fI q.2 (a.nums.take q.1)∧PnA w c w'∧w'.heap[w.heap.size+1]?=some (.cells a.cells.toArray 89)) (λq=>n-q.1) (0,.slice none 0 0) rfl rfl ⟨Nat.zero_le _,Ox.nil _ _ _ _ _,⟨hc1,hp1,ho1⟩,ha1⟩ ?_;rintro next ⟨k,u⟩ w2 hnx ⟨hk,ho,hI,ha2⟩
 dsimp only at hk ho hI ha2 ⊢;refine sh (λv w'=>v=.bool (decide (k<n))∧w'=w2) ?_ ?_
 ·refine sq ha2 ?_;refine sd (λg=>?_) (λg=>⟨sv O,rfl⟩);refine sn ?_;exact sw ⟨λh=>O,λh=>O⟩
 rintro v w3 ⟨rfl,rfl⟩;refine sd (λg=>?_) (λg=>?_)
 ·have hi8:k<a.nums.length:=O;have hcell:=CX (JM ha2) (i:=k) (rI hi8);have htk:=Cd hi8;generalize a.nums[k]=x at *;have e1:(k:Int)+1=((k+1:Nat):Int):=O;have hz:=hI.1.size;refine sq hcell ?_;refine Bd (l2:=[x]) LH R7 Zi (ho.chg0 (Ar _ _)) (Sx.built (c:=fI x) (by refine sn ?_;rfl) Z) rfl (by simp;omega) O (by refine sn ?_;omega) ?_;intro v' w4 ho4 hc4 _;have hca:Chg u.ownBlock.toList w3 w4:=((sg _ w3).alloc _).trans hc4 (λx hx=>.inl hx);have kp:∀{z:Nat} {cs:Array Value} {e:TypeId},Nat.beq e 3=false→w3.heap[z]?=some (.cells cs e)→w4.heap[z]?=some (.cells cs e):=λ{z cs e} hne hz=>hca.keep hz λhm=>by
   rcases ho.2 with ⟨e0,-⟩|⟨g,cap,cur,e0,-,hg,-⟩
   ·rw[e0] at hm;simp [Value.ownBlock] at hm
   ·rw[e0] at hm;simp only[Value.ownBlock,Option.toList_some,List.mem_singleton] at hm;subst hm;rw[hz] at hg;simp only[Option.some.injEq,Obj.cells.injEq] at hg;rw[hg.2.1] at hne;exact absurd hne rC
  refine sq e1 ?_;refine hnx (k+1,v') _ ⟨by dsimp only;omega,by dsimp only;rw[htk];exact ho4,⟨Ff ho (rH _) hI.1 hca,kp rfl hI.2.1,kp rfl hI.2.2⟩,kp rfl ha2⟩ (by dsimp only;omega)
 obtain rfl:k=n:=O;obtain⟨ad,cap,rfl,hcap,hsx,-,-⟩:=ho.form;refine sn ?_;refine sd (λg2=>?_) (λg2=>?_)
 ·have h0:a.nums.take k=[]:=rQ O;rw[h0,rG rfl] at hleft;have hp:=hI.2.1;refine sq hp ?_;refine td Mp rfl (OT w3 c 0 (by unfold Bn;omega)) ?_;rintro v w4 ⟨rfl,hc4⟩;have hI4:=hI.chg0 hc4;have ho4:=hI4.2.2;have hl4:=Aa ho4;have eR:R=B8 c 0:=by rw[hR,hleft];rfl
  refine sq ho4 ?_;rw[←eR];exact hK _ _ ⟨rfl,hI4.1.set _ _ (.inr O)⟩
 have hne:a.nums.take k≠[]:=λe=>g2 (by rw[e];rfl);rw[rF hne] at hleft;rw[hleft] at hR;have hi64:∀x∈a.nums.take k,Bn x:=λx hx=>hf.nums x (List.mem_of_mem_take hx);have hlen9:(a.nums.take k).length≤9:=by rw[List.length_take];omega
 generalize a.nums.take k=l0 at *;refine Loop1.st (λq:Value × List Int × Cel=>q.1) (λq w'=>LfA w' q.1 q.2.1∧PnA w q.2.2 w'∧(∀x∈q.2.1,Bn x)∧∃k,q.2.1.length≤k∧Cn k q.2.1 q.2.2=R) (λq=>q.2.1.length) (.slice ad l0.length cap,l0,c) rfl ⟨⟨ad,cap,rfl,hcap,hsx⟩,hI,hi64,9,hlen9,hR.symm⟩ ?_;clear hsx hI hp1 ha1 ho1 hl1 hc1 ha2 ho hleft hi64 hlen9 hR hne g2 g hk;rintro next ⟨v,l,c2⟩ w4 hnx ⟨hL,hI,hi,j,hj,hR⟩
 dsimp only at hL hI hi hj hR ⊢;obtain⟨ad2,cap2,rfl,hcap2,hsx⟩:=hL;refine sn ?_;refine sd (λg=>?_) (λg=>?_)
 rotate_left
 ·have:l=[]:=rQ O;subst this;rw[PN] at hR;subst hR;exact fin _ hI
 rcases l with _|⟨n,l⟩
 ·simp at g
 obtain⟨j,rfl⟩:∃j',j=j'+1:=⟨j-1,by simp at hj;omega⟩;obtain⟨b,o,-,-,-,-,-,rfl,-⟩:=hsx.at_ Z;have hcl:∀(w':World),Chg [] w4 w'→∀i,i<(n::l).length→As w'.heap[b]? (o+i)=some (.int .i64 ((n::l).getD i 0)):=λw' hc i hi=>by
  have:=CX (hsx.chg0 hc).untag (i:=i) (rI hi);rw[this,rN,rI hi];rfl
 have hc0:=hcl w4 (sg _ _) 0 Z;rw[Nat.add_zero,show(n::l).getD 0 0=n from rfl] at hc0;simp only[List.length_cons] at hcap2 hj;refine sh (λv' w'=>∃l2 c3,LfA w' v' l2∧PnA w c3 w'∧(∀x∈l2,Bn x)∧(∃k,l2.length≤k∧Cn k l2 c3=R)∧l2.length<(n::l).length) ?_ ?_
 rotate_left
 ·rintro v' w5 ⟨l2,c3,e1,e2,e3,e4,e5⟩;exact hnx (v',l2,c3) _ ⟨e1,e2,e3,e4⟩ e5
 refine sq hc0 ?_;refine sh (λv w'=>v=.bool (decide (n≠38∧n≠48))∧w'=w4) ?_ ?_
 ·refine sn ?_;refine sd (λg=>?_) (λg=>⟨sv (λh=>g h.1),rfl⟩);refine sn ?_;exact sw ⟨λh=>⟨g,h⟩,λh=>h.2⟩
 rintro v w5 ⟨rfl,rfl⟩;unfold Cn at hR;have hp:=hI.2.1;refine sd (λd3=>?_) (λd3=>?_)
 ·rw[rF d3.1,rF d3.2] at hR;refine sq hp ?_;refine td Mp rfl (OT w5 c2 n (hi n Z)) ?_;rintro v w6 ⟨rfl,hc6⟩;have hI6:=hI.chg0 hc6;have hp6:=hI6.2.1;have hl6:=Aa hp6;have hd:=(LfA.drop (cap:=cap2) (by simpa using hcap2) (hsx.chg0 hc6) 1 Z).low ((sg [w.heap.size] w6).set w.heap.size (.cells (B8 c2 n).cells.toArray 60) (.inl Z)) hp6;refine sq hp6 ?_;exact⟨l,B8 c2 n,hd,hI6.set (B8 c2 n),λx hx=>hi x (List.mem_cons_of_mem _ hx),⟨j,O,hR⟩,Z⟩
 have hch:Cn j (AI l).2 (match (AI l).1 with|some x=>(if n=38 then { c2 with fg:=x } else { c2 with bg:=x })|none=>c2)=R:=by
  rw[←hR];by_cases h38:n=38
  ·rw[rG h38];cases (AI l).1<;>simp [h38]
  ·rw[rF h38,rG O];cases (AI l).1<;>simp [h38]
 clear hR;refine Join3.cut (λv0 v1 v2 w'=>LfA w' v0 (AI l).2∧v1=.int .u8 ((AI l).1.getD 0).toNat∧v2=.bool (AI l).1.isSome∧Chg [] w5 w') ?_ ?_
 ·refine sh (λv w'=>v=.bool (decide (3≤(n::l).length∧(n::l).getD 1 0=5))∧w'=w5) ?_ ?_
  ·refine sn ?_;refine sd (λg=>?_) (λg=>⟨sv (λh=>by have:=h.1;rw[List.length_cons] at this;omega),rfl⟩);have h1:=hcl w5 (sg _ _) 1 (by rw[List.length_cons];omega);refine sq h1 ?_;exact sw ⟨λh=>⟨O,h⟩,λh=>h.2⟩
  rintro v w6 ⟨rfl,rfl⟩;refine sd (λg5=>?_) (λg5=>?_)
  ·rcases l with _|⟨x,_|⟨y,l⟩⟩
   ·simp at g5
   ·simp at g5
   obtain rfl:x=5:=g5.2;rw[fE];have h2:As w6.heap[b]? (o+2)=some (.int .i64 y):=hcl w6 (sg _ _) 2 Z;refine Join2.cut (λv0 v1 w'=>v0=.int .u8 ((if 0≤y∧y≤255 then some (hue y) else none:Option (BitVec 8)).getD 0).toNat∧v1=.bool (if 0≤y∧y≤255 then some (hue y) else none:Option (BitVec 8)).isSome∧w'=w6) ?_ ?_
   ·refine sh (λv w'=>v=.bool (decide (0≤y∧y≤255))∧w'=w6) ?_ ?_
    ·refine sq h2 ?_;refine sd (λg=>?_) (λg=>⟨sv (λh=>g h.1),rfl⟩);refine sq h2 ?_;exact sw ⟨λh=>⟨g,h⟩,λh=>h.2⟩
    rintro v w7 ⟨rfl,rfl⟩;refine sd (λg=>?_) (λg=>?_)
    ·refine sq h2 ?_;refine td EI rfl (EH w7 y) ?_;rintro v w8 ⟨rfl,rfl⟩;rw[FZ g.1,rG g];exact⟨rfl,rfl,rfl⟩
    ·rw[rF g];exact⟨rfl,rfl,rfl⟩
   rintro v0 v1 w7 ⟨rfl,rfl,rfl⟩;refine sn ?_;exact⟨LfA.drop (cap:=cap2) (l:=n::5::y::l) (by simpa using hcap2) hsx 3 Z,sg _ _⟩
  refine sh (λv w'=>v=.bool (decide (5≤(n::l).length∧(n::l).getD 1 0=2))∧w'=w6) ?_ ?_
  ·refine sn ?_;refine sd (λg=>?_) (λg=>⟨sv (λh=>by have:=h.1;rw[List.length_cons] at this;omega),rfl⟩);have h1:=hcl w6 (sg _ _) 1 (by rw[List.length_cons];omega);refine sq h1 ?_;exact sw ⟨λh=>⟨O,h⟩,λh=>h.2⟩
  rintro v w7 ⟨rfl,rfl⟩;refine sd (λg2=>?_) (λg2=>?_)
  ·rcases l with _|⟨x,_|⟨r,_|⟨gr,_|⟨bl,l⟩⟩⟩⟩
   ·simp at g2
   ·simp at g2
   ·simp at g2
   ·simp at g2
   obtain rfl:x=2:=g2.2;rw[eD];have hcd:Chg [] w7 w7.drew:=(sg _ _).drew;have h2:As w7.drew.heap[b]? (o+2)=some (.int .i64 r):=hcl _ hcd 2 Z;have h3:As w7.drew.heap[b]? (o+3)=some (.int .i64 gr):=hcl _ hcd 3 Z;have h4:As w7.drew.heap[b]? (o+4)=some (.int .i64 bl):=hcl _ hcd 4 Z;have hsx8:=hsx.chg0 hcd;show _;refine(show ∀M:World→Prop,M w7.drew→Ag M w7 from λ_ h=>h) _ ?_;generalize w7.drew=w8 at *;refine LX3 h2 h3 h4 ?_;refine td VN rfl (UC w8 r gr bl) ?_;rintro v w9 ⟨rfl,rfl⟩;refine sn ?_;exact⟨LfA.drop (cap:=cap2) (l:=n::2::r::gr::bl::l) (by simpa using hcap2) hsx8 5 Z,hcd⟩
  ·rw[cY (λh=>g5 ⟨by rw[List.length_cons];omega,h.2⟩) (λh=>g2 ⟨by rw[List.length_cons];omega,h.2⟩)];exact⟨⟨none,0,rfl,rH _,Sx.nil ..⟩,rfl,rfl,sg _ _⟩
 ·rintro v0 v1 v2 w6 ⟨hL6,rfl,rfl,hc6⟩;have hI6:=hI.chg0 hc6;have hlen:=Ro l;have hi6:∀x∈(AI l).2,Bn x:=λx hx=>hi x (List.mem_cons_of_mem _ (P6 hx));have hlt:(AI l).2.length<(n::l).length:=by rw[List.length_cons];omega
  have hlk:(AI l).2.length≤j:=O;generalize (AI l).2=l2 at *;have hp6:=hI6.2.1;have hl6:=Aa hp6;rcases hq:(AI l).1 with _|x
  ·rw[hq] at hch;refine si (λw'=>w'=w6) ?_ ?_
   ·refine sh (λv w'=>v=.bool false∧w'=w6) ?_ ?_
    ·exact so
    rintro v w7 ⟨rfl,rfl⟩;exact so
   rintro w7 rfl;refine sh (λv w'=>v=.bool false∧w'=w7) ?_ ?_
   ·exact so
   rintro v w8 ⟨rfl,rfl⟩;refine sn ?_;exact⟨l2,c2,hL6,hI6,hi6,⟨j,hlk,hch⟩,hlt⟩
  ·rw[hq] at hch;dsimp only at hch;have put:∀c3:Cel,PnA w c3 (Ab w6 w.heap.size (.cells c3.cells.toArray 60))∧LfA (Ab w6 w.heap.size (.cells c3.cells.toArray 60)) v0 l2:=λc3=>⟨hI6.set c3,hL6.low ((sg [w.heap.size] w6).set _ _ (.inl Z)) hp6⟩;by_cases h38:n=38
   ·rw[rG h38] at hch;refine si (λw'=>PnA w { c2 with fg:=x } w'∧LfA w' v0 l2) ?_ ?_
    ·refine sh (λv w'=>v=.bool true∧w'=w6) ?_ ?_
     ·refine sn ?_;exact congrArg Value.bool (decide_eq_true h38)
     rintro v w7 ⟨rfl,rfl⟩;refine sq hp6 ?_;exact put ⟨c2.r,x,c2.bg,c2.a⟩
    rintro w7 ⟨e1,e2⟩;refine sh (λv w'=>v=.bool false∧w'=w7) ?_ ?_
    ·refine sn ?_;exact congrArg Value.bool (decide_eq_false O)
    rintro v w8 ⟨rfl,rfl⟩;refine sn ?_;exact⟨l2,_,e2,e1,hi6,⟨j,hlk,hch⟩,hlt⟩
   ·rw[rF h38] at hch;refine si (λw'=>w'=w6) ?_ ?_
    ·refine sh (λv w'=>v=.bool false∧w'=w6) ?_ ?_
     ·refine sn ?_;exact congrArg Value.bool (decide_eq_false h38)
     rintro v w7 ⟨rfl,rfl⟩;exact so
    rintro w7 rfl;refine sh (λv w'=>v=.bool true∧w'=w7) ?_ ?_
    ·refine sn ?_;exact congrArg Value.bool (decide_eq_true O)
    rintro v w8 ⟨rfl,rfl⟩;refine sq hp6 ?_;obtain⟨e1,e2⟩:=put ⟨c2.r,c2.fg,x,c2.a⟩;exact⟨l2,_,e2,e1,hi6,⟨j,hlk,hch⟩,hlt⟩
theorem Scm.dwTabs(M:Scm)(x y:Int)(h:M.S.tabs.length=200):Ao (some (M.dobj x y)) 27 (List.replicate 200 (.bool false))=some (({ M with S:={ M.S with tabs:=List.replicate 200 false } }:Scm).dobj x y):=by
 refine Scm.dput _ _ _ 27 _ h (by rw[List.length_replicate];omega) ?_;have a:M.dcells x y=(M.dcells x y).take 27++(M.S.tabs.map Value.bool++[.bool M.S.wraps,.bool M.S.waits,.bool M.S.shown,M.gv]):=rfl;have b:(M.dcells x y).drop (27+(List.replicate 200 (Value.bool false)).length)=[.bool M.S.wraps,.bool M.S.waits,.bool M.S.shown,M.gv]:=by
  rw[List.length_replicate,a,←rJ];exact List.drop_left' (by rw[rS,List.length_map,h];rfl)
 rw[b];unfold Scm.dcells Scm.dend;dsimp only;rw[List.map_replicate];rfl
section
attribute [-go_sem] E0 Et
set_option maxHeartbeats 2000000 in
theorem Ym{w:World}{s:Nat}{M:Scm}(h:DAt w s M)(ok:M.S.ok){e:Option TypeId}{ad:Option Addr}{l:List Act'}(hs:Sx w e Act'.cells ad l)(hfar:∀b o,ad=some ⟨b,o,none⟩→l≠[]→b∉s::M.dblk)(cap:Nat)(hl:l.length≤1000000)(hf:∀a∈l,a.fits∧∀x∈a.nums,0≤x∧x≤9999):Calls prog 26 #[.pointer (some ⟨s,0,none⟩),.slice ad l.length cap] w
  (Ac λ_ w'=>DDo w s M w' (M.S.acts l)):=by
 apply VL;intro K hK;unfold P4;refine Loop1.st (λi:Nat=>.int .i64 (i:Int)) (λi w'=>i≤l.length∧DDo w s M w' (M.S.acts (l.take i))) (λi=>l.length-i) 0 rfl ⟨O,DDx.of h (sg _ _) rfl⟩ ?_;rintro next i w2 hnx ⟨hi,hd⟩
 refine sn ?_;refine sd (λd2=>?_) (λd2=>?_)
 rotate_left
 ·have:i=l.length:=O;subst this;rw[List.take_length] at hd;exact hK _ _ hd
 have hi8:i<l.length:=O;have hne:l≠[]:=by rintro rfl;simp at hi8
 obtain⟨M2,hA2,hS2,hc2,hbl2⟩:=hd;rw[←hS2] at hA2;have ok2:M2.S.ok:=by rw[hS2];exact ok.acts.ok
 obtain⟨b,o,rfl,hlb,hag⟩:=(hs.chg hc2 hfar).get (m:=13) Act'.len (rI hi8);obtain⟨hfa,hna⟩:=hf _ (rR hi8);have e2:M.S.acts (l.take (i+1))=M2.S.act l[i]:=by rw[Cd hi8,hS2];unfold Scr.acts;rw[List.foldl_append];rfl
 obtain⟨a,ha⟩:∃a,a=l[i]:=⟨_,rfl⟩;rw[←ha] at hag hfa hna e2;have e1:(i:Int)+1=((i+1:Nat):Int):=O;refine si (λw'=>DDo w2 s M2 w' (M2.S.act a)) ?_ ?_
 rotate_left
 ·intro w3 hd3;refine sq e1 ?_;refine hnx (i+1) _ ⟨O,?_⟩ O;rw[e2];exact DDx.trans hc2 hbl2 hd3
 clear hnx;refine sq hag ?_;obtain⟨w3,hw3⟩:∃w3,w3=w2.alloc (.cells a.cells.toArray 89):=⟨_,rfl⟩;have hc3:Chg [] w2 w3:=by rw[hw3];exact Ar _ _
 have ha3:w3.heap[w2.heap.size]?=some (.cells a.cells.toArray 89):=by rw[hw3];exact so
 simp only[Act'.cells] at hw3;rw[←hw3];clear hw3;have hA3:=hA2.chg0 hc3;have base:∀{w':World} {T:Scr},DDo w3 s M2 w' T→DDo w2 s M2 w' T:=λ{w' T} hd=>DDx.trans (M1:=M2) (hc3.mono Z) (by exact .rf rfl rfl rfl) hd;obtain⟨C,hC⟩:∃C,C=M2.S.act a:=⟨_,rfl⟩;rw[←hC];clear e2 ha hag;unfold Scr.act at hC;refine sh (λv w'=>v=.bool (decide (a.priv=0∧a.mid=0))∧w'=w3) ?_ ?_
 ·refine sq ha3 ?_;refine sd (λg=>?_) (λg=>⟨sv (λh=>g h.1),rfl⟩);refine sq ha3 ?_;exact sw ⟨λh=>⟨g,h⟩,λh=>h.2⟩
 rintro v w4 ⟨rfl,rfl⟩;refine sq ha3 ?_;refine sd (λc1=>?_) (λc1=>?_)
 ·rw[rG c1] at hC;refine sq ha3 ?_;refine td cn rfl (cO hA3 ok2 hfa.r0 hfa.r1) ?_;rintro v w5 hd;rw[hC];exact base hd
 rw[rF c1] at hC;refine sn ?_;refine sd (λc2=>?_) (λc2=>?_)
 ·rw[rG c2] at hC;refine sq ha3 ?_;refine td dB rfl (eQ hA3 ok2 a.r) ?_;rintro v w5 hd;rw[hC];exact base hd
 rw[rF c2] at hC;refine sn ?_;refine sd (λc3=>?_) (λc3=>?_)
 ·rw[rG c3] at hC;refine sq ha3 ?_;refine sd (λc4=>?_) (λc4=>?_)
  ·rw[rG c4] at hC;refine sq ha3 ?_;refine td dz rfl (Yl hA3 ok2 a.r) ?_;rintro v w5 hd;rw[hC];exact base hd
  ·rw[rF c4] at hC;rw[hC];exact base (DDx.of hA3 (sg _ _) rfl)
 rw[rF c3] at hC;refine sn ?_;refine sd (λc4=>?_) (λc4=>?_)
 rotate_left
 ·rw[rF c4] at hC;rw[hC];exact base (DDx.of hA3 (sg _ _) rfl)
 rw[rG c4] at hC;refine sq ha3 ?_;refine td Fb rfl (EF w4 a 0 0 O) ?_;rintro v w5 ⟨rfl,hc5⟩;have ha5:=hc5.keep ha3 Z;have hA5:=hA3.chg0 hc5;have base5:∀{w':World} {T:Scr},DDo w5 s M2 w' T→DDo w2 s M2 w' T:=λ{w' T} hd=>base (DDx.trans (M1:=M2) (hc5.mono Z) (by exact .rf rfl rfl rfl) hd);have hb5:=hA5.hb;have hl5:=Aa hb5;have tl:=hA5.tl;have hw1:=ok2.w1;have hnx:=ok2.nx;unfold Scr.csi at hC;by_cases hp:a.priv=0∧a.mid=0
 ·rw[rF (λh=>O),rF (λh=>O)] at hC;rw[decide_eq_true hp];unfold Scr.set at hC;refine Join1.inl ?_;refine sq ha5 ?_;refine sd (λd1=>?_) (λd1=>?_)
  ·rw[rG d1] at hC;refine sr ha5 hb5 ?_;refine td jN rfl (gA w5.drew M2.S.now.pen a hfa) ?_;rintro v w6 ⟨rfl,hc6⟩;have hc56:=(sg [] w5).drew.trans0 hc6;have hA6:=hA5.chg0 hc56;have hb6:=hA6.hb;have hl6:=Aa hb6;refine sq hb6 ?_;rw[hC];exact base5 (DDx.num (hc56.mono Z) (by exact .rf rfl rfl rfl) hA6 { M2.S with now:={ M2.S.now with pen:=D2 M2.S.now.pen a } } _ _ rfl rfl tl)
  rw[rF d1] at hC;refine Join1.inl ?_;refine sq ha5 ?_;refine sd (λd2=>?_) (λd2=>?_)
  ·rw[rF (show ¬a.r=103 by omega),rG d2] at hC;refine sn ?_;refine td Jn rfl (JU hA5) ?_;rintro v w6 hd;rw[hC];exact base5 hd
  refine Join1.inl ?_;refine sq ha5 ?_;refine sd (λd3=>?_) (λd3=>?_)
  ·rw[rG d3] at hC;dsimp only at hC;refine si (λw'=>DDo w5 s M2 w' (if a.num 0 0=0 then { M2.S with tabs:=M2.S.tabs.set M2.S.now.x false } else M2.S)) ?_ ?_
   ·refine sn ?_;refine sd (λd4=>?_) (λd4=>?_)
    ·refine sq hb5 ?_;rw[rG d4];exact DDx.num (sg _ _).drew (by exact .rf rfl rfl rfl) (hA5.chg0 (sg _ _).drew) { M2.S with tabs:=M2.S.tabs.set M2.S.now.x false } _ _ rfl rfl (by rw[List.length_set];exact tl)
    ·rw[rF d4];exact DDx.of hA5 (sg _ _) rfl
   rintro w6 hd6;refine sn ?_;refine sd (λd4=>?_) (λd4=>?_)
   ·rw[rF O] at hd6;rw[rF O,rG d4] at hC;obtain⟨M6,hA6,hS6,hc6,hbl6⟩:=hd6;have hb6:=hA6.hb;have hl6:=Aa hb6;have tl6:=hA6.tl;refine OpX.build (c:=(List.replicate 200 (.bool false)).toArray) (by kernel_rfl) ?_;obtain⟨z,hz⟩:∃z,z=(List.replicate 200 (Value.bool false)).toArray:=⟨_,rfl⟩;rw[←hz];refine sn ?_;rw[D5 _ _ _ _ _ _ _ (by rw[hz];kernel_rfl) (by rw[hz];kernel_rfl)];have hp:Ao w6.heap[s]? 27 (Value.agg z).cells.toList=some (({ M6 with S:={ M6.S with tabs:=List.replicate 200 false } }:Scm).dobj M2.S.now.x M2.S.now.y):=by
     rw[hz,hb6];exact M6.dwTabs _ _ tl6
    rw[hp,D6,hC];have:=DDx.num hc6 hbl6 hA6 { M6.S with tabs:=List.replicate 200 false } M2.S.now.x M2.S.now.y rfl rfl (by rw[List.length_replicate]);rw[hS6] at this ⊢;exact base5 this
   ·rw[rF d4] at hC;rw[hC];exact base5 hd6
  rw[rF d3,rF d2] at hC;refine sq ha5 ?_;refine td cq rfl (Vm hA5 ok2 a hna) ?_;rintro v w6 hd;rw[hC];exact base5 hd
 rw[decide_eq_false hp];refine Join1.inl ?_;refine sn ?_;refine Join1.inl ?_;refine sn ?_;refine Join1.inl ?_;refine sn ?_;refine sh (λv w'=>v=.bool (decide (a.priv=63∧a.mid=0∧(a.r=104∨a.r=108)))∧w'=w5) ?_ ?_
 ·refine sq ha5 ?_;refine sd (λg1=>?_) (λg1=>⟨sv (λh=>g1 h.1),rfl⟩);refine sq ha5 ?_;refine sd (λg2=>?_) (λg2=>⟨sv (λh=>g2 h.2.1),rfl⟩);refine sq ha5 ?_;refine sd (λg3=>⟨su ⟨g1,g2,.inl g3⟩,rfl⟩) (λg3=>?_);refine sq ha5 ?_;exact sw ⟨λh=>⟨g1,g2,.inr h⟩,λh=>h.2.2.resolve_left g3⟩
 rintro v w6 ⟨rfl,rfl⟩;refine sd (λd1=>?_) (λd1=>?_)
 rotate_left
 ·rw[rF d1,rG O] at hC;rw[hC];exact base5 (DDx.of hA5 (sg _ _) rfl)
 rw[rG d1] at hC;obtain⟨n,hn⟩:∃n,n=(min (max a.n 0) 8).toNat:=⟨_,rfl⟩;have hn8:n≤8:=O;have h8:a.nums.length=8:=rfl;rw[←hn] at hC;have hoa:w2.heap.size∉s::M2.dblk:=λhm=>by have:=hA2.lt _ hm;omega
 have hla:=Aa ha5;refine Loop1.st (λi:Nat=>.int .i64 (i:Int)) (λi w'=>i≤n∧DDo w6 s M2 w' (M2.S.modes (a.nums.take i) (decide (a.r=104)))) (λi=>n-i) 0 rfl ⟨O,DDx.of hA5 (sg _ _) rfl⟩ ?_;rintro next i w7 hnx ⟨hi,hd⟩
 obtain⟨M7,hA7,hS7,hc7,hbl7⟩:=hd;have ha7:=hc7.keep ha5 hoa;refine sh (λv w'=>v=.bool (decide (i<n))∧w'=w7) ?_ ?_
 ·refine sq ha7 ?_;refine sd (λg=>?_) (λg=>⟨sv O,rfl⟩);refine sn ?_;exact sw ⟨λh=>O,λh=>O⟩
 rintro v w8 ⟨rfl,rfl⟩;refine sd (λg=>?_) (λg=>?_)
 rotate_left
 ·obtain rfl:i=n:=O;rw[hC];exact base5 ⟨M7,hA7,hS7,hc7,hbl7⟩
 have hi9:i<a.nums.length:=O;have hcell:=CX (JM ((sg [] w8).drew.keep ha7 Z)) (i:=i) (rI hi9);have ha8:=(sg [] w8).drew.keep ha7 Z;rw[←hS7] at hA7;have hA8:=hA7.chg0 (sg [] w8).drew;have ok7:M7.S.ok:=by rw[hS7];exact ok2.modes.ok
 have hcd:Chg (s::M2.dblk) w6 w8.drew:=hc7.drew;refine(show ∀X:World→Prop,X w8.drew→Ag X w8 from λ_ h=>h) _ ?_;have hz7:=hc7.size;generalize w8.drew=w9 at *;refine sq hcell ?_;refine sq ha8 ?_;refine td UD rfl (iW hA8 ok7 (a.nums[i]) (decide (a.r=104))) ?_;rintro v w10 hd3;have e1:(i:Int)+1=((i+1:Nat):Int):=O;refine sq e1 ?_;refine hnx (i+1) _ ⟨O,?_⟩ O;rw[Cd hi9,Nb,←hS7];exact DDx.trans hcd hbl7 hd3
end
structure DhA (w:World) (h room:Nat) (v:Value) (l:List Rw):Prop where
 hb:w.heap[h]?=some (.cells #[.int .i64 room,v] 146)
 own:Oy w 48 Rw.f v l
 few:l.length≤room
 rm:room≤500
section
variable {w w':World} {h room:Nat} {v:Value} {l:List Rw}
theorem DhA.noc(d:DhA w h room v l):NoC w (h::v.ownBlock.toList):=by
 intro b a c e f;rcases rM.1 a with rfl|a
 ·have:=d.hb;rw[f] at this;simp at this
 ·exact d.own.off f rfl a
theorem DhA.h_own(d:DhA w h room v l):h∉v.ownBlock.toList:=λhm=>d.own.off d.hb rfl hm
theorem DhA.lt(d:DhA w h room v l):∀b∈h::v.ownBlock.toList,b<w.heap.size:=by
 intro b a;rcases rM.1 a with rfl|a
 ·exact Aa d.hb
 ·exact d.own.lt b a
theorem DhA.chg{F:List Nat}(d:DhA w h room v l)(a:Chg F w w')(c:∀b∈h::v.ownBlock.toList,b∉F):DhA w' h room v l:=
 ⟨a.keep d.hb (c h Z),d.own.chg a λb e=>c b (List.mem_cons_of_mem _ e),d.few,d.rm⟩
theorem DhA.chg0(d:DhA w h room v l)(a:Chg [] w w'):DhA w' h room v l:=d.chg a Z
theorem ET.low{F:List Nat}{r:Rw}(a:ET w r)(b:NoC w F)(c:Chg F w w'):ET w' r:=⟨b.sx a.1 c,a.2⟩
theorem fq(w:World)(room:Nat)(a:room≤500):Calls prog 25 #[.int .i64 room] w (Ac λv w'=>v=.pointer (some ⟨w.heap.size,0,none⟩)∧DhA w' w.heap.size room (.slice none 0 0) []∧Chg [] w w'):=by
 have b:Calls prog 60 #[.int .i64 room,.int .i64 500] w (Ac λv w'=>v=.int .i64 room∧w'=w):=by
  apply ZL;intro K c;unfold ME;refine sn ?_;refine sd (λg=>absurd g O) (λ_=>?_);refine sn ?_;exact sd (λg=>absurd g O) (λ_=>c _ _ ⟨rfl,rfl⟩)
 apply WG;intro K c;unfold PS;refine td V2 rfl (b) ?_;rintro v d ⟨rfl,rfl⟩;refine sn ?_;exact c _ _ ⟨rfl,⟨Lyc.heap_alloc_new _ _ _ rfl,Oy.nil _ _ _,Nat.zero_le _,a⟩,Ar _ _⟩
theorem gu(d:DhA w h room v l){e:Option TypeId}{ad:Option Addr}{rows:List Rw}(hs:Sx w e Rw.f ad rows)(cap:Nat)(hrl:rows.length≤500)(rok:∀r∈rows,ET w r)(hfar:∀b o,ad=some ⟨b,o,none⟩→rows≠[]→b∉h::v.ownBlock.toList):
  Calls prog 29 #[.pointer (some ⟨h,0,none⟩),.slice ad rows.length cap] w
  (Ac λ_ w'=>∃v' l',DhA w' h room v' l'∧Chg (h::v.ownBlock.toList) w w'∧∀b∈v'.ownBlock.toList,b∈v.ownBlock.toList∨w.heap.size≤b):=by
 have hnoc:=d.noc;have hlt:=d.lt;apply ZT;intro K hK;unfold OU;refine Loop1.st (λq:Nat × Value × List Rw=>.int .i64 (q.1:Int)) (λq w'=>q.1≤rows.length∧DhA w' h room q.2.1 q.2.2∧Chg (h::v.ownBlock.toList) w w'∧∀b∈q.2.1.ownBlock.toList,b∈v.ownBlock.toList∨w.heap.size≤b) (λq=>rows.length-q.1) (0,v,l) rfl ⟨Nat.zero_le _,d,sg _ _,λb hb=>.inl hb⟩ ?_;rintro next ⟨k,v2,l2⟩ w2 hnx ⟨hk,d2,hc2,hb2⟩
 dsimp only at hk d2 hb2 ⊢;refine sn ?_;refine sd (λg=>?_) (λg=>?_)
 rotate_left
 ·exact hK _ _ ⟨v2,l2,d2,hc2,hb2⟩
 have hk':k<rows.length:=O;have hd:=(sg [] w2).drew;obtain⟨b,o,rfl,hlb,hcell⟩:=((hs.chg hc2 hfar).chg0 hd).get1 (g:=λr:Rw=>.slice r.a r.cs.length r.cap) (λ_=>rfl) (rI hk');have hrow:=(rok _ (rR hk')).low hnoc hc2;generalize rows[k]=r at *;have d3:=d2.chg0 hd;have hrow3:=hrow.low (IN _) hd;have hc3:=hc2.drew;have e1:(k:Int)+1=((k+1:Nat):Int):=O;refine si (λw'=>∃v4 l4,DhA w' h room v4 l4∧Chg (h::v.ownBlock.toList) w w'∧∀b∈v4.ownBlock.toList,b∈v.ownBlock.toList∨w.heap.size≤b) ?_ ?_
 rotate_left
 ·rintro w4 ⟨v4,l4,f1,f2,f3⟩;refine sq e1 ?_;exact hnx (k+1,v4,l4) _ ⟨by dsimp only;omega,f1,f2,f3⟩ (by dsimp only;omega)
 clear hnx;refine(show ∀X:World→Prop,X w2.drew→Ag X w2 from λ_ h=>h) _ ?_;generalize w2.drew=w3 at *;have hb3:=d3.hb;refine sr hb3 hcell ?_;refine td Lr rfl (Ps hrow3.1 r.cap (by have:=hrow3.2.1;omega) hrow3.2.2) ?_;rintro u w4 ⟨ho,hc4⟩;obtain⟨ra,rc,rfl,hrl4,hsx4,-⟩:=ho.form;have d4:=d3.chg0 hc4;have hb4:=d4.hb;refine sq hb4 ?_;have hca:=Ar w4 (.cells #[.slice ra (Au r.cs).length rc] 48);have a5:(w4.alloc (.cells #[.slice ra (Au r.cs).length rc] 48)).heap[w4.heap.size]?=some (.cells #[.slice ra (Au r.cs).length rc] 48):=by exact so
 have d5:=d4.chg0 hca;have hc5:=(hc3.trans0 hc4).trans0 hca;generalize w4.alloc (.cells #[.slice ra (Au r.cs).length rc] 48)=w5 at *;have hb5:=d5.hb;have hfew:=d5.few;have hrm:=d5.rm;refine sq hb5 ?_;refine Pa Gp (λ_=>rfl) d5.own (b:=w4.heap.size) (o:=0) (y:=⟨ra,rc,Au r.cs⟩) rfl rfl (by exact LC1 a5) O O ?_;intro v6 w6 ho6 hc6 hv6;have hz5:=hc5.size;have hb6:=hc6.keep hb5 d5.h_own;have hl6:=Aa hb6;have hc06:Chg (h::v.ownBlock.toList) w w6:=hc5.trans hc6 λb hb=>(hb2 b hb).imp (λh'=>List.mem_cons_of_mem _ h') id;have hbl6:∀b∈v6.ownBlock.toList,b∈v.ownBlock.toList∨w.heap.size≤b:=by
  intro b hb;rcases hv6 with e|⟨g,e,hg⟩
  ·rw[e] at hb;exact hb2 b hb
  ·rw[e] at hb;simp at hb;exact .inr O
 have hnh:h∉v6.ownBlock.toList:=ho6.off hb6 rfl;obtain⟨a6,c6,rfl,hlc6,-⟩:=ho6.form;refine sq hb6 ?_;generalize hl7:l2++[(⟨ra,rc,Au r.cs⟩:Rw)]=l7 at *;have hn7:l7.length=l2.length+1:=by rw[←hl7];simp
 have re:∀(w7:World) (v8:Value) (l8:List Rw),Chg [h] w6 w7→w7.heap[h]?=some (.cells #[.int .i64 room,v8] 146)→Oy w6 48 Rw.f v8 l8→h∉v8.ownBlock.toList→l8.length≤room→DhA w7 h room v8 l8∧Chg (h::v.ownBlock.toList) w w7:=λw7 v8 l8 hc hb ho hn hl=>⟨⟨hb,ho.chg hc λb hb hm=>hn (by simp at hm;rw[←hm];exact hb),hl,hrm⟩,hc06.trans hc λx hx=>.inl (by simp at hx;simp [hx])⟩;have hc7:Chg [h] w6 (Ab w6 h (.cells #[.int .i64 room,.slice a6 l7.length c6] 146)).drew:=((sg _ _).set _ _ (.inl Z)).drew;have b7:(Ab w6 h (.cells #[.int .i64 room,.slice a6 l7.length c6] 146)).drew.heap[h]?=some (.cells #[.int .i64 room,.slice a6 l7.length c6] 146):=Aw _ _ _ _ rfl hl6;generalize (Ab w6 h (.cells #[.int .i64 room,.slice a6 l7.length c6] 146)).drew=w7 at *;have hl7h:=Aa b7;refine sd (λg=>?_) (λg=>?_)
 ·cases l7 with
  | nil=>simp at g;omega
  | cons r0 l8 =>
   obtain⟨g0,o0,cap0,e,hcap0⟩:=ho6.begun;cases e;have hdr:=ho6.drop (λ_=>rfl);refine sq b7 ?_;obtain⟨f1,f2⟩:=re (Ab w7 h (.cells #[.int .i64 room,.slice (some ⟨g0,slo o0 c6 1 1,none⟩) l8.length (c6-1)] 146)) _ l8 (hc7.set _ _ (.inl Z)) (Aw _ _ _ _ rfl hl7h) hdr (by simpa [Value.ownBlock] using hnh) (by simp at hn7;omega);exact⟨_,l8,f1,f2,hbl6⟩
 ·obtain⟨f1,f2⟩:=re w7 _ l7 hc7 b7 ho6 hnh O;exact⟨_,l7,f1,f2,hbl6⟩
end
end Go.Proofs.YtnpkidnbhlepkaaGreat
namespace Lyc
open Go
theorem Qm{a r b c n:Int}{l:List Int}(d:∀x∈l,0≤x∧x≤9999):∀x∈(BQ a r b c n l).nums,0≤x∧x≤9999:=by
 have g:∀i,0≤l.getD i 0∧l.getD i 0≤9999:=λi=>by
  rw[rN];cases h:l[i]? with
  | none=>simp
  | some x=>exact d x (List.mem_of_getElem? h)
 intro x e;simp only[Act'.nums,BQ,rM,List.not_mem_nil,or_false] at e;rcases e with rfl|rfl|rfl|rfl|rfl|rfl|rfl|rfl<;>exact g _
theorem Esc.step_nums{E:Esc}(h:E.ok)(r:Int):∀a∈(E.step r).2.toList,∀x∈a.nums,0≤x∧x≤9999:=by
 have z:∀b r c d n,∀x∈(BQ b r c d n C5).nums,0≤x∧x≤9999:=λ_ _ _ _ _=>Qm Il;have e:∀a∈(E.escape r).2.toList,∀x∈a.nums,0≤x∧x≤9999:=by
  unfold Esc.escape
  repeat' split
  all_goals first|(intro a f;cases f;done)|(intro a f;rw[Option.toList_some,List.mem_singleton] at f;rw[f];exact z _ _ _ _ _)
 have g:∀a∈(E.control r).2.toList,∀x∈a.nums,0≤x∧x≤9999:=by
  unfold Esc.control
  repeat' split
  all_goals first|(intro a f;cases f;done)|(intro a f;rw[Option.toList_some,List.mem_singleton] at f;rw[f];exact Qm h.k)
 unfold Esc.step
 repeat' split
 all_goals first|exact e|exact g|(intro a f;cases f;done)|(intro a f;rw[Option.toList_some,List.mem_singleton] at f;rw[f];exact z _ _ _ _ _)
theorem Esc.feed_nums{E:Esc}(h:E.ok):∀{l:List Int},(∀r∈l,Bf r)→∀a∈(E.feed l).2,∀x∈a.nums,0≤x∧x≤9999
 | [],_=>by simp [Esc.feed]
 | r::l,hl=>by
  unfold Esc.feed;intro a ha;rcases List.mem_append.1 ha with ha|ha
  ·exact Esc.step_nums h r a ha
  ·exact Esc.feed_nums (Esc.step_ok h (hl r Z)).1 (λr' hr=>hl r' (List.mem_cons_of_mem _ hr)) a ha
end Lyc
namespace Go.Proofs.YtnpkidnbhlepkaaGreat
open Lyc Go Go.Proofs.Tryz
structure Dt where
 d:Nat
 p:Nat
 s:Nat
 h:Nat
 kept:List UInt8
 P:Pd
 E:Esc
 M:Scm
 hv:Value
 hl:List Rw
def Dt.blk(t:Nat)(T:Dt):List Nat:=t::T.d::T.p::T.M.b0::T.M.b1::T.s::T.h::T.hv.ownBlock.toList
structure DtAt (w:World) (t room:Nat) (T:Dt):Prop where
 hb:w.heap[t]?=some (.cells #[.pointer (some ⟨T.d,0,none⟩),.pointer (some ⟨T.p,0,none⟩),.pointer (some ⟨T.s,0,none⟩),.pointer (some ⟨T.h,0,none⟩)] 57)
 hd:w.heap[T.d]?=some (Dl T.kept)
 hp:w.heap[T.p]?=some T.P.obj
 pe:PE T.P T.E
 eok:T.E.ok
 kl:T.kept.length≤4
 scr:DAt w T.s T.M
 sok:T.M.S.ok
 gv:T.M.gv=.slice none 0 0
 rw:T.M.rows=[]
 his:DhA w T.h room T.hv T.hl
section
variable {w w':World} {t room:Nat} {T:Dt}
theorem H6{g:Gr}(h:g.ok):g.cs≠[]:=λe=>by
 have a:=h.len;have b:=h.w0;have c:=h.h0;rw[e] at a;have:=Nat.mul_pos b c;simp at a;omega
theorem DtAt.lt(h:DtAt w t room T):∀b∈T.blk t,b<w.heap.size:=by
 intro b a;simp only[Dt.blk,rM] at a;rcases a with rfl|rfl|rfl|rfl|rfl|rfl|a
 ·exact Aa h.hb
 ·exact Aa h.hd
 ·exact Aa h.hp
 ·exact h.scr.h0.lt (H6 h.sok.g0.ok) rfl
 ·exact h.scr.h1.lt (H6 h.sok.g1.ok) rfl
 ·exact Aa h.scr.hb
 ·exact h.his.lt b (by simpa using a)
theorem DtAt.chg{F:List Nat}(h:DtAt w t room T)(a:Chg F w w')(c:∀b∈T.blk t,b∉F):DtAt w' t room T:=by
 have f:∀b,b=t∨b=T.d∨b=T.p∨b=T.M.b0∨b=T.M.b1∨b=T.s∨b=T.h∨b∈T.hv.ownBlock.toList→b∉F:=λb d=>c b (by simpa [Dt.blk] using d);refine⟨a.keep h.hb (f _ Z),a.keep h.hd (f _ Z),a.keep h.hp (f _ Z),h.pe,h.eok,h.kl,?_,h.sok,h.gv,h.rw,h.his.chg a λb d=>f b (by simp at d;rcases d with h|h<;>simp [h])⟩;refine⟨a.keep h.scr.hb (f _ Z),h.scr.h0.chg a (λb o e _ g=>f T.M.b0 Z (by cases e;exact g)),h.scr.k0,h.scr.h1.chg a (λb o e _ g=>f T.M.b1 Z (by cases e;exact g)),h.scr.k1,h.scr.tl,?_,h.scr.few,λr i=>by rw[h.rw] at i;cases i⟩;exact h.scr.own.chg a λb d=>by rw[h.gv] at d;simp [Value.ownBlock] at d
theorem DtAt.chg0(h:DtAt w t room T)(a:Chg [] w w'):DtAt w' t room T:=h.chg a Z
theorem dP(w:World)(W H room:Nat)(W0:0<W)(W1:W≤200)(H0:0<H)(H1:H≤60)(hr:room≤500):Calls prog 9 #[.int .i64 W,.int .i64 H,.int .i64 room] w
  (Ac λv w'=>∃t T,v=.pointer (some ⟨t,0,none⟩)∧DtAt w' t room T∧T.kept=[]∧T.E=Esc.new∧T.M.S=Scr.new W H∧Chg [] w w'∧∀b∈T.blk t,w.heap.size≤b):=by
 apply cv;intro K hK;unfold R6;refine sn ?_;refine OpX.gen λw1 hw1=>?_;have hc1:Chg [] w w1:=by rw[hw1];exact sy
 have hz1:w1.heap.size=w.heap.size+2:=by rw[hw1];exact so
 have a1:w1.heap[w.heap.size]?=some (Dl []):=by rw[hw1];refine sn ?_;rfl
 have b1:w1.heap[w.heap.size+1]?=some (Pd.mk 0 noA false).obj:=by rw[hw1];simp -dsimp (disch:=first|omega|(simp only[go_sem,seval];try omega))only[go_sem,seval,noA]
 clear hw1;refine td OV rfl (RS w1 W H W0 W1 H0 H1) ?_;rintro v w2 ⟨s,M,rfl,hM,hS,hc2,hs,hgv,hq0,hq1⟩;have hz2:=hc2.size;refine td Zo rfl (fq w2 room hr) ?_;rintro v w3 ⟨rfl,hH,hc3⟩;have hc03:=(hc1.trans0 hc2).trans0 hc3;refine sn ?_;have hc4:Chg [] w3 (w3.alloc (.cells #[.pointer (some ⟨w.heap.size,0,none⟩),.pointer (some ⟨w.heap.size+1,0,none⟩),.pointer (some ⟨s,0,none⟩),.pointer (some ⟨w2.heap.size,0,none⟩)] 57)):=Ar _ _;have hz3:=hc3.size;have hrow:M.rows=[]:=by
  have:=hM.own;rw[hgv] at this;rcases this with ⟨-,h⟩|⟨g,o,cap,pre,sp,post,h,-⟩
  ·exact h
  ·cases h
 refine hK _ _ ⟨w3.heap.size,⟨w.heap.size,w.heap.size+1,s,w2.heap.size,[],⟨0,noA,false⟩,Esc.new,M,.slice none 0 0,[]⟩,rfl,⟨Lyc.heap_alloc_new _ _ _ rfl,hc4.keep (hc3.keep (hc2.keep a1 Z) Z) Z,hc4.keep (hc3.keep (hc2.keep b1 Z) Z) Z,PE.new 0 O _ _,Esc.new_ok,Z,(hM.chg0 hc3).chg0 hc4,by rw[hS];exact Scr.ok_new W0 W1 H0 H1,hgv,hrow,hH.chg0 hc4⟩,rfl,rfl,hS,hc03.trans0 hc4,λb hb=>?_⟩;simp only[Dt.blk,rM,Value.ownBlock,Option.toList_none,List.not_mem_nil,or_false] at hb;rcases hb with rfl|rfl|rfl|rfl|rfl|rfl|rfl<;>omega
theorem Q1{b:Nat}{c:Array Value}{e:TypeId}{a:Nat × Nat}(h:w.heap[b]?=some (.cells c e a))(d:Nat.beq e 60=false):NoC w [b]:=λx f g i j=>by
 simp at f;subst f;rw[h] at j;simp only[Option.some.injEq,Obj.cells.injEq] at j;rw[j.2.1,Nat.beq_refl] at d;cases d
theorem ij{S:Scr}(h:S.ok):({ S with gone:=[] }:Scr).ok:=⟨h.w0,h.w1,h.h0,h.h1,h.g0,h.g1,h.nx,h.ny,h.s0x,h.s0y,h.s1x,h.s1y,h.tf,h.fh,h.tl,Z,Z⟩
theorem aO(h:DtAt w t room T)(s:List UInt8)(hl:s.length≤10000):Calls prog 10 #[.pointer (some ⟨t,0,none⟩),.string (Aq s)] w
  (Ac λ_ w'=>∃T',DtAt w' t room T'∧T'.kept=(dec (T.kept++s)).2∧T'.E=(T.E.feed (dec (T.kept++s)).1).1∧T'.M.S={ T.M.S.acts (T.E.feed (dec (T.kept++s)).1).2 with gone:=[] }∧Chg (T.blk t) w w'∧∀b∈T'.blk t,b∈T.blk t∨w.heap.size≤b):=by
 have hlt:=h.lt;have t_d:=Bj h.hb h.hd rfl;have t_p:=Bj h.hb h.hp rfl;have t_s:=Bj h.hb h.scr.hb rfl;have t_h:=Bj h.hb h.his.hb rfl;have d_p:=Bj h.hd h.hp rfl;have d_s:=Bj h.hd h.scr.hb rfl;have d_h:=Bj h.hd h.his.hb rfl;have p_s:=Bj h.hp h.scr.hb rfl;have p_h:=Bj h.hp h.his.hb rfl;have s_h:=Bj h.scr.hb h.his.hb rfl;have t_o:=h.his.own.off h.hb rfl;have d_o:=h.his.own.off h.hd rfl;have p_o:=h.his.own.off h.hp rfl;have s_o:=h.his.own.off h.scr.hb rfl;have hdn:T.M.dblk=[]:=by unfold Scm.dblk;rw[h.gv];rfl
 have hh_lt:∀b∈T.h::T.hv.ownBlock.toList,b<w.heap.size:=h.his.lt;obtain⟨D,hD⟩:∃D,D=dec (T.kept++s):=⟨_,rfl⟩;have hdk:=Kq (T.kept++s);rw[←hD] at hdk ⊢;have hln:(T.kept++s).length≤10004:=by rw[rS];have:=h.kl;omega
 have hE:=Esc.feed_ok h.eok hdk.1;have hnum:=Esc.feed_nums h.eok hdk.1;apply Z7;intro K hK;unfold Pw;have hdr:Chg [] w w.drew:=(sg _ _).drew;have hb0:=hdr.keep h.hb Z;refine(show ∀X:World→Prop,X w.drew→Ag X w from λ_ h=>h) _ ?_;have h0:=h.chg0 hdr;have hz0:w.drew.heap.size=w.heap.size:=rfl;generalize w.drew=w0 at *;refine sq hb0 ?_;refine td Z3 rfl (iF h0.hd h.kl s hl) ?_;rw[←hD];rintro v w1 ⟨ho1,hd1,hc1⟩;have hb1:=hc1.keep hb0 (by simpa using t_d);have hp1:=hc1.keep h0.hp (by simpa using d_p.symm);have hs1:=h0.scr.chg hc1 (by rw[hdn];simpa using d_s.symm) (Q1 h0.hd rfl);have hh1:=h0.his.chg hc1 (λb hb=>by simp only[List.mem_singleton];rintro rfl;exact(rM.1 hb).elim (λe=>d_h e) d_o);obtain⟨a1,cap1,rfl,hcap1,hx1,-,hf1⟩:=ho1.form;refine sq hb1 ?_;refine td ec rfl (dY hp1 h.pe h.eok hx1 (λb o ha hne e=>by obtain⟨g,eg,hg,-⟩:=hf1 hne;rw[eg] at ha;cases ha;have:=hlt T.p (by simp [Dt.blk]);omega) cap1 O hdk.1) ?_;rintro v w2 ⟨P2,ho2,hp2,hpe2,hc2⟩;have hc12:=hc1.size;have hb2:=hc2.keep hb1 (by simpa using t_p);have hd2:=hc2.keep hd1 (by simpa using d_p);have hs2:=hs1.chg hc2 (by rw[hdn];simpa using p_s.symm) (Q1 hp1 rfl);have hh2:=hh1.chg hc2 (λb hb=>by simp only[List.mem_singleton];rintro rfl;exact(rM.1 hb).elim (λe=>p_h e) p_o);obtain⟨a2,cap2,rfl,hcap2,hx2,-,hf2⟩:=ho2.form;refine sq hb2 ?_;refine td bC rfl (Ym hs2 h.sok hx2 (λb o ha hne hm=>by obtain⟨g,eg,hg,-⟩:=hf2 hne;rw[eg] at ha;cases ha;rw[hdn] at hm;simp at hm;have:=hlt T.s (by simp [Dt.blk]);omega) cap2 (by have:=hE.2.2;omega) (λa ha=>⟨hE.2.1 a ha,hnum a ha⟩)) ?_;rintro v w3 ⟨M3,hs3,hS3,hc3,hg3⟩;rw[←hS3] at hs3;rw[hdn] at hc3;have hz2:=hc2.size;have hz3:=hc3.size;have hb3:=hc3.keep hb2 (by simpa using t_s);have hd3:=hc3.keep hd2 (by simpa using d_s);have hp3:=hc3.keep hp2 (by simpa using p_s);have hh3:=hh2.chg hc3 (λb hb=>by simp only[List.mem_singleton];rintro rfl;exact(rM.1 hb).elim (λe=>s_h e) s_o);have hdb3:∀b∈M3.dblk,w.heap.size≤b:=λb hb=>(hg3.dk b hb).elim (λh=>by rw[hdn] at h;cases h) λh=>by omega
 have tl3:=hs3.tl;obtain⟨a3,cap3,hgv3,hcap3,hx3⟩:=hs3.own.form;have hdr3:Chg [] w3 w3.drew:=(sg _ _).drew;refine(show ∀X:World→Prop,X w3.drew→Ag X w3 from λ_ h=>h) _ ?_;have hs4:=hs3.chg0 hdr3;have hh4:=hh3.chg0 hdr3;have hb4:=hdr3.keep hb3 Z;have hd4:=hdr3.keep hd3 Z;have hp4:=hdr3.keep hp3 Z;have hx4:=hx3.chg0 hdr3;have hz4:w3.drew.heap.size=w3.heap.size:=rfl;generalize w3.drew=w4 at *;have hsb4:=hs4.hb;refine sr hb4 hsb4 ?_;rw[hgv3];have hfar3:∀b o,a3=some ⟨b,o,none⟩→M3.rows≠[]→b∉T.h::T.hv.ownBlock.toList:=λb o ha _ hm=>by
  have:b∈M3.dblk:=by unfold Scm.dblk;rw[hgv3,ha];simp [Value.ownBlock]
  have h1:=hdb3 b this;have h2:=hh_lt b hm;omega
 refine td aH rfl (gu hh4 hx4 cap3 hs4.few hs4.rows hfar3) ?_;rintro v w5 ⟨v5,l5,hh5,hc5,hn5⟩;have hz5:=hc5.size;have hb5:=hc5.keep hb4 (by simp only[rM,not_or];exact⟨t_h,t_o⟩);have hd5:=hc5.keep hd4 (by simp only[rM,not_or];exact⟨d_h,d_o⟩);have hp5:=hc5.keep hp4 (by simp only[rM,not_or];exact⟨p_h,p_o⟩);have hs5:=hs4.chg hc5 (λb hb hm=>by
  rcases rM.1 hb with rfl|hb
  ·exact(rM.1 hm).elim (λe=>s_h e) s_o
  ·have h1:=hdb3 b hb;have h2:=hh_lt b hm;omega) hh4.noc
 have hsb5:=hs5.hb;have hl5:=Aa hsb5;have hput:=M3.dwGv M3.S.now.x M3.S.now.y (.slice none 0 0) [] tl3;refine LX3 hb5 hsb5 hput ?_;have hs6:=hs5.own' (k':=500) (sg [] w5) Z (IN w5) (Oy.nil w5 48 Rw.f) Z (λr hr=>by cases hr);have hc6:Chg [T.s] w5 (Ab w5 T.s (({ M3 with gv:=.slice none 0 0,rows:=[] }:Scm).dobj M3.S.now.x M3.S.now.y)):=(sg _ _).set _ _ (.inl Z);have ho5s:T.s∉T.h::v5.ownBlock.toList:=λhm=>by
  rcases rM.1 hm with e|hm
  ·exact s_h e
  ·rcases hn5 _ hm with hm|hm
   ·exact s_o hm
   ·have:=Aa h.scr.hb;omega
 have sok3:M3.S.ok:=by rw[hS3];exact h.sok.acts.ok
 have all:Chg (T.blk t) w (Ab w5 T.s (({ M3 with gv:=.slice none 0 0,rows:=[] }:Scm).dobj M3.S.now.x M3.S.now.y)):=by
  have m:∀{F:List Nat},(∀b∈F,b∈T.blk t)→∀b∈F,b∈T.blk t∨w.heap.size≤b:=λh b hb=>.inl (h b hb);refine(((((hdr.mono Z).trans hc1 (m ?_)).trans hc2 (m ?_)).trans hc3 (m ?_)).trans0 hdr3 |>.trans hc5 (m ?_)).trans hc6 (m ?_)
  all_goals
   intro b hb;simp only[Dt.blk,rM,List.not_mem_nil,or_false] at hb ⊢
   first|(subst hb;simp)|(rcases hb with rfl|hb<;>simp [*])
 refine hK _ _ ⟨⟨T.d,T.p,T.s,T.h,D.2,P2,(T.E.feed D.1).1,{ M3 with S:={ M3.S with gone:=[] },gv:=.slice none 0 0,rows:=[] },v5,l5⟩,⟨hc6.keep hb5 (by simpa using t_s),hc6.keep hd5 (by simpa using d_s),hc6.keep hp5 (by simpa using p_s),hpe2,hE.1,hdk.2.2,⟨hs6.hb,hs6.h0,hs6.k0,hs6.h1,hs6.k1,hs6.tl,hs6.own,hs6.few,hs6.rows⟩,ij sok3,rfl,rfl,hh5.chg hc6 (λb hb hm=>by simp at hm;subst hm;exact ho5s hb)⟩,rfl,rfl,by dsimp only;rw[hS3],all,λb hb=>?_⟩;simp only[Dt.blk,rM] at hb ⊢;rcases hb with rfl|rfl|rfl|rfl|rfl|rfl|rfl|hb
 ·simp
 ·simp
 ·simp
 ·rcases hg3.q _ (.inl rfl) with e|e|e
  ·left;simp [e]
  ·left;simp [e]
  ·right;omega
 ·rcases hg3.q _ (.inr rfl) with e|e|e
  ·left;simp [e]
  ·left;simp [e]
  ·right;omega
 ·simp
 ·simp
 ·rcases hn5 b hb with h|h
  ·left;simp [h]
  ·right;omega
end
theorem TH(w:World)(x y:Int):Calls prog 5 #[.agg #[.int .i64 x,.int .i64 y]] w
  (Ac λv a=>v=.tuple #[.int .i64 (D8 x 40 1),.int .i64 (D8 y 19 2)]∧Chg [] w a):=by
 have b:=E1 x 40 O;have c:=E1 y 19 O;have d:=E1 (x.tmod 40+40) 40 O;have e:=E1 (y.tmod 19+19) 19 O;apply XU;intro K f;unfold On;refine sn ?_;exact f _ _ ⟨rfl,(Ar _ _).drew⟩
theorem jJ:AU 1=[49]:=by rw[AU];rfl
section
variable {base:Nat} {w w' w'':World} {s:Nat} {S:Ss} {lim:Int}
def Eb(S:Ss)(W:Wn)(q:Pt)(b:Int):Ss:={ S with wins:=BD S.wins { W with pts:=Be W.pts q },back:=b }
theorem iP(h:SsAt base w s S)(ok:S.ok lim)(hbase:base≤w.heap.size){W:Wn}(hg:S.get 1=some W){p:Pt}(hp:p∈W.pts)(l:List UInt8)(hl:l.length≤2000):Calls prog 7 #[.pointer (some ⟨s,0,none⟩),.agg #[.int .i64 2,.int .i64 1,.int .i64 p.id,.string (Aq l),.int .i64 0,.int .i64 0]] w
  (Ac λ_ w'=>∃q b,q.ent=p.ent∧q.W=p.W∧q.H=p.H∧q.M.S={ p.M.S.acts (p.T.E.feed (dec (p.T.kept++l)).1).2 with gone:=[] }∧q.T.kept=(dec (p.T.kept++l)).2∧q.T.E=(p.T.E.feed (dec (p.T.kept++l)).1).1∧(S.back≤0→b=0)∧(Eb S W q b).ok (lim+1)∧SsAt base w' s (Eb S W q b)∧Trn (S.own s) ((Eb S W q b).own s) w w'):=by
 obtain⟨W0,hg0⟩:=S.get_cur ok;apply MF;intro K hK;unfold Ke;refine sn ?_;refine OpX.gen λw1 hw1=>?_;have hc1:Chg [] w w1:=by rw[hw1];exact sy
 have ae:w1.heap[w.heap.size]?=some (.cells #[.int .i64 2,.int .i64 1,.int .i64 p.id,.string (Aq l),.int .i64 0,.int .i64 0] 35):=by rw[hw1];exact so
 clear hw1;have h1:=h.chg0 hc1;have hz1:=hc1.size;refine td Gx rfl (G7 h1) ?_;rintro v w2 ⟨rfl,rfl⟩;refine td E3 rfl (E7 h1 S.cur) ?_;rintro v w3 ⟨rfl,rfl⟩;rw[hg0];simp only[CY,Option.map_some,Option.getD_some];refine sq ae ?_;refine sd (λg=>absurd g O) (λ_=>?_);refine sq ae ?_;refine td fX rfl (WZ h1 ok O 1 p.id l hl) ?_;rintro v w4 (⟨-,-,hno⟩|⟨rfl,W',p',q,b,e1,e2,e3,e4,e5,e6,e7,e8,-,ok',A,T⟩)
 ·exact absurd (List.mem_map.2 ⟨p,hp,rfl⟩) (hno W hg)
 ·rw[hg] at e1;cases e1;have hids:=(h.each W (Ss.get_mem hg).1).ids;obtain rfl:p'=p:=IL hids e2 hp e3;have e7':(q.M.S,q.T.kept,q.T.E)=({ (B3 p'.M.S p'.T.kept p'.T.E l).1 with gone:=[] },(B3 p'.M.S p'.T.kept p'.T.E l).2.1,(B3 p'.M.S p'.T.kept p'.T.E l).2.2):=e7;simp only[B3,Prod.mk.injEq] at e7';exact hK _ _ ⟨q,b,e4,e5,e6,e7'.1,e7'.2.1,e7'.2.2,e8,ok',A,(Trn.of0 hc1 λ_ h=>.inl h).trans T⟩
end
theorem df(w:World):Calls prog 4 #[] w (Ac λv w'=>v=.bool true∧Chg [] w w'):=by
 apply dm;intro K a;unfold Q7;refine td PF rfl (QW w 9 4 5) ?_;rintro v b (⟨c,-⟩|⟨-,s,S,rfl,d,f,g,h⟩)
 ·exact absurd ⟨rC,rC,rC,rC⟩ c
 refine sn ?_;obtain⟨V,i,j,-⟩:=g.wins;refine td Kz rfl (OK d f h.size rC g.cop g.pre [2,37] (.inl rfl)) ?_;rintro v w2 ⟨k,l,m,n,o⟩;have p:Chg [] w w2:=n.base h d.lo;have q:k.cur=1:=o.cur.trans g.cur;have r:k.cop=false:=o.cop.elim (λe=>e.trans g.cop) id;have t:k.wins.map (·.n)=[1]:=by rw[o.ns,i];simp [j]
 refine td R0 rfl (Mc l m 0 rC) ?_;rintro v u ⟨x,y,z,rfl,A⟩;rw[t] at y;have B:=List.perm_singleton.1 y;subst B;have C:CE [1] k.cur k.cop k.back 0=[32,49,42]:=by
  rw[q,r];unfold CE BR;simp only[List.map_cons,List.map_nil];rw[show(1:Int).toNat=1 from rfl,jJ];rfl
 rw[C];refine sn ?_;refine a _ _ ⟨?_,p.trans0 A⟩;show Value.bool ([32,49,42] == (Aq [32,49,42]).toList)=_;rw[Qp];rfl
def EO(t:Nat):List Value:=[.pointer (some ⟨t,0,none⟩)]
theorem jF(t:Nat):(EO t).length=1:=rfl
theorem cC(t:Nat):AV (EO t)=true:=rfl
def Ka(e:TypeId):Bool:=Nat.beq e 57 || Nat.beq e 86 || Nat.beq e 91 || Nat.beq e 60 || Nat.beq e 107 || Nat.beq e 146 || Nat.beq e 48
theorem DtAt.tag{w:World}{t a:Nat}{T:Dt}(h:DtAt w t a T):∀x∈T.blk t,∃c e d,w.heap[x]?=some (.cells c e d)∧Ka e=true:=by
 have cell:∀{b:Nat} {l:List Cel},SxC w (some 60) (some ⟨b,0,none⟩) l→l≠[]→∃c e d,w.heap[b]?=some (.cells c e d)∧Ka e=true:=λ{b l} h f=>by
  obtain⟨i,o,c,e,d,j,k,m,n,p,-⟩:=h.at_ f;cases m;exact⟨c,e,d,n,by rw[Ib p];rfl⟩
 intro x q;simp only[Dt.blk,rM] at q;rcases q with rfl|rfl|rfl|rfl|rfl|rfl|rfl|q
 ·exact⟨_,_,_,h.hb,rfl⟩
 ·exact⟨_,_,_,h.hd,rfl⟩
 ·exact⟨_,_,_,h.hp,rfl⟩
 ·exact cell h.scr.h0 (H6 h.sok.g0.ok)
 ·exact cell h.scr.h1 (H6 h.sok.g1.ok)
 ·exact⟨_,_,_,h.scr.hb,rfl⟩
 ·exact⟨_,_,_,h.his.hb,rfl⟩
 ·rcases h.his.own with ⟨e,-⟩|⟨g,o,r,j,u,k,e,v,-⟩
  ·rw[e] at q;simp [Value.ownBlock] at q
  ·rw[e] at q;simp only[Value.ownBlock,Option.toList_some,List.mem_singleton] at q;subst q;exact⟨_,_,_,v,rfl⟩
theorem DtAt.off_sx{w:World}{t room:Nat}{T:Dt}(h:DtAt w t room T){α:Type}{f:α→List Value}{e:TypeId}{l:List α}{b o:Nat}(hs:Sx w (some e) f (some ⟨b,o,none⟩) l)(hne:l≠[])(he:Ka e=false):b∉T.blk t:=λhm=>by
 obtain⟨c,e',fr,h1,h2⟩:=h.tag b hm;refine hs.ne rfl hne h1 ?_ rfl;cases hb:Nat.beq e' e
 ·rfl
 ·rw[Nat.eq_of_beq_eq_true hb] at h2;rw[h2] at he;cases he
structure Play (w0:World) (base:Nat) (pa ta:Option Addr) (P:List (Int × Rc)) (w:World) (s:Nat) (S:Ss) (ds:List (Nat × Dt)):Prop where
 ses:SsAt base w s S
 docs:∀d∈ds,DtAt w d.1 6 d.2
 apart:ds.Pairwise λa b=>∀x∈a.2.blk a.1,x∉b.2.blk b.1
 off:∀d∈ds,∀x∈d.2.blk d.1,¬S.own s x∧w0.heap.size≤x
 pan:Sx w (some 44) BV pa P
 trm:Sx w (some 39) EO ta (ds.map (·.1))
 pfar:∀b o,pa=some ⟨b,o,none⟩→P≠[]→¬S.own s b
 tfar:∀b o,ta=some ⟨b,o,none⟩→ds.map (·.1)≠[]→¬S.own s b
 chg:Chg [] w0 w
 low:w0.heap.size≤base
section
variable {w0:World} {base:Nat} {pa ta:Option Addr} {P:List (Int × Rc)} {w w':World} {s:Nat} {S S':Ss} {ds:List (Nat × Dt)}
theorem Play.turn(h:Play w0 base pa ta P w s S ds)(A:SsAt base w' s S')(T:Trn (S.own s) (S'.own s) w w'):Play w0 base pa ta P w' s S' ds:=by
 obtain⟨F,a,c⟩:=T.chg;have e:∀x,x<w.heap.size→¬S.own s x→¬S'.own s x:=λx f g i=>(T.grow x i).elim g λh=>by omega
 exact⟨A,λd j=>(h.docs d j).chg a λb k l=>(h.off d j b k).1 (c b l),h.apart,λd j x f=>⟨e x ((h.docs d j).lt x f) (h.off d j x f).1,(h.off d j x f).2⟩,
  h.pan.chg a λb o m n l=>h.pfar b o m n (c b l),h.trm.chg a λb o m n l=>h.tfar b o m n (c b l),λb o m n=>e b (h.pan.lt n m) (h.pfar b o m n),λb o m n=>e b (h.trm.lt n m) (h.tfar b o m n),
  h.chg.trans a λz p=>.inr (by have:=h.ses.lo z (c z p);have:=h.low;omega),h.low⟩
theorem Play.chg0(h:Play w0 base pa ta P w s S ds)(a:Chg [] w w'):Play w0 base pa ta P w' s S ds:=h.turn (h.ses.chg0 a) (.of0 a λ_ h=>.inl h)
theorem Play.doc{A B:List (Nat × Dt)}{t:Nat}{T T':Dt}(h:Play w0 base pa ta P w s S (A++(t,T)::B))(hT:DtAt w' t 6 T')(hc:Chg (T.blk t) w w')(hb:∀b∈T'.blk t,b∈T.blk t∨w.heap.size≤b):Play w0 base pa ta P w' s S (A++(t,T')::B):=by
 have hm0:(t,T)∈A++(t,T)::B:=Z;have hT0:=h.docs _ hm0;obtain⟨a1,a2,a3⟩:=List.pairwise_append.1 h.apart;obtain⟨b1,b2⟩:=List.pairwise_cons.1 a2;have hA:∀d∈A,(∀x∈d.2.blk d.1,x∉T.blk t)∧DtAt w d.1 6 d.2:=λd hd=>⟨a3 d hd (t,T) Z,h.docs d (by simp [hd])⟩;have hB:∀d∈B,(∀x∈d.2.blk d.1,x∉T.blk t)∧DtAt w d.1 6 d.2:=λd hd=>⟨λx hx hm=>b1 d hd x hm hx,h.docs d (by simp [hd])⟩;have new:∀d:Nat × Dt,(∀x∈d.2.blk d.1,x∉T.blk t)∧DtAt w d.1 6 d.2→∀x∈d.2.blk d.1,x∉T'.blk t:=λd hd x hx hm=>(hb x hm).elim (hd.1 x hx) λh9=>by have:=hd.2.lt x hx;omega
 have own:∀x,S.own s x→x<w.heap.size:=h.ses.lt;have hz:=h.chg.size;refine⟨h.ses.chg hc λx hx=>(h.off _ hm0 x hx).1,λd hd=>?_,?_,λd hd x hx=>?_,h.pan.chg hc λb o ha hne hm=>?_,?_,h.pfar,?_,h.chg.trans hc λz hz=>.inr (h.off _ hm0 z hz).2,h.low⟩
 ·rcases List.mem_append.1 hd with hd|hd
  ·exact(hA d hd).2.chg hc (hA d hd).1
  ·rcases rM.1 hd with rfl|hd
   ·exact hT
   ·exact(hB d hd).2.chg hc (hB d hd).1
 ·refine List.pairwise_append.2 ⟨a1,List.pairwise_cons.2 ⟨λd hd x hx hm=>new d (hB d hd) x hm hx,b2⟩,λd hd e he=>?_⟩;rcases rM.1 he with rfl|he
  ·exact new d (hA d hd)
  ·exact a3 d hd e (List.mem_cons_of_mem _ he)
 ·rcases List.mem_append.1 hd with hd|hd
  ·exact h.off d (by simp [hd]) x hx
  ·rcases rM.1 hd with rfl|hd
   ·rcases hb x hx with h9|h9
    ·exact h.off _ hm0 x h9
    ·exact⟨λho=>by have:=own x ho;omega,O⟩
   ·exact h.off d (by simp [hd]) x hx
 ·subst ha;exact hT0.off_sx h.pan hne rfl hm
 ·rw[List.map_append,List.map_cons];have ht:=h.trm;rw[List.map_append,List.map_cons] at ht;exact ht.chg hc λb o ha hne hm=>by
   subst ha;exact hT0.off_sx ht hne rfl hm
 ·have:=h.tfar;rw[List.map_append,List.map_cons] at this ⊢;exact this
def Gm(P:List (Int × Rc))(W:Wn)(ds:List (Nat × Dt)):Prop:=ds.length=P.length∧∀(i:Nat) (d:Nat × Dt) (x:Int × Rc),ds[i]?=some d→P[i]?=some x→∃p∈W.pts,p.id=x.1∧p.M.S=d.2.M.S∧p.T.kept=d.2.kept∧p.T.E=d.2.E
theorem Gm.out{W:Wn}{A B:List (Nat × Dt)}{t:Nat}{T a:Dt}(h:Gm P W (A++(t,T)::B))(b:(P.map (·.1)).Nodup){x:Int × Rc}(c:P[A.length]?=some x){p q:Pt}(f:p∈W.pts)(g:p.id=x.1)(l:q.ent=p.ent)(m:q.M.S=a.M.S)(n:q.T.kept=a.kept)(o:q.T.E=a.E):
  Gm P { W with pts:=Be W.pts q } (A++(t,a)::B):=by
 have u:q.id=p.id:=congrArg (·.1) l;refine⟨by simpa using h.1,λi d y v z=>?_⟩;by_cases C:i=A.length
 ·subst C;rw[rK (rH _),Nat.sub_self,List.getElem?_cons_zero] at v;cases v;rw[c] at z;cases z;exact⟨q,List.mem_map.2 ⟨p,f,by rw[rG u.symm]⟩,by rw[u,g],m,n,o⟩
 ·have D:(A++(t,T)::B)[i]?=some d:=by
   rw[←v];rcases Nat.lt_or_ge i A.length with E|E
   ·rw[rL E,rL E]
   ·obtain⟨k,hk⟩:∃k,i-A.length=k+1:=⟨i-A.length-1,O⟩;rw[rK E,rK E,hk,List.getElem?_cons_succ,List.getElem?_cons_succ]
  obtain⟨r,F,G,H⟩:=h.2 i d y D z;refine⟨r,List.mem_map.2 ⟨r,F,rF λe=>?_⟩,G,H⟩;have I:=(rO.1 z).1;have J:=(rO.1 c).1;refine C (gm b (i:=i) (j:=A.length) (by rw[List.length_map];exact I) (by rw[List.length_map];exact J) ?_);rw[List.getElem_map,List.getElem_map,(rO.1 z).2,(rO.1 c).2,←G,e,u,g]
end
theorem cZ{w:World}(g:Gr)(a:Option Addr)(cap:Nat)(y:Int)(b:y<0):Calls prog 39 #[g.val a cap,.int .i64 y] w
  (Ac λv c=>v=.slice none 0 0∧Chg [] w c):=by
 apply Tt;intro K d;unfold KR;simp -dsimp (disch:=first|omega|(simp only[go_sem,seval];try omega))only[go_sem,seval,Gr.val];refine Join1.inl ?_;refine sn ?_;refine sd (λ_=>?_) (λh=>absurd b h);refine sn ?_;exact d _ _ ⟨rfl,(Ar _ _).drew⟩
theorem Rh{w:World}{g:Gr}(c:g.ok){e:Option TypeId}{a:Option Addr}(d:SxC w e a g.cs)(cap:Nat)(f:g.cs.length≤cap){x:Nat}(h:x<g.w){y:Int}(j:y<g.h):Calls prog 13 #[g.val a cap,.int .i64 x,.int .i64 y] w
  (Ac λv k=>v=(if 0≤y then g.at x y.toNat else Cel.none).val∧Chg [] w k):=by
 apply ed;intro K l;unfold OJ;simp -dsimp (disch:=first|omega|(simp only[go_sem,seval];try omega))only[go_sem,seval,Gr.val];have m:=By w (.cells #[.int .i64 g.w,.int .i64 g.h,.slice a g.cs.length cap] 50) (.cells #[.int .i32 0,.int .u8 0,.int .u8 0,.int .u8 0] 60);have n:((w.alloc (.cells #[.int .i64 g.w,.int .i64 g.h,.slice a g.cs.length cap] 50)).alloc (.cells #[.int .i32 0,.int .u8 0,.int .u8 0,.int .u8 0] 60)).heap[w.heap.size+1]?=some (.cells #[.int .i32 0,.int .u8 0,.int .u8 0,.int .u8 0] 60):=by exact so
 generalize ((w.alloc (.cells #[.int .i64 g.w,.int .i64 g.h,.slice a g.cs.length cap] 50)).alloc (.cells #[.int .i32 0,.int .u8 0,.int .u8 0,.int .u8 0] 60))=w0 at m n ⊢;by_cases p:0≤y
 ·obtain⟨q,rfl⟩:=Int.eq_ofNat_of_zero_le p;have r:q<g.h:=O;have s:=c.w1;have t:=c.row_len r;refine td Hu rfl (KP c (d.chg0 m) cap f q r) ?_;rintro v u ⟨z,A⟩;have B:=A.keep n Z;have C:=Aa B;obtain⟨D,E,rfl,-,F,-⟩:=z.form;rw[t];obtain⟨b,o,rfl,G,H,I,-⟩:=SxC.cel F (i:=x) (c.row_get h r);refine sh (λv k=>v=.bool false∧k=u) ?_ ?_
  ·refine sn ?_;refine sd (λh=>O) (λ_=>?_);refine sn ?_;simp;omega
  ·rintro v w2 ⟨rfl,rfl⟩;refine sr H B ?_;exact l _ _ ⟨by rw[rG p];simp [Cel.val],(m.trans0 A).set _ _ Z⟩
 ·refine td Hu rfl (cZ g a cap y O) ?_;rintro v u ⟨rfl,A⟩;have B:=A.keep n Z;have C:=Aa B;refine Join1.inl ?_;refine sn ?_;refine sd (λh=>O) (λ_=>?_);refine sn ?_;refine sd (λ_=>?_) (λh=>O);refine sq B ?_;refine l _ _ ⟨?_,(m.trans0 A).set _ _ Z⟩;rw[rF p];rfl
def DZ(o:Int × List UInt8):List Value:=[.int .i64 o.1,.string (Aq o.2)]
theorem Np(o:Int × List UInt8):(DZ o).length=2:=rfl
structure Cut (X Y:Int) (S:Ss):Prop where
 w:S.w=X
 h:S.h=Y
 cur:S.cur=1
 cop:S.cop=false
 pre:S.pre=false
 back:S.back=0
 ns:S.wins.map (·.n)=[1]
 nw:S.new
theorem Cut.next{X Y:Int}{S a:Ss}(h:Cut X Y S)(r:NRel S a):Cut X Y a:=
 ⟨r.w.trans h.w,r.h.trans h.h,r.cur.trans h.cur,r.cop.elim (λe=>e.trans h.cop) id,r.pre.trans h.pre,r.back.elim (λe=>e.trans h.back) id,r.ns.trans h.ns,r.nw h.nw⟩
structure Mid (X Y:Int) (P:List (Int × Rc)) (lim:Int) (S:Ss) (W:Wn):Prop where
 w:S.w=X
 h:S.h=Y
 cur:S.cur=1
 cop:S.cop=false
 back:S.back=0
 wins:S.wins=[W]
 n:W.n=1
 pan:W.L.root.panes W.L.R=P
 ok:S.ok lim
theorem Mid.get{X Y:Int}{P:List (Int × Rc)}{a:Int}{S:Ss}{W:Wn}(h:Mid X Y P a S W):S.get 1=some W:=by
 unfold Ss.get;rw[h.wins];simp [Wn.ent,h.n]
theorem Mid.out{X Y:Int}{P:List (Int × Rc)}{a:Int}{S:Ss}{W:Wn}(h:Mid X Y P a S W){q:Pt}{b:Int}(c:S.back≤0→b=0){d:Int}(ok:(Eb S W q b).ok d):Mid X Y P d (Eb S W q b) { W with pts:=Be W.pts q }:=
 ⟨h.w,h.h,h.cur,h.cop,c (by rw[h.back];exact Int.le_refl _),by unfold Eb BD;rw[h.wins];simp,h.n,h.pan,ok⟩
theorem SZ{base:Nat}{w:World}{s:Nat}{S:Ss}{a:Int}(b:SsAt base w s S)(ok:S.ok a){W:Wn}(c:W∈S.wins)(d:S.back=0){z:Int × Rc}(e:z∈W.L.root.panes W.L.R){p:Pt}(f:p∈W.pts)(g:p.id=z.1):W.viewAt (S.backOf S.cur W) z.1=p.M.S.cur∧p.M.S.cur.fit z.2.w.toNat z.2.h.toNat:=by
 obtain⟨h,-,-,-⟩:=ok.win W c;have i:=b.each W c;obtain⟨j,-⟩:=i.each p f;have k:=Is i f;have l:S.backOf S.cur W z.1=0:=by
  unfold Ss.backOf;split
  ·exact d
  ·rfl
 have m:=j.scr.ok;obtain⟨n,o⟩:=h.size p f z.2 (by rw[g];exact e);refine⟨?_,?_⟩
 ·unfold Wn.viewAt;rw[←g,k];dsimp only;rw[g,l];exact aG m _
 ·have q:=m.cur;rw[j.scr.w,j.scr.h] at q;rw[show z.2.w.toNat=p.W by omega,show z.2.h.toNat=p.H by omega];exact q
set_option maxHeartbeats 2000000 in
theorem Zz{w:World}{e0:Option TypeId}{a:Option Addr}{os:List (Int × List UInt8)}(hs:Sx w e0 DZ a os)(cap:Nat)(hos:os.length≤maxLen)(x y b:Int):Calls prog 3 #[.agg #[.int .i64 x,.int .i64 y],.int .i64 b,.slice a os.length cap] w
  (Ac λv w'=>v=.bool true∧Chg [] w w'):=by
 have hml:maxLen=9223372036854775807:=rfl;apply Xx;intro K hK;unfold RT;refine sn ?_;have hca:=Ar w (.cells #[.int .i64 x,.int .i64 y] 23);have haz:(w.alloc (.cells #[.int .i64 x,.int .i64 y] 23)).heap[w.heap.size]?=some (.cells #[.int .i64 x,.int .i64 y] 23):=by exact so
 generalize w.alloc (.cells #[.int .i64 x,.int .i64 y] 23)=wz at *;refine td jE rfl (df wz) ?_;rintro v w1 ⟨rfl,hc1⟩;have az1:=hc1.keep haz Z;refine sq az1 ?_;refine td gN rfl (TH w1 x y) ?_;rintro v w2 ⟨rfl,hc2⟩;obtain⟨x1,x2⟩:=Re (n:=x) (m:=40) (k:=1) O;obtain⟨y1,y2⟩:=Re (n:=y) (m:=19) (k:=2) O;generalize D8 x 40 1=X at *;generalize D8 y 19 2=Y at *;refine sn ?_;refine td PF rfl (QW w2 X Y 6) ?_;rintro v w3 (⟨hno,-⟩|⟨-,s,S0,rfl,A3,ok3,fr,hc3⟩)
 ·exact absurd ⟨O,O,O,O⟩ hno
 have hc02:=(hca.trans0 hc1).trans0 hc2;have hc03:=hc02.trans0 hc3;have hz02:=hc02.size;have cut0:Cut X Y S0:=by
  obtain⟨V,e1,e2,-⟩:=fr.wins;exact⟨fr.w,fr.h,fr.cur,fr.cop,fr.pre,fr.back,by rw[e1];simp [e2],fr.nw⟩
 refine sn ?_;refine Loop1.st (λq:Nat × Ss=>.int .i64 (q.1:Int)) (λq w'=>q.1≤6∧SsAt w2.heap.size w' s q.2∧q.2.ok (1+5000*q.1)∧Cut X Y q.2∧Chg [] w w') (λq=>6-q.1) (0,S0) rfl ⟨Nat.zero_le _,A3,ok3.mono O,cut0,hc03⟩ ?_;rintro next ⟨i,S⟩ wi hn ⟨hi,A,ok,cut,hci⟩
 dsimp only at hi A ok cut ⊢;have hzi:=hci.size;have hbi:w2.heap.size≤wi.heap.size:=by have:=A.lt _ (.inl rfl);have:=A.los;omega
 refine sn ?_;refine sd (λg=>?_) (λg=>?_)
 ·have e1:(i:Int)+1=((i+1:Nat):Int):=O;refine sh (λv w'=>(v=.string (Aq [2,34])∨v=.string (Aq [2,37]))∧w'=wi) ?_ ?_
  ·refine sn ?_;refine sd (λ_=>⟨.inl rfl,rfl⟩) (λ_=>⟨.inr rfl,rfl⟩)
  rintro v1 w4 ⟨hv1,rfl⟩;refine sh (λv w'=>(∃l,v=.string (Aq l)∧(l=[2,37]∨l=[2,34]∨l=[2,37,2,111]∨l=[2,34,2,111]))∧w'=w4) ?_ ?_
  ·rcases hv1 with rfl|rfl
   ·refine sn ?_;refine sd (λ_=>?_) (λ_=>⟨⟨_,rfl,Z⟩,rfl⟩);refine sn ?_;exact⟨[2,34,2,111],rfl,Z⟩
   ·refine sn ?_;refine sd (λ_=>?_) (λ_=>⟨⟨_,rfl,Z⟩,rfl⟩);refine sn ?_;exact⟨[2,37,2,111],rfl,Z⟩
  rintro v2 w5 ⟨⟨l,rfl,hl⟩,rfl⟩;refine sn ?_;refine td Kz rfl (OK A ok hbi O cut.cop cut.pre l hl) ?_;rintro v w6 ⟨S',A6,ok6,T6,rel⟩;refine sq e1 ?_;have hc6:Chg [] w w6:=by
   obtain⟨F,hF,hFo⟩:=T6.chg;exact hci.trans hF λz hz=>.inr (by have:=A.lo z (hFo z hz);omega)
  exact hn (i+1,S') _ ⟨by dsimp only;omega,A6,ok6.mono (by dsimp only;omega),cut.next rel,hc6⟩ (by dsimp only;omega)
 clear hn cut0 fr ok3 A3;obtain⟨W,hg⟩:∃W,S.get 1=some W:=by have:=S.get_cur ok;rwa [cut.cur] at this
 obtain⟨hWm,hWn⟩:=Ss.get_mem hg;obtain⟨wok,wR,wnew,wn⟩:=ok.win W hWm;refine td Nq rfl (R8 A hg wok) ?_;rintro v w4 ⟨ho,hc4⟩;have A4:=A.chg0 hc4;have hpk:=Mt.panes_ok wok.lay.fits wok.lay.R;have hpl:=Mt.panes_len W.L.root W.L.R;have hpi:=Mt.panes_ids W.L.root W.L.R;have hpos:=Mt.ids_pos W.L.root;have hfew:=wok.lay.few;have hnd:((W.L.root.panes W.L.R).map (·.1)).Nodup:=by rw[hpi];exact wok.lay.nd
 have hsz:=wok.size;have hown4:∀x,S.own s x→x<wi.heap.size:=A.lt;generalize hP:W.L.root.panes W.L.R=P at *;obtain⟨pa,pc,rfl,hpc,hpan,-,hpf⟩:=ho.form;have hz4:=hc4.size;have hci4:=hci.trans0 hc4;have hzi4:=hci4.size;refine Loop2.st (λq:Nat × Value × List (Nat × Dt)=>q.2.1) (λq=>.int .i64 (q.1:Int)) (λq w'=>q.1≤P.length∧q.2.2.length=q.1∧Ox w4.heap.size w' 39 1 EO q.2.1 (q.2.2.map (·.1))∧(∀d∈q.2.2,DtAt w' d.1 6 d.2∧∀x∈d.2.blk d.1,w4.heap.size≤x)∧q.2.2.Pairwise (λa b=>∀x∈a.2.blk a.1,x∉b.2.blk b.1) ∧
  (∀(j:Nat) (d:Nat × Dt) (z:Int × Rc),q.2.2[j]?=some d→P[j]?=some z→d.2.kept=[]∧d.2.E=Esc.new∧d.2.M.S=Scr.new z.2.w.toNat z.2.h.toNat)∧Chg [] w4 w') (λq=>P.length-q.1) (0,.slice none 0 0,[]) rfl rfl ⟨Nat.zero_le _,rfl,Ox.nil _ _ _ _ _,Z,.nil,Z,sg _ _⟩ ?_
 rintro next ⟨k,u,ds⟩ w5 hn ⟨hk,hdl,hou,hds,hap,hfr,hc5⟩
 dsimp only at hk hdl hou hds hap hfr ⊢;have hz5:=hc5.size;refine sn ?_;refine sd (λg2=>?_) (λg2=>?_)
 ·have hk':k<P.length:=O;have hd5:=(sg [] w5).drew;obtain⟨bp,op,rfl,hbl,hcell⟩:=((hpan.chg0 hc5).chg0 hd5).get (m:=5) DL (rI hk');have hzm:=rR hk';obtain⟨xr,-⟩:=hpk _ hzm;have hze:P[k]?=some P[k]:=rI hk';generalize P[k]=z at *;simp only[BV,Rc.cells] at hcell;obtain⟨Zw,hZw⟩:∃Zw:Nat,(Zw:Int)=z.2.w:=⟨z.2.w.toNat,by have:=xr.w0;omega⟩;obtain⟨Zh,hZh⟩:∃Zh:Nat,(Zh:Int)=z.2.h:=⟨z.2.h.toNat,by have:=xr.h0;omega⟩;have d3:=CQ hcell 3 Z;have d4:=CQ hcell 4 Z;refine(show ∀X:World→Prop,X w5.drew→Ag X w5 from λ_ h=>h) _ ?_;have hou6:Ox w4.heap.size w5.drew 39 1 EO u (ds.map (·.1)):=hou.chg0 hd5;have hz6:w5.drew.heap.size=w5.heap.size:=rfl;have hc6:=hc5.trans0 hd5;have hds6:∀d∈ds,DtAt w5.drew d.1 6 d.2∧∀x∈d.2.blk d.1,w4.heap.size≤x:=λd hd=>⟨(hds d hd).1.chg0 hd5,(hds d hd).2⟩;generalize w5.drew=w6 at *;refine sr d3 d4 ?_;rw[←hZw,←hZh];have b3:=xr.xw;have b4:=xr.yh;have b5:=xr.x0;have b6:=xr.y0;have b7:=xr.w0;have b8:=xr.h0;refine td XF rfl (dP w6 Zw Zh 6 O O O O O) ?_;rintro v w7 ⟨t,T,rfl,hT,hT1,hT2,hT3,hc7,hT4⟩;have hou7:=hou6.chg0 hc7;have hz7:=hc7.size;refine sn ?_;refine Bd (l2:=[t]) j0 jF cC (hou7.chg0 (Ar _ _)) (Sx.built (c:=EO t) (by refine sn ?_;rfl) Z) rfl (by simp;omega) O (by refine sn ?_;omega) ?_;intro v8 w8 ho8 hc8 _;have hca:Chg u.ownBlock.toList w7 w8:=((sg _ w7).alloc _).trans hc8 (λx hx=>.inl hx);have offu:∀(t':Nat) (T':Dt),DtAt w7 t' 6 T'→∀b∈T'.blk t',b∉u.ownBlock.toList:=λt' T' h b hb hm=>by
   obtain⟨c,e,fr,h1,h2⟩:=h.tag b hb;rcases hou7.2 with ⟨e9,-⟩|⟨g9,cap9,cur9,e9,-,hg9,-⟩
   ·rw[e9] at hm;simp [Value.ownBlock] at hm
   ·rw[e9] at hm;simp only[Value.ownBlock,Option.toList_some,List.mem_singleton] at hm;subst hm;rw[h1] at hg9;simp only[Option.some.injEq,Obj.cells.injEq] at hg9;rw[hg9.2.1] at h2;exact absurd h2 rC
  have e1:(k:Int)+1=((k+1:Nat):Int):=O;refine sq e1 ?_;refine hn (k+1,v8,ds++[(t,T)]) _ ⟨by dsimp only;omega,by simp [hdl],by rw[List.map_append];exact ho8,λd hd=>?_,?_,λj d z' hd hz'=>?_,Ff hou7 (rH _) (hc6.trans0 hc7) hca⟩ (by dsimp only;omega)
  ·rcases List.mem_append.1 hd with hd|hd
   ·have h9:=(hds6 d hd).1.chg0 hc7;exact⟨h9.chg hca (offu _ _ h9),(hds6 d hd).2⟩
   ·rw[List.mem_singleton] at hd;subst hd;exact⟨hT.chg hca (offu _ _ hT),λx hx=>by have:=hT4 x hx;omega⟩
  ·refine List.pairwise_append.2 ⟨hap,List.pairwise_singleton _ _,λd hd e he x hx hm=>?_⟩;rw[List.mem_singleton] at he;subst he;have h8:=(hds6 d hd).1.lt x hx;have h9:=hT4 x hm;omega
  ·dsimp only at hd;rcases Nat.lt_or_ge j ds.length with h9|h9
   ·rw[rL h9] at hd;exact hfr j d z' hd hz'
   ·have h8:=(rO.1 hd).1;rw[rS,List.length_singleton] at h8;obtain rfl:j=ds.length:=O;rw[rK (rH _),Nat.sub_self,List.getElem?_cons_zero] at hd;cases hd;rw[hdl,hze] at hz';cases hz';exact⟨hT1,hT2,by rw[hT3,←hZw,←hZh];rfl⟩
 clear hn;obtain rfl:k=P.length:=O;obtain⟨ta,tc,rfl,htc,htrm,-,htf⟩:=hou.form;rw[List.length_map] at htc ⊢;refine sn ?_;refine sd (λg3=>absurd g3 O) (λ_=>?_);have hown5:∀x,w4.heap.size≤x→¬S.own s x:=λx hx h9=>by have:=hown4 x h9;omega
 have P0:Play w w2.heap.size pa ta P w5 s S ds:=by
  refine⟨A4.chg0 hc5,λd hd=>(hds d hd).1,hap,λd hd x hx=>⟨hown5 x ((hds d hd).2 x hx),by have:=(hds d hd).2 x hx;omega⟩,hpan.chg0 hc5,htrm,λb o ha hne h9=>?_,λb o ha hne=>?_,hci4.trans0 hc5,hz02⟩
  ·obtain⟨g9,e9,h8,-⟩:=hpf hne;rw[e9] at ha;cases ha;have:=hown4 _ h9;omega
  ·obtain⟨g9,e9,h8,-⟩:=htf hne;rw[e9] at ha;cases ha;exact hown5 _ h8
 have tw0:Gm P W ds:=by
  refine⟨hdl,λj d z hd hz=>?_⟩;obtain⟨f1,f2,f3⟩:=hfr j d z hd hz;have hzm:=List.mem_of_getElem? hz;have hid:z.1∈W.L.root.ids:=by rw[←hpi];exact List.mem_map.2 ⟨z,hzm,rfl⟩
  obtain⟨p,hp,hpe⟩:=List.mem_map.1 ((wok.has z.1).2 hid);obtain⟨n1,n2,n3⟩:=cut.nw W hWm p hp;obtain⟨s1,s2⟩:=hsz p hp z.2 (by rw[hpe];exact hzm);refine⟨p,hp,hpe,?_,n2.trans f1.symm,n3.trans f2.symm⟩;rw[n1,f3];congr 1<;>omega
 have m0:Mid X Y P (50000+((0:Nat):Int)) S W:=by
  have hws:S.wins=[W]:=by
   have h9:=cut.ns;cases hw:S.wins with
   | nil=>rw[hw] at h9;cases h9
   | cons V l =>
    rw[hw] at h9 hWm;cases l with
    | nil=>rw[List.mem_singleton.1 hWm]
    | cons U l=>simp at h9
  exact⟨cut.w,cut.h,cut.cur,cut.cop,cut.back,hws,hWn,hP,ok.mono O⟩
 refine Loop1.st (λq:Nat × Ss × Wn × List (Nat × Dt)=>.int .i64 (q.1:Int)) (λq w'=>q.1≤20∧q.1≤os.length∧Play w w2.heap.size pa ta P w' s q.2.1 q.2.2.2∧Gm P q.2.2.1 q.2.2.2∧Mid X Y P (50000+(q.1:Int)) q.2.1 q.2.2.1) (λq=>20-q.1) (0,S,W,ds) rfl ⟨Nat.zero_le _,Nat.zero_le _,P0,tw0,m0⟩ ?_;clear m0 tw0 P0 hfr hds hap hou htrm htf hsz cut ok wok hg hWm hWn wR wnew wn A A4 hown4 hown5 hpan hpf ho;rintro next ⟨i2,S1,W1,ds1⟩ w6 hn ⟨hi2,hio,pl,tw,mid⟩
 dsimp only at hi2 hio pl tw mid ⊢;refine sh (λv w'=>v=.bool (decide (i2<os.length∧i2<20))∧w'=w6) ?_ ?_
 ·refine sn ?_;refine sd (λg=>?_) (λg=>⟨sv O,rfl⟩);refine sn ?_;exact sw ⟨λh=>O,λh=>O⟩
 rintro v w7 ⟨rfl,rfl⟩;refine sd (λg4=>?_) (λg4=>?_)
 ·have hi':i2<os.length:=g4.1;obtain⟨bo,oo,rfl,hbo,hcell⟩:=(hs.chg0 pl.chg).get (m:=2) Np (rI hi');generalize os[i2]=o at *;simp only[DZ] at hcell;have c0:=CQ hcell 0 Z;have c1:=CQ hcell 1 Z;have n0:0<P.length:=O;have n16:P.length≤16:=O;have t1:=E1 o.1 P.length O;have t2:=E1 (o.1.tmod P.length+P.length) P.length O;have t3:=Int.tmod_nonneg (P.length:Int) (show 0≤o.1.tmod P.length+P.length by omega);obtain⟨Kx,hKx⟩:∃K:Nat,(o.1.tmod P.length+P.length).tmod P.length=(K:Int):=⟨((o.1.tmod P.length+P.length).tmod P.length).toNat,O⟩;rw[Nat.add_zero] at c0;refine sr c0 c1 ?_;refine sh (λv w'=>(∃l:List UInt8,v=.string (Aq l)∧l.length≤2000)∧w'=w7) ?_ ?_
  ·refine sn ?_;refine sd (λg=>?_) (λg=>?_)
   ·simp -dsimp (disch:=first|omega|(simp only[go_sem,seval];try omega))only[go_sem,seval,F2];exact⟨_,rfl,by rw[List.length_take];omega⟩
   ·exact⟨⟨o.2,rfl,O⟩,rfl⟩
  rintro v w8 ⟨⟨l,rfl,hl⟩,rfl⟩;have tw1:=tw.1;have hKl:Kx<P.length:=O;have hxe:P[Kx]?=some P[Kx]:=rI hKl;obtain⟨bq,oq,epa,hbq,hpc2⟩:=pl.pan.get (m:=5) DL hxe;subst epa;generalize P[Kx]=z at *;simp only[BV,Rc.cells] at hpc2;have q0:=CQ hpc2 0 Z;rw[Nat.add_zero] at q0;obtain⟨DA,t,T,DB,rfl,hDA⟩:∃DA t T DB,ds1=DA++(t,T)::DB∧DA.length=Kx:=by
   have hk9:Kx<ds1.length:=O;exact⟨ds1.take Kx,ds1[Kx].1,ds1[Kx].2,ds1.drop (Kx+1),by rw[List.getElem_cons_drop,List.take_append_drop],by rw[List.length_take];omega⟩
  subst hDA;obtain⟨p,hp,hpz,r1,r2,r3⟩:=tw.2 DA.length (t,T) z Z hxe;simp only[hKx];refine sq q0 ?_;rw[←hpz];have hbs:w2.heap.size≤w8.heap.size:=by have:=pl.ses.lt _ (.inl rfl);have:=pl.ses.los;omega
  refine td Kz rfl (iP pl.ses mid.ok hbs mid.get hp l hl) ?_;rintro v w9 ⟨q,bk,f1,-,-,f4,f5,f6,f7,ok9,A9,T9⟩;have pl9:=pl.turn A9 T9;obtain⟨bt,ot,eta,hbt,htc9⟩:=pl9.trm.get1 (g:=λt=>.pointer (some ⟨t,0,none⟩)) (λ_=>rfl) (i:=DA.length) (x:=t) Z;subst eta;have hdl2:ds.length=P.length:=hdl;simp only[hKx];refine sq htc9 ?_;refine td ZC rfl (aO (show DtAt w9 t 6 T from pl9.docs (t,T) Z) l O) ?_;rintro v w10 ⟨T',hT',k1,k2,k3,hc10,hb10⟩;have e1:(i2:Int)+1=((i2+1:Nat):Int):=O;refine sq e1 ?_;refine hn (i2+1,Eb S1 W1 q bk,{ W1 with pts:=Be W1.pts q },DA++(t,T')::DB) _ ⟨by dsimp only;omega,by dsimp only;omega,pl9.doc hT' hc10 hb10,tw.out hnd hxe hp hpz f1 (by rw[f4,k3,r1,r2,r3]) (by rw[f5,k1,r2]) (by rw[f6,k2,r2,r3]),mid.out f7 (ok9.mono (by dsimp only;omega))⟩ (by dsimp only;omega)
 clear hn hs;have hW1:=(Ss.get_mem mid.get).1;have hgc:S1.get S1.cur=some W1:=by rw[mid.cur];exact mid.get
 refine td ZX rfl (Zr pl.ses mid.ok 0 rC) ?_;rintro v w8 ⟨W2,ks,hg2,ks1,ks2,hG,hc8⟩;rw[hgc] at hg2;cases hg2;have pl8:=pl.chg0 hc8;have hf:=Yw mid.ok W1 (CE ks S1.cur S1.cop S1.back 0);have hpane:=λhV (z:Int × Rc) (hz:z∈W1.L.root.panes W1.L.R) (x y:Nat)=>@eu S1 _ mid.ok W1 hW1 (CE ks S1.cur S1.cop S1.back 0) hV z hz x y;generalize S1.grid W1 (CE ks S1.cur S1.cop S1.back 0)=G at *;obtain⟨nb,cp,rfl,g1,g2,g3,g4⟩:=hG.sx;simp -dsimp (disch:=first|omega|(simp only[go_sem,seval];try omega))only[go_sem,seval,Gr.val];have hw11:=Ar w8 (.cells #[.int .i64 G.w,.int .i64 G.h,.slice (some ⟨nb,0,none⟩) G.cs.length cp] 50);have a11:(w8.alloc (.cells #[.int .i64 G.w,.int .i64 G.h,.slice (some ⟨nb,0,none⟩) G.cs.length cp] 50)).heap[w8.heap.size]?=some (.cells #[.int .i64 G.w,.int .i64 G.h,.slice (some ⟨nb,0,none⟩) G.cs.length cp] 50):=by exact so
 have pl11:=pl8.chg0 hw11;have g11:=g4.chg0 hw11;generalize w8.alloc (.cells #[.int .i64 G.w,.int .i64 G.h,.slice (some ⟨nb,0,none⟩) G.cs.length cp] 50)=w11 at *;obtain⟨z19,hz19⟩:∃z19,z19=w8.heap.size:=⟨_,rfl⟩;rw[←hz19] at a11 ⊢;clear hw11 g4 pl8 hz19 hc8 pl;refine Loop1.st (λq:Nat=>.int .i64 (q:Int)) (λq w'=>q≤P.length∧Chg [] w11 w') (λq=>P.length-q) 0 rfl ⟨Nat.zero_le _,sg _ _⟩ ?_;rintro next8 i3 w12 hn8 ⟨hi3,hc12⟩;refine sn ?_;refine sd (λg5=>?_) (λg5=>?_)
 rotate_left
 ·exact hK _ _ ⟨rfl,pl11.chg.trans0 hc12⟩
 have e8:(i3:Int)+1=((i3+1:Nat):Int):=O;have pl12:=pl11.chg0 hc12;have a12:=hc12.keep a11 Z;have hi3':i3<P.length:=O;have hxe:P[i3]?=some P[i3]:=rI hi3';obtain⟨bq,oq,epa,hbq,hpc2⟩:=pl12.pan.get (m:=5) DL hxe;subst epa;have hzm:=rR hi3';generalize P[i3]=z at *;have tw1:=tw.1;obtain⟨d,hd⟩:∃d,ds1[i3]?=some d:=⟨_,rI O⟩;obtain⟨p,hp,hpz,r1,r2,r3⟩:=tw.2 i3 d z hd hxe;obtain⟨t,T⟩:=d;have hT:=pl12.docs _ (List.mem_of_getElem? hd);dsimp only at hT r1 r2 r3;obtain⟨bt,ot,eta,hbt,htc12⟩:=pl12.trm.get1 (g:=λt=>.pointer (some ⟨t,0,none⟩)) (λ_=>rfl) (i:=i3) (x:=t) (by rw[List.getElem?_map,hd];rfl);subst eta;have hrc:AT w12.heap[bq]? (oq+i3*5+1) 4=some #[.int .i64 z.2.x,.int .i64 z.2.y,.int .i64 z.2.w,.int .i64 z.2.h]:=by
  refine Cz (l:=[.int .i64 z.2.x,.int .i64 z.2.y,.int .i64 z.2.w,.int .i64 z.2.h]) rfl O λj hj=>?_;rw[Nat.add_assoc,CQ hpc2 (1+j) O]
  match j,hj with
  | 0,_=>rfl
  | 1,_=>rfl
  | 2,_=>rfl
  | 3,_=>rfl
 refine sq hrc ?_;have hw13:=Ar w12 (.cells #[.int .i64 z.2.x,.int .i64 z.2.y,.int .i64 z.2.w,.int .i64 z.2.h] 42);have a13:(w12.alloc (.cells #[.int .i64 z.2.x,.int .i64 z.2.y,.int .i64 z.2.w,.int .i64 z.2.h] 42)).heap[w12.heap.size]?=some (.cells #[.int .i64 z.2.x,.int .i64 z.2.y,.int .i64 z.2.w,.int .i64 z.2.h] 42):=by exact so
 have b13:=hw13.keep a12 Z;have hT13:=hT.chg0 hw13;have g13:=(g11.chg0 hc12).chg0 hw13;generalize w12.alloc (.cells #[.int .i64 z.2.x,.int .i64 z.2.y,.int .i64 z.2.w,.int .i64 z.2.h] 42)=w13 at *;have ht13:=hT13.hb;refine sr htc12 ht13 ?_;refine td Ce rfl (Cl hT13.scr) ?_;rintro v w14 ⟨rfl,hc14⟩;have hT14:=hT13.chg0 hc14;have a14:=hc14.keep a13 Z;have b14:=hc14.keep b13 Z;have g14:=g13.chg0 hc14;obtain⟨hcu,hcc⟩:=hT14.scr.cur;simp -dsimp (disch:=first|omega|(simp only[go_sem,seval];try omega))only[go_sem,seval,Gr.val];have hw15:=Ar w14 (.cells #[.int .i64 T.M.S.cur.w,.int .i64 T.M.S.cur.h,.slice (some ⟨T.M.cb,0,none⟩) T.M.S.cur.cs.length T.M.cc] 50);have c15:(w14.alloc (.cells #[.int .i64 T.M.S.cur.w,.int .i64 T.M.S.cur.h,.slice (some ⟨T.M.cb,0,none⟩) T.M.S.cur.cs.length T.M.cc] 50)).heap[w14.heap.size]?=some (.cells #[.int .i64 T.M.S.cur.w,.int .i64 T.M.S.cur.h,.slice (some ⟨T.M.cb,0,none⟩) T.M.S.cur.cs.length T.M.cc] 50):=by exact so
 have a15:=hw15.keep a14 Z;have b15:=hw15.keep b14 Z;have g15:=g14.chg0 hw15;have k15:=hcu.chg0 hw15;have hc15:Chg [] w12 (w14.alloc (.cells #[.int .i64 T.M.S.cur.w,.int .i64 T.M.S.cur.h,.slice (some ⟨T.M.cb,0,none⟩) T.M.S.cur.cs.length T.M.cc] 50)):=(hw13.trans0 hc14).trans0 hw15;generalize w14.alloc (.cells #[.int .i64 T.M.S.cur.w,.int .i64 T.M.S.cur.h,.slice (some ⟨T.M.cb,0,none⟩) T.M.S.cur.cs.length T.M.cc] 50)=w15 at *;have hzp:z∈W1.L.root.panes W1.L.R:=by rw[mid.pan];exact hzm
 obtain⟨wok1,-,-,-⟩:=mid.ok.win W1 hW1;have hV:∀q∈W1.L.root.panes W1.L.R,(W1.viewAt (S1.backOf S1.cur W1) q.1).fit q.2.w.toNat q.2.h.toNat:=λq hq=>by
  have hid:q.1∈W1.L.root.ids:=by rw[←Mt.panes_ids W1.L.root W1.L.R];exact List.mem_map.2 ⟨q,hq,rfl⟩
  obtain⟨p',hp',e'⟩:=List.mem_map.1 ((wok1.has q.1).2 hid);obtain⟨v1,v2⟩:=SZ pl12.ses mid.ok hW1 mid.back hq hp' e';rw[v1];exact v2
 obtain⟨v1,v2⟩:=SZ pl12.ses mid.ok hW1 mid.back hzp hp hpz;have hat:=λx y=>hpane hV z hzp x y;rw[v1,r1] at hat;rw[r1] at v2;clear hV hpane;obtain⟨zr,-⟩:=hpk z hzm;have z0:=zr.x0;have z1:=zr.y0;have z2:=zr.w0;have z3:=zr.h0;have z4:=zr.xw;have z5:=zr.yh;have hin:=Mt.panes_ok wok1.lay.fits wok1.lay.R z hzp;have hWR:=(mid.ok.win W1 hW1).2.1;rw[hWR] at hin;have i1:=hin.2.c;have i2':=hin.2.d;dsimp only at i1 i2';have fw:=hf.w;have fh:=hf.h;have tw2:=v2.w;have th2:=v2.h;refine Loop1.st (λq:Nat=>.int .i64 (q:Int)) (λq w'=>q≤z.2.h.toNat∧Chg [] w15 w') (λq=>z.2.h.toNat-q) 0 rfl ⟨Nat.zero_le _,sg _ _⟩ ?_;rintro next9 yy w16 hn9 ⟨hyy,hc16⟩;have a16:=hc16.keep a15 Z;have e9:(yy:Int)+1=((yy+1:Nat):Int):=O;refine sq a16 ?_;refine sd (λg6=>?_) (λg6=>?_)
 rotate_left
 ·refine sq e8 ?_;exact hn8 (i3+1) _ ⟨O,(hc12.trans0 hc15).trans0 hc16⟩ O
 refine Loop1.st (λq:Nat=>.int .i64 (q:Int)) (λq w'=>q≤z.2.w.toNat∧Chg [] w15 w') (λq=>z.2.w.toNat-q) 0 rfl ⟨Nat.zero_le _,hc16⟩ ?_;rintro next10 xx w17 hn10 ⟨hxx,hc17⟩;have a17:=hc17.keep a15 Z;have e10:(xx:Int)+1=((xx+1:Nat):Int):=O;refine sq a17 ?_;refine sd (λg7=>?_) (λg7=>?_)
 rotate_left
 ·refine sq e9 ?_;exact hn9 (yy+1) _ ⟨O,hc17⟩ O
 refine(show ∀X:World→Prop,X w17.drew→Ag X w17 from λ_ h=>h) _ ?_;have hc18:=hc17.drew;generalize w17.drew=w18 at *;have a18:=hc18.keep a15 Z;have b18:=hc18.keep b15 Z;have c18:=hc18.keep c15 Z;have g18:=g15.chg0 hc18;obtain⟨Px,hPx⟩:∃Px:Nat,z.2.x+(xx:Int)=(Px:Int):=⟨(z.2.x+xx).toNat,O⟩;obtain⟨Py,hPy⟩:∃Py:Nat,z.2.y+(yy:Int)=(Py:Int):=⟨(z.2.y+yy).toNat,O⟩;have hat2:=hat xx yy O O;rw[show z.2.x.toNat+xx=Px by omega,show z.2.y.toNat+yy=Py by omega] at hat2;have ha1:=Rh (x:=Px) (y:=(Py:Int)) hf.ok g18 cp g1 O O;rw[rG O,Int.toNat_natCast,hat2] at ha1;simp only[Gr.val] at ha1;refine LX3 a18 b18 c18 ?_;rw[hPx,hPy];refine td RW rfl (ha1) ?_;rintro v w19 ⟨rfl,hc19⟩;have c19:=hc19.keep c18 Z;have k19:=(k15.chg0 hc18).chg0 hc19;have ha2:=Rh (x:=xx) (y:=(yy:Int)) v2.ok k19 T.M.cc hcc O O;rw[rG O,Int.toNat_natCast] at ha2;simp only[Gr.val] at ha2;refine sq c19 ?_;refine td RW rfl (ha2) ?_;rintro v w20 ⟨rfl,hc20⟩;refine sq e10 ?_;exact hn10 (xx+1) _ ⟨O,(hc18.trans0 hc19).trans0 hc20⟩ O
end Go.Proofs.YtnpkidnbhlepkaaGreat
namespace Go.Proofs.YtnpkidnbhlepkaaGreat
open Lyc Go Go.Joins Go.ChangeShapes Go.WideShapes Go.ChangeAt Go.RowKit Go.Deep Go.Proofs.Tryz
set_option maxRecDepth 100000
theorem own:ownKnob Tryz.prog.godebug=none:=by kernel_rfl
theorem Ye:laidOutB Tryz.prog=true:=by kernel_rfl
theorem Xj {H:Type} {enc:TypeId × Value→H} {w:World} {base b0:Nat} {spare:Nat→Bool} {held:Bool} {v:Value} {d:DataW H} {p:List MemPlace} (hv:Value.okWide Tryz.prog w .any b0 23 v) (h:DataW.Trod enc Tryz.prog w base spare held 23 v d p):∃x y:Int,v=.agg #[.int .i64 x,.int .i64 y]:=by
 obtain⟨x0,x1,y0,y1,n,rfl,-,-,t0,t1⟩:=open_agg2 Tryz.underlying23 (by kernel_rfl) (by kernel_rfl) hv h
 obtain⟨k0,e0,-,-⟩:=DataW.trod_int Tryz.underlying3 t0
 obtain⟨k1,e1,-,-⟩:=DataW.trod_int Tryz.underlying3 t1
 cases e0;cases e1
 exact⟨k0,k1,rfl⟩
theorem XN {H:Type} {enc:TypeId × Value→H} {w:World} {base:Nat} {spare:Nat→Bool} {held:Bool} (n:Nat) (cs:List Value) (y:DataW H × List MemPlace) (h:DataW.trod enc Tryz.prog w base spare held n 46 cs=some y):∃o:Int × List UInt8,cs=DZ o∧True:=by
 have hlen:cs.length=2:=by
  obtain⟨-,-,-,-,hl,-⟩:=DataW.trod_struct Tryz.underlying46 h
  rw[hl];kernel_rfl
 obtain⟨_,_,f0⟩:=Lm Tryz.underlying46 h 0 _ rfl (ft:=3) (off:=0) (sz:=1) rfl rfl (by kernel_rfl)
 obtain⟨_,_,f1⟩:=Lm Tryz.underlying46 h 1 _ rfl (ft:=9) (off:=1) (sz:=1) rfl rfl (by kernel_rfl)
 obtain⟨k0,e0,-,-⟩:=WO Tryz.underlying3 f0
 obtain⟨s1,e1,-,-⟩:=DataW.trod_string Tryz.underlying9 f1
 refine⟨(k0,s1.toList),?_,trivial⟩
 have s:=Qn e0
 rw[List.drop_zero,Qn e1,List.drop_eq_nil_of_le (by omega)] at s
 rw[s]
 unfold DZ
 rw[cf]
 rfl
theorem iY {H:Type} {enc:TypeId × Value→H} {w:World} {base b0:Nat} {spare:Nat→Bool} {held:Bool} {v:Value} {d:DataW H} {p:List MemPlace} (hv:Value.okWide Tryz.prog w .any b0 24 v) (h:DataW.Trod enc Tryz.prog w base spare held 24 v d p) :
  ∃(a:Option Addr) (l:List (Int × List UInt8)) (cap:Nat),v=.slice a l.length cap∧Sx w none DZ a l∧l.length≤maxLen:=by
 obtain⟨a,l,cap,rfl,hs,-,hm,-⟩:=ib (m:=2) DZ (fun _=>True) Tryz.underlying24 (by kernel_rfl) (by omega) Np (fun n cs y h=>XN n cs y h) hv h
 exact⟨a,l,cap,rfl,hs,hm⟩
end Go.Proofs.YtnpkidnbhlepkaaGreat
