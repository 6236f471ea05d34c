/- Helpers of this claim, part 2: engine, translated functions, contracts, plain laws. -/
import Derived.Test.YtnpkidnbhlepkaaGreatB1
import Derived.Test.YtnpkidnbhlepkaaGreatB0
set_option linter.unusedSimpArgs false
set_option linter.unusedVariables false
namespace Go.Proofs.YtnpkidnbhlepkaaGreat
open Lyc Go Go.Proofs.Tryz
def DP(l:List (Int × Int × Int)):List Value:=l.flatMap λs=>[.int .i32 s.1,.int .i32 s.2.1,.int .i64 s.2.2]
theorem V6(l:List (Int × Int × Int))(i:Nat)(s:Int × Int × Int)(h:l[i]?=some s):((DP l).toArray).extract (i*3) (i*3+3)=#[.int .i32 s.1,.int .i32 s.2.1,.int .i64 s.2.2]:=by
 obtain⟨a,b,c,d⟩:=Iu (f:=λs:Int × Int × Int=>[Value.int .i32 s.1,.int .i32 s.2.1,.int .i64 s.2.2]) (m:=3) (λ_=>rfl) l i s h;have:=J3 a [Value.int .i32 s.1,.int .i32 s.2.1,.int .i64 s.2.2] b 0 (0,0) (i*3) 3 d rfl;rw[Fe] at this;have e:DP l=a++[Value.int .i32 s.1,.int .i32 s.2.1,.int .i64 s.2.2]++b:=c;rw[e];split at this
 ·simpa using this
 ·simp at this
theorem HH(w:World)(r:Int):Calls prog 194 #[.int .i32 r] w (Ac λv w'=>v=.int .i64 (AN r)∧Chg [] w w'):=by
 apply aW;intro K hK;unfold O6;refine OpX.build (c:=#[.int .i32 127,.int .i32 159,.int .i64 0]) (by kernel_rfl) ?_;refine OpX.build (c:=#[.int .i32 768,.int .i32 879,.int .i64 0]) (by kernel_rfl) ?_;refine OpX.build (c:=#[.int .i32 8203,.int .i32 8207,.int .i64 0]) (by kernel_rfl) ?_;refine OpX.build (c:=#[.int .i32 55296,.int .i32 57343,.int .i64 0]) (by kernel_rfl) ?_;refine OpX.build (c:=#[.int .i32 65024,.int .i32 65039,.int .i64 0]) (by kernel_rfl) ?_;refine OpX.build (c:=#[.int .i32 4352,.int .i32 4447,.int .i64 2]) (by kernel_rfl) ?_;refine OpX.build (c:=#[.int .i32 11904,.int .i32 12350,.int .i64 2]) (by kernel_rfl) ?_;refine OpX.build (c:=#[.int .i32 12353,.int .i32 42191,.int .i64 2]) (by kernel_rfl) ?_;refine OpX.build (c:=#[.int .i32 44032,.int .i32 55203,.int .i64 2]) (by kernel_rfl) ?_;refine OpX.build (c:=#[.int .i32 63744,.int .i32 64255,.int .i64 2]) (by kernel_rfl) ?_;refine OpX.build (c:=#[.int .i32 65072,.int .i32 65135,.int .i64 2]) (by kernel_rfl) ?_;refine OpX.build (c:=#[.int .i32 65281,.int .i32 65376,.int .i64 2]) (by kernel_rfl) ?_;refine OpX.build (c:=#[.int .i32 65504,.int .i32 65510,.int .i64 2]) (by kernel_rfl) ?_;refine OpX.build (c:=#[.int .i32 127744,.int .i32 128591,.int .i64 2]) (by kernel_rfl) ?_;refine OpX.build (c:=#[.int .i32 129280,.int .i32 129535,.int .i64 2]) (by kernel_rfl) ?_;refine OpX.build (c:=#[.int .i32 131072,.int .i32 262141,.int .i64 2]) (by kernel_rfl) ?_;refine OpX.build (c:=(DP BE).toArray) (by kernel_rfl) ?_;refine OpX.fresh (z:=_) cj (by kernel_rfl) (by kernel_rfl) (by kernel_rfl) ?_;refine Join1.inl ?_;refine sn ?_;have hc0:=(sg [] w).alloc (.cells (Value.agg (DP BE).toArray).cells 297);refine sd (λh=>?_) (λh=>?_)
 ·refine sn ?_;exact hK _ _ ⟨by simp [AN,h],hc0⟩
 ·refine sn ?_;refine sd (λh2=>?_) (λh2=>?_)
  ·exact hK _ _ ⟨by simp [AN,h2],hc0⟩
  ·refine sn ?_;refine sd (λh3=>?_) (λh3=>?_)
   ·exact hK _ _ ⟨by simp [AN,h,h2,h3],hc0⟩
   ·have hld:AT ((w.alloc (.cells (DP BE).toArray 297)).heap[w.heap.size]?) 0 48=some (DP BE).toArray:=by
     rw[Lyc.heap_alloc_new _ _ _ rfl];exact J3 [] (DP BE) [] _ _ 0 48 rfl (by kernel_rfl)
    rw[xL,jw _ _ _ _ _ _ Gu.2.2.2.1,Gu.2.2.2.2.2.1,Option.bind_some,hld,Dz];refine Loop1.st (λk:Nat=>.int .i64 k) (λk w'=>Chg [] w w'∧k≤16∧Ch BE r=Ch (BE.drop k) r) (λk=>16-k) 0 rfl ⟨hc0,O,rfl⟩ ?_;rintro next k w' hn ⟨hc,hk,he⟩
    refine sn ?_;refine sd (λh4=>?_) (λh4=>?_)
    ·have hk':k<16:=O;have hs:BE[k]?=some (BE[k]'hk'):=rI hk';have hd:BE.drop k=BE[k]'hk'::BE.drop (k+1):=List.drop_eq_getElem_cons hk';rw[hd] at he;generalize BE[k]'hk'=s at hs he;have hi:En prog 297 (DP BE).toArray k=some (.agg #[.int .i32 s.1,.int .i32 s.2.1,.int .i64 s.2.2]):=by
      have:=V6 _ _ _ hs;simp [En,DI,Gu.2.2.2.2.2.2.1,Gu.2.2.2.2.1,Tl.2.2.2.1,Tl.2.1,h4];exact⟨hk',by simpa using this⟩
     refine sq hi ?_;have hc1:=hc.alloc (.cells #[.int .i32 s.1,.int .i32 s.2.1,.int .i64 s.2.2] 296);refine Join1.inl ?_;refine sn ?_;refine sd (λh5=>?_) (λh5=>?_)
     ·refine sn ?_;refine sd (λh6=>?_) (λh6=>?_)
      ·refine sn ?_;refine hK _ _ ⟨?_,hc1⟩;simp [AN,h,h2,h3,he,Ch,h5,h6]
      ·refine sn ?_;refine hn (k+1) _ ⟨hc1,O,?_⟩ O;rw[he];simp [Ch,h6]
     ·refine sn ?_;refine hn (k+1) _ ⟨hc1,O,?_⟩ O;rw[he];simp [Ch,h5]
    ·have hk':k=16:=O;subst hk';refine hK _ _ ⟨?_,hc⟩;simp [AN,h,h2,h3,he];simp [BE,Ch]
theorem Kk(w:World)(c:Cel):Calls prog 151 #[c.val] w (Ac λv w'=>v=.bool c.check∧Chg [] w w'):=by
 apply X9;intro K hK;unfold Qf;refine sn ?_;have hc1:=((sg [] w).alloc (.cells c.cells.toArray 60)).drew;refine sd (λh=>?_) (λh=>?_)
 ·refine Join1.inl ?_;refine sn ?_;refine sd (λh2=>?_) (λh2=>?_)
  ·refine sn ?_;refine hK _ _ ⟨?_,hc1⟩;simp [Cel.check,Cel.tail,Cel.wide,h,h2]
  ·refine sn ?_;refine hK _ _ ⟨?_,hc1⟩;simp [Cel.check,Cel.tail,Cel.wide,h,h2]
 ·refine sn ?_;refine sd (λh2=>?_) (λh2=>?_)
  ·refine sn ?_;refine td G3 rfl (HH _ c.r) ?_;rintro v w1 ⟨rfl,hc2⟩;refine sn ?_;refine hK _ _ ⟨?_,hc1.trans0 hc2⟩;simp [Cel.check,Cel.tail,Cel.wide,h,h2]
  ·refine sn ?_;refine td G3 rfl (HH _ c.r) ?_;rintro v w1 ⟨rfl,hc2⟩;refine sn ?_;refine hK _ _ ⟨?_,hc1.trans0 hc2⟩;simp [Cel.check,Cel.tail,Cel.wide,h,h2]
theorem ND(w:World)(c:Cel):Calls prog 228 #[c.val] w (Ac λv a=>v=c.tailOf.val∧Chg [] w a):=by
 apply dh;intro K b;unfold Qo;refine sn ?_;exact b _ _ ⟨rfl,((sg [] w).alloc _).alloc _⟩
theorem Om(w:World)(c:Cel):Calls prog 188 #[c.val] w (Ac λv a=>v=.bool c.single∧Chg [] w a):=by
 apply U1;intro K b;unfold NY;refine sn ?_;have d:=(sg [] w).alloc (.cells c.cells.toArray 60);refine Join1.inl ?_;refine sn ?_;refine sd (λh=>?_) (λh=>?_)
 ·refine sn ?_;refine td I1 rfl (Kk _ c) ?_;rintro v e ⟨rfl,f⟩;refine b _ _ ⟨?_,d.trans0 f⟩;simp [Cel.single,Cel.plain,h]
 ·refine sn ?_;refine b _ _ ⟨?_,d⟩;simp [Cel.single,Cel.plain,h]
theorem Ej(w:World):Calls prog 35 #[] w (Ac λv a=>v=Cel.blank.val∧Chg [] w a):=by
 apply ja;intro K b;unfold LN;refine sn ?_;exact b _ _ ⟨rfl,(sg [] w).alloc _⟩
theorem Mu{w:World}{e:Option TypeId}{a:Option Addr}{l:List Cel}(hs:SxC w e a l)(cap x:Nat)(hx:x<l.length)(hl:l.length≤1000000000):Calls prog 187 #[.slice a l.length cap,.int .i64 x] w (Ac λv w'=>v=.bool (AD l x)∧Chg [] w w'):=by
 obtain⟨b,o,rfl,hb,h1,-⟩:=SxC.cel hs (rI hx);have hp:AD l x=match l[x+1]? with|some d=>Bs l[x] d|none=>false:=by
  unfold AD;rw[rI hx];cases l[x+1]?<;>rfl
 rw[hp];generalize l[x]=c at h1 ⊢;apply fH;intro K hK;unfold Ou;refine sq h1 ?_;have hc1:=((sg [] w).alloc (.cells c.cells.toArray 60)).drew;refine Join1.inl ?_;refine sn ?_;refine sd (λh=>?_) (λh=>?_)
 ·refine sn ?_;refine td I1 rfl (Kk _ c) ?_;rintro v w1 ⟨rfl,hc2⟩;have hc3:=hc1.trans0 hc2;refine BrW.by (λh2=>?_) (λh2=>?_)
  ·refine sn ?_;refine sd (λh3=>?_) (λh3=>?_)
   ·have hx':x+1<l.length:=O;have hs1:=hs.chg0 hc3;obtain⟨b',o',he,hb',h4,-⟩:=SxC.cel hs1 (rI hx');cases he;have h1':=hc2.keep (b:=w.heap.size) (o:=.cells c.cells.toArray 60) (by exact so) Z;rw[rI hx'] at hK;dsimp only at hK;generalize l[x+1]=d at h4 hK;have h4':AT w1.heap[b]? (o+((x:Int)+1).toNat*4) 4=some #[.int .i32 d.r,.int .u8 d.fg.toNat,.int .u8 d.bg.toNat,.int .u8 d.a.toNat]:=h4;refine sr h4' h1' ?_;refine td Sw rfl (ND _ c) ?_;rintro v w2 ⟨rfl,hc4⟩;have h5:AT w2.heap[b]? (o+((x:Int)+1).toNat*4) 4=some #[.int .i32 d.r,.int .u8 d.fg.toNat,.int .u8 d.bg.toNat,.int .u8 d.a.toNat]:=by rw[hc4.same b hb' Z];exact h4'
    simp -dsimp (disch:=first|omega|(simp only[go_sem,seval];try omega))only[go_sem,seval,h5,Cel.tailOf];refine hK _ _ ⟨?_,hc3.trans0 hc4⟩;rw[Bs,h2,Cel.wide,QU];simp [h,Cel.tailOf];rfl
   ·refine sn ?_;refine hK _ _ ⟨?_,hc3⟩;rw[List.getElem?_eq_none O]
  ·refine sn ?_;refine hK _ _ ⟨?_,hc3⟩;cases l[x+1]?<;>simp [Bs,h2]
 ·refine sn ?_;refine hK _ _ ⟨?_,hc1⟩;cases l[x+1]?<;>simp [Bs,Cel.wide,h]
theorem fi{w:World}{e:Option TypeId}{a:Option Addr}{l:List Cel}(hs:SxC w e a l)(cap:Nat)(hl:l.length≤1000000000):Calls prog 144 #[.slice a l.length cap] w (Ac λv w'=>v=.bool (right l)∧Chg [] w w'):=by
 apply Y2;intro K hK;unfold Sn;refine Loop1.st (λk:Nat=>.int .i64 k) (λk w'=>Chg [] w w'∧k≤l.length∧right l=right (l.drop k)) (λk=>l.length-k) 0 rfl ⟨sg _ _,O,rfl⟩ ?_;rintro next k w' hn ⟨hc,hk,he⟩
 refine sn ?_;refine sd (λh1=>?_) (λh1=>?_)
 ·have hk':k<l.length:=O;have hst:=bh hk';have hs':=hs.chg0 hc;refine td MB rfl (Mu hs' cap k hk' hl) ?_;rintro v w1 ⟨rfl,hc1⟩;refine BrW.by (λh2=>?_) (λh2=>?_)
  ·have:=H8 h2;refine sn ?_;refine hn (k+2) _ ⟨hc.trans0 hc1,O,?_⟩ O;rw[he,hst,h2];rfl
  ·obtain⟨b,o,rfl,hb,h3,-⟩:=SxC.cel (hs.chg0 (hc.trans0 hc1)) (rI hk');refine sq h3 ?_;refine td NO rfl (Om _ l[k]) ?_;rintro v w2 ⟨rfl,hc2⟩;rw[h2] at hst;simp only[Bool.false_eq_true,if_false] at hst;refine sn ?_;refine BrW.by (λh4=>?_) (λh4=>?_)
   ·refine hK _ _ ⟨?_,(hc.trans0 hc1).trans0 hc2⟩;rw[he,hst];simp at h4;simp [h4]
   ·refine sn ?_;refine hn (k+1) _ ⟨(hc.trans0 hc1).trans0 hc2,O,?_⟩ O;rw[he,hst];simp at h4;simp [h4]
 ·have hk':k=l.length:=O;refine hK _ _ ⟨?_,hc⟩;rw[he,hk'];simp [right]
theorem IH{w:World}{e:Option TypeId}{a:Option Addr}{l:List Cel}(hs:SxC w e a l)(cap:Nat)(hl:l.length≤100000):Calls prog 146 #[.slice a l.length cap] w (Ac λv w'=>Ox w.heap.size w' 60 4 Cel.cells v (Au l)∧Chg [] w w'):=by
 apply gY;intro K hK;unfold RU;refine sn ?_;refine DJ (f:=Cel.cells) ⟨0,0,0,0⟩ Fp Cel.len rfl hl O O (rH _) ?_;intro w1 hw1 ho1;have hc1:Chg [] w w1:=by rw[hw1];exact(sg _ _).alloc _
 refine TX (t:=48) DC Cel.len Cel.ok ho1 (hs.chg0 hc1) rfl Z ?_;intro w2 ho2 hc3;have hc2:=C2 ho1 hc1 hc3;clear hw1 ho1 hc1 hc3 w1;refine Loop1.st (λs:Nat × List Cel=>.int .i64 s.1) (λs w'=>Chg [] w w'∧Ox w.heap.size w' 60 4 Cel.cells (.slice (some ⟨w.heap.size,0,none⟩) l.length l.length) s.2∧s.1≤l.length∧Au l=s.2.take s.1++Au (l.drop s.1)∧s.2.drop s.1=l.drop s.1∧s.2.length=l.length) (λs=>l.length-s.1) (0,l) rfl ⟨hc2,ho2,Z,rfl,rfl,rfl⟩ ?_;rintro next ⟨k,out⟩ w' hn ⟨hc,ho,hk,he,hd,hlen⟩
 dsimp only at ho hk he hd hlen ⊢;refine sn ?_;refine sd (λh1=>?_) (λh1=>?_)
 ·have hk':k<l.length:=O;have hst:=YV hk';refine td MB rfl (Mu (hs.chg0 hc) cap k hk' O) ?_;rintro v w1 ⟨rfl,hc1⟩;have hc1':=hc.trans0 hc1;have ho1:=ho.chg0 hc1;refine BrW.by (λh2=>?_) (λh2=>?_)
  ·have:=H8 h2;refine sn ?_;refine hn (k+2,out) _ ⟨hc1',ho1,by dsimp only;omega,?_,?_,hlen⟩ (by dsimp only;omega)
   ·dsimp only;rw[he,hst,h2,←hd,rG rfl,←rJ,←List.take_add]
   ·have:=congrArg (List.drop 2) hd;simpa [List.drop_drop] using this
  ·rw[h2] at hst;simp only[Bool.false_eq_true,if_false] at hst;obtain⟨b,o,rfl,hb,h3,h4,h5,h6,h7⟩:=SxC.cel (hs.chg0 hc1') (rI hk');refine sq h3 ?_;refine td NO rfl (Om _ l[k]) ?_;rintro v w2 ⟨rfl,hc2⟩;have hc2':=hc1'.trans0 hc2;have ho2:=ho1.chg0 hc2;refine sn ?_;have hout:out[k]?=some l[k]:=by
    have:=congrArg (·[0]?) hd;simpa [List.getElem?_drop,hk'] using this
   refine BrW.by (λh8=>?_) (λh8=>?_)
   ·obtain⟨b',o',he',hb',h3,h4,h5,h6,h7⟩:=SxC.cel (hs.chg0 hc2') (rI hk');cases he';have hko:k<out.length:=O;obtain⟨g,cp,x',hv,hg,hgl,hput,ho3⟩:=ho2.put Cel.len hko ⟨32,l[k].fg,l[k].bg,0⟩;have hv':=hv;rw[Value.slice.injEq] at hv';obtain⟨hv1,-,-⟩:=hv';cases hv1;have hput':Ao w2.heap[w.heap.size]? (k*4) [.int .i32 32,.int .u8 l[k].fg.toNat,.int .u8 l[k].bg.toNat,.int .u8 0]=some x':=hput;refine LX3 h5 h6 hput' ?_;refine hn (k+1,out.set k ⟨32,l[k].fg,l[k].bg,0⟩) _ ⟨(hc2'.set w.heap.size x' (.inr (rH _))).drew,ho3.chg0 (sg _ _).drew,by dsimp only;omega,?_,?_,by simpa using hlen⟩ (by dsimp only;omega)
    ·dsimp only;rw[he,hst,List.take_add_one,List.take_set_of_le (rH _),List.getElem?_set_self hko];simp at h8;simp [Cel.fix,h8]
    ·dsimp only;rw[List.drop_set_of_lt O];have:=congrArg (List.drop 1) hd;simpa [List.drop_drop] using this
   ·refine sn ?_;refine hn (k+1,out) _ ⟨hc2',ho2,by dsimp only;omega,?_,?_,hlen⟩ (by dsimp only;omega)
    ·dsimp only;rw[he,hst,List.take_add_one,hout];simp at h8;simp [Cel.fix,h8]
    ·have:=congrArg (List.drop 1) hd;simpa [List.drop_drop] using this
 ·have hk':k=l.length:=O;subst hk';refine hK _ _ ⟨?_,hc⟩;rw[he];simpa [Au,List.take_of_length_le (Nat.le_of_eq hlen)] using ho
structure Rw where
 a:Option Addr
 cap:Nat
 cs:List Cel
def Rw.f(r:Rw):List Value:=[.slice r.a r.cs.length r.cap]
def Rw.val(r:Rw):Value:=.slice r.a r.cs.length r.cap
theorem Rw.len(r:Rw):r.f.length=1:=rfl
theorem Rw.ok(r:Rw):AV r.f=true:=rfl
structure Hs where
 room:Nat
 first:Nat
 a:Option Addr
 cap:Nat
 all:List Rw
def Hs.v(H:Hs):Value:=.slice H.a H.all.length H.cap
def rot{α:Type}(n:Nat)(l:List α):List α:=l.drop n++l.take n
def Hs.list(H:Hs):List (List Cel):=(rot H.first H.all).map Rw.cs
def Hs.blk(H:Hs):List Nat:=H.v.ownBlock.toList
structure HAt (w:World) (h:Nat) (H:Hs):Prop where
 hb:w.heap[h]?=some (.cells #[.int .i64 H.room,.int .i64 H.first,H.v] 251)
 own:Ox 0 w 48 1 Rw.f H.v H.all
 rows:∀r∈H.all,SxC w (some 60) r.a r.cs
 room1:H.room≤500
 fit:H.all.length≤H.room
 first1:H.first=0∨H.first<H.room
 first0:H.all.length<H.room→H.first=0
theorem Zs{α:Type}(n:Nat)(l:List α):(rot n l).length=l.length:=by
 unfold rot;simp;omega
theorem Hs.list_len(H:Hs):H.list.length=H.all.length:=by simp [Hs.list,Zs]
theorem dM{α:Type}{n:Nat}{l:List α}(a:n<l.length)(i:Nat)(b:i<l.length):(rot n l)[i]?=l[(n+i) % l.length]?:=by
 unfold rot;by_cases h:n+i<l.length
 ·rw[Nat.mod_eq_of_lt h,rL (by simp;omega),List.getElem?_drop]
 ·rw[rK (by simp;omega),List.getElem?_take,rG (by simp;omega)];congr 1;simp;rw[Nat.mod_eq_sub_mod O,Nat.mod_eq_of_lt O];omega
theorem bA {α:Type} {n:Nat} {l:List α} (hn:n<l.length) (x:α):rot ((n+1) % l.length) (l.set n x)=(rot n l).tail++[x]:=by
 have hd:l.drop n=l[n]::l.drop (n+1):=List.drop_eq_getElem_cons hn
 have ht:(rot n l).tail=l.drop (n+1)++l.take n:=by unfold rot;rw[hd];rfl
 rw[ht]
 unfold rot
 by_cases h:n+1<l.length
 ·rw[Nat.mod_eq_of_lt h,List.drop_set_of_lt (by omega),List.take_add_one,List.take_set_of_le (Nat.le_refl _),List.getElem?_set_self hn]
  simp
 ·have:n+1=l.length:=by omega
  rw[this,Nat.mod_self,List.drop_eq_nil_of_le (Nat.le_refl _)]
  simp only[List.drop_zero,List.take_zero,List.append_nil,List.nil_append]
  have e:l=l.take n++[l[n]]:=by
   have:=List.take_append_drop n l
   rw[hd,List.drop_eq_nil_of_le (by omega:l.length≤n+1)] at this
   exact this.symm
  conv=>lhs;rw[e]
  rw[List.set_append_right _ _ (by simp;omega)]
  have h0:n-(l.take n).length=0:=by simp;omega
  rw[h0];simp
def Dq(a:Nat)(l:List (List Cel))(x:List Cel):List (List Cel):=if a=0 then l else if l.length<a then l++[x] else l.tail++[x]
theorem HAt.tags{w:World}{h:Nat}{H:Hs}(a:HAt w h H):∀x∈h::H.blk,∃c b d,w.heap[x]?=some (.cells c b d)∧Nat.beq b 60=false:=by
 intro x e;rcases rM.1 e with rfl|e
 ·exact⟨_,_,_,a.hb,rfl⟩
 ·obtain⟨f,i⟩:=a.own;rcases i with ⟨j,-⟩|⟨g,k,l,j,-,m,-⟩
  ·rw[Hs.blk,j] at e;simp [Value.ownBlock] at e
  ·rw[Hs.blk,j] at e;simp [Value.ownBlock] at e;subst e;exact⟨_,_,_,m,rfl⟩
theorem HAt.blk_lt{w:World}{h:Nat}{H:Hs}(a:HAt w h H):∀x∈h::H.blk,x<w.heap.size:=by
 intro x b;obtain⟨c,e,d,f,-⟩:=a.tags x b;exact Aa f
theorem HAt.keeps{w w':World}{h:Nat}{H:Hs}(d:HAt w h H)(f:Chg (h::H.blk) w w'){a:Option Addr}{l:List Cel}(g:SxC w (some 60) a l):SxC w' (some 60) a l:=by
 refine g.chg f λb o i j k=>?_;obtain⟨c,e,m,n,p⟩:=d.tags b k;exact g.ne i j n p rfl
theorem HAt.ne{w:World}{h:Nat}{H:Hs}(a:HAt w h H):h∉H.blk:=by
 intro b;obtain⟨c,d⟩:=a.own;rcases d with ⟨e,-⟩|⟨g,f,i,e,-,j,-⟩
 ·rw[Hs.blk,e] at b;simp [Value.ownBlock] at b
 ·rw[Hs.blk,e] at b;simp [Value.ownBlock] at b;subst b;rw[a.hb] at j;simp at j
theorem HAt.chg{w w':World}{h:Nat}{H:Hs}{F:List Nat}(a:HAt w h H)(c:Chg F w w')(d:∀x∈h::H.blk,x∉F)(e:∀r∈H.all,∀b o,r.a=some ⟨b,o,none⟩→r.cs≠[]→b∉F):HAt w' h H:=
 ⟨c.keep a.hb (d h Z),a.own.chg c λb f=>d b (by simp [Hs.blk,←f]),λr g=>(a.rows r g).chg c (e r g),a.room1,a.fit,a.first1,a.first0⟩
theorem HAt.chg0{w w':World}{h:Nat}{H:Hs}(a:HAt w h H)(b:Chg [] w w'):HAt w' h H:=a.chg b Z Z
theorem X6(w:World)(a:Int):Calls prog 157 #[.int .i64 a] w (Ac λv b=>∃H,v=.pointer (some ⟨w.heap.size,0,none⟩)∧HAt b w.heap.size H∧H.blk=[]∧H.list=[]∧H.room=(min (max a 0) 500).toNat∧Chg [] w b):=by
 apply kA;intro K c;unfold Qt;refine sn ?_;refine c _ _ ⟨⟨(min (max a 0) 500).toNat,0,none,0,[]⟩,rfl,⟨?_,Ox.nil _ _ _ _ _,Z,by dsimp only;omega,Z,.inl rfl,λ_=>rfl⟩,rfl,rfl,rfl,?_⟩
 ·have:(((min (max a 0) 500).toNat:Nat):Int)=min (max a 0) 500:=O;refine sq this ?_;rfl
 ·exact(sg [] w).alloc _
theorem X5{w:World}{h:Nat}{H:Hs}(a:HAt w h H):Calls prog 223 #[.pointer (some ⟨h,0,none⟩)] w (Ac λv b=>v=.int .i64 H.list.length∧b=w):=by
 have c:=a.hb;apply eF;intro K d;unfold Nk;simp -dsimp (disch:=first|omega|(simp only[go_sem,seval];try omega))only[go_sem,seval,c,Hs.v];exact d _ _ ⟨by rw[H.list_len],rfl⟩
theorem P9{w:World}{h:Nat}{H:Hs}(a:HAt w h H):Calls prog 172 #[.pointer (some ⟨h,0,none⟩)] w (Ac λv b=>v=.int .i64 H.list.length∧b=w):=by
 apply U8;intro K c;unfold Rj;refine sn ?_;refine td Yu rfl (X5 a) ?_;rintro v d ⟨rfl,rfl⟩;exact c _ _ ⟨rfl,rfl⟩
theorem LM(a b:Nat)(x:Int)(c:x=a):x.tmod b=((a % b:Nat):Int):=by subst c;rfl
theorem jA{w:World}{h:Nat}{H:Hs}(hh:HAt w h H)(i:Nat)(hi:i<H.list.length):Calls prog 190 #[.pointer (some ⟨h,0,none⟩),.int .i64 i] w
  (Ac λv w'=>∃r:Rw,v=.tuple #[r.val,.bool true]∧H.list[i]?=some r.cs∧SxC w' (some 60) r.a r.cs∧r∈H.all∧Chg [] w w'):=by
 have hb:=hh.hb;rw[H.list_len] at hi;have hfit:=hh.fit;have hroom:=hh.room1;have hf:H.first<H.all.length:=by
  rcases hh.first1 with h1|h1
  ·omega
  ·by_cases hl:H.all.length<H.room
   ·have:=hh.first0 hl;omega
   ·omega
 have hj:(H.first+i) % H.all.length<H.all.length:=Nat.mod_lt _ O;obtain⟨a,cap,hv,-,hsx,-⟩:=hh.own.form;obtain⟨b,o,ha,hb2,hcell⟩:=hsx.get1 (g:=Rw.val) (λ_=>rfl) (rI hj);have hv2:H.v=.slice (some ⟨b,o,none⟩) H.all.length cap:=by rw[hv,ha]
 rw[hv2] at hb;apply jX;intro K hK;unfold Sd;refine Join1.inl ?_;refine sn ?_;refine sd (λh1=>absurd h1 O) (λh1=>?_);refine sq hb ?_;refine sd (λh1=>absurd h1 O) (λh1=>?_);have hmod:((H.first:Int)+(i:Int)).tmod (H.all.length:Int)=(((H.first+i) % H.all.length:Nat):Int):=LM _ _ _ O;refine LX3 hb hmod hcell ?_;refine hK _ _ ⟨H.all[(H.first+i) % H.all.length],rfl,?_,(hh.rows _ (rR _)).chg0 (sg _ _).drew,rR _,(sg _ _).drew⟩;rw[Hs.list,List.getElem?_map,dM hf i hi,rI hj];rfl
theorem aN{w:World}{h:Nat}{H:Hs}(hh:HAt w h H)(r:Rw)(hr:SxC w (some 60) r.a r.cs):Calls prog 171 #[.pointer (some ⟨h,0,none⟩),r.val] w
  (Ac λv w'=>∃H',HAt w' h H'∧H'.room=H.room∧H'.list=Dq H.room H.list r.cs∧Chg (h::H.blk) w w'∧(∀b∈H'.blk,b∈H.blk∨w.heap.size≤b)∧∀x∈H'.all,x∈H.all∨x=r):=by
 have hb:=hh.hb;have hlt:=Aa hb;have hfit:=hh.fit;have hroom:=hh.room1;have hne:=hh.ne;apply VJ;intro K hK;unfold SK;refine sq hb ?_;refine sd (λh1=>?_) (λh1=>?_)
 ·refine hK _ _ ⟨H,hh,rfl,?_,sg _ _,λb hb=>.inl hb,λx hx=>.inl hx⟩;simp [Dq,show H.room=0 by omega]
 ·simp -dsimp (disch:=first|omega|(simp only[go_sem,seval];try omega))only[go_sem,seval,hb,Hs.v];refine sd (λh2=>?_) (λh2=>?_)
  ·have hc0:=((sg [] w).drew).alloc (.cells #[r.val] 48);have ho0:=hh.own.chg0 hc0;simp -dsimp (disch:=first|omega|(simp only[go_sem,seval];try omega))only[go_sem,seval,hb,Hs.v,Rw.val];refine Bd (f:=Rw.f) (l2:=[r]) Gp Rw.len Rw.ok ho0 (e':=some 48) (Sx.built (c:=r.f) (by refine sn ?_;rfl) Z) rfl (by simp;omega) O O ?_;intro v' w' ho hc hat;have hc2:Chg H.blk w w':=(hc0.mono Z).trans hc (by intro x hx;exact .inl hx);have hb2:=hc2.keep hb hne;have hlt2:=Aa hb2;obtain⟨a',cap',hv',-,-,hblk,-⟩:=ho.form;subst hv';refine sq hb2 ?_;have hla:(H.all++[r]).length=H.all.length+1:=Z;have hf0:=hh.first0 O;generalize hw2:Ab w' h _=w2;have hc3:Chg [h] w' w2:=by rw[←hw2];exact(sg _ _).set _ _ Z
   have hc4:Chg (h::H.blk) w w2:=(hc2.mono (by simp;intro x hx;exact .inl (.inr hx))).trans hc3 Z;have hb3:w2.heap[h]?=some (.cells #[.int .i64 H.room,.int .i64 H.first,.slice a' (H.all++[r]).length cap'] 251):=by rw[←hw2];exact so
   refine hK _ _ ⟨⟨H.room,H.first,a',cap',H.all++[r]⟩,⟨hb3,ho.chg hc3 (λb hbb=>?_),?_,hroom,by dsimp only;omega,hh.first1,λh=>hf0⟩,rfl,?_,hc4,?_,λx hx=>by rcases List.mem_append.1 hx with h|h<;>simp_all⟩
   ·intro hm;simp at hm;subst hm;rcases hat with h7|h7
    ·exact hne (by rw[Hs.blk,Hs.v,←h7,←hbb];simp)
    ·rw[←hbb] at h7;simp at h7;omega
   ·intro x hx;rcases List.mem_append.1 hx with hx|hx
    ·exact hh.keeps hc4 (hh.rows x hx)
    ·simp at hx;subst hx;exact hh.keeps hc4 hr
   ·have e1:Dq H.room H.list r.cs=H.list++[r.cs]:=by rw[Dq,rF O,rG (by rw[H.list_len];omega)]
    rw[e1];simp [Hs.list,hf0,rot]
   ·intro b hb;simp only[Hs.blk,Hs.v] at hb;rcases hat with h7|h7
    ·left;rw[Hs.blk,Hs.v,←h7];exact hb
    ·right;rw[h7] at hb;simp at hb;omega
  ·have hfull:H.all.length=H.room:=O;have hf:H.first<H.all.length:=by have:=hh.first1;omega
   obtain⟨g,cp,x',hv,hg,hgl,hput,ho2⟩:=hh.own.put Rw.len hf r;have hv1:H.a=some ⟨g,0,none⟩:=by have:=hv;simp [Hs.v] at this;exact this.1
   have hput':Ao w.heap[g]? H.first [.slice r.a r.cs.length r.cap]=some x':=by simpa [Rw.f] using hput
   have hgb:g∈H.blk:=by rw[Hs.blk,hv];simp [Value.ownBlock]
   have hgh:h≠g:=λe=>hne (e ▸ hgb);have hmod:((H.first:Int)+1).tmod (H.room:Int)=(((H.first+1) % H.room:Nat):Int):=LM _ _ _ O;simp -dsimp (disch:=first|omega|(simp only[go_sem,seval];try omega))only[go_sem,seval,hb,Hs.v,hv1,Rw.val,hput',hmod];generalize hw2:(Ab (Ab w g x') h _).drew.drew.drew=w2;have hc2:Chg (h::H.blk) w w2:=by rw[←hw2];exact((((sg _ _).set _ _ (by simp [hgb])).set _ _ Z).drew).drew.drew
   have hc3:Chg [h] (Ab w g x') w2:=by rw[←hw2];exact(((sg _ _).set _ _ Z).drew).drew.drew
   have hmlt:=Nat.mod_lt (H.first+1) (show 0<H.room by omega);refine hK _ _ ⟨⟨H.room,(H.first+1) % H.room,H.a,H.cap,H.all.set H.first r⟩,⟨?_,?_,?_,hroom,by simpa using hfit,.inr hmlt,λh9=>?_⟩,rfl,?_,hc2,?_,λx hx=>List.mem_or_eq_of_mem_set hx⟩
   ·rw[←hw2];simp only[Hr];rw[Aw _ _ _ _ rfl (by rw[EP];exact hlt),Hs.v,hv1];simp
   ·refine Ox.chg (w:=Ab w g x') ?_ hc3 λb hbb=>?_
    ·have e:(⟨H.room,(H.first+1) % H.room,H.a,H.cap,H.all.set H.first r⟩:Hs).v=H.v:=by simp [Hs.v]
     rw[e];exact ho2
    ·intro hm;simp at hm;subst hm;apply hne;have e:(⟨H.room,(H.first+1) % H.room,H.a,H.cap,H.all.set H.first r⟩:Hs).v=H.v:=by simp [Hs.v]
     rw[e] at hbb;rw[Hs.blk,←hbb];simp
   ·intro x hx;rcases List.mem_or_eq_of_mem_set hx with hx|rfl
    ·exact hh.keeps hc2 (hh.rows x hx)
    ·exact hh.keeps hc2 hr
   ·simp at h9;omega
   ·have e1:Dq H.room H.list r.cs=H.list.tail++[r.cs]:=by rw[Dq,rF O,rF (by rw[H.list_len];omega)]
    rw[e1];have:=bA hf r;rw[hfull] at this;simp only[Hs.list];rw[this];simp [List.map_tail]
   ·intro b hbb;left;have e:(⟨H.room,(H.first+1) % H.room,H.a,H.cap,H.all.set H.first r⟩:Hs).v=H.v:=by simp [Hs.v]
    rw[Hs.blk,e] at hbb;exact hbb
def EW(a:Nat)(l:List (List Cel))(xs:List (List Cel)):List (List Cel):=xs.foldl (λl x=>Dq a l (Au x)) l
theorem Zv{w:World}{h:Nat}{H:Hs}(c:HAt w h H){e:Option TypeId}{a:Option Addr}{d:List Rw}(f:Sx w e Rw.f a d)(i:∀b o,a=some ⟨b,o,none⟩→b∉h::H.blk)(j:∀r∈d,SxC w (some 60) r.a r.cs)(l:∀r∈d,r.cs.length≤100000)(m:d.length≤1000000)(cap:Nat):
  Calls prog 109 #[.pointer (some ⟨h,0,none⟩),.slice a d.length cap] w
  (Ac λv n=>∃p,HAt n h p∧p.room=H.room∧p.list=EW H.room H.list (d.map Rw.cs)∧Chg (h::H.blk) w n∧(∀b∈p.blk,b∈H.blk∨w.heap.size≤b)∧∀x∈p.all,x∈H.all∨∀b o,x.a=some ⟨b,o,none⟩→x.cs≠[]→w.heap.size≤b):=by
 apply WT;intro K q;unfold Su;refine sn ?_;refine Loop1.st (λs:Nat × Hs=>.int .i64 s.1) (λs n=>s.1≤d.length∧HAt n h s.2∧s.2.room=H.room∧s.2.list=EW H.room H.list ((d.take s.1).map Rw.cs)∧Chg (h::H.blk) w n∧(∀b∈s.2.blk,b∈H.blk∨w.heap.size≤b)∧∀x∈s.2.all,x∈H.all∨∀b o,x.a=some ⟨b,o,none⟩→x.cs≠[]→w.heap.size≤b) (λs=>d.length-s.1) (0,H) rfl ⟨Z,c,rfl,rfl,sg _ _,λb t=>.inl t,λx u=>.inl u⟩ ?_;rintro next ⟨k,G⟩ n y ⟨z,A,B,C,D,E,F⟩
 dsimp only at z A B C E F ⊢;refine sn ?_;refine sd (λh1=>?_) (λh1=>?_)
 ·have I:k<d.length:=O;have J:=c.blk_lt;have L:Sx n e Rw.f a d:=f.chg D λb o t _=>i b o t;obtain⟨b,o,rfl,t,M⟩:=L.get1 (g:=Rw.val) (λ_=>rfl) (rI I);have N:SxC n (some 60) d[k].a d[k].cs:=c.keeps D (j _ (rR _));simp -dsimp (disch:=first|omega|(simp only[go_sem,seval];try omega))only[go_sem,seval,M,Rw.val];refine td I3 rfl (IH (N.chg0 (sg _ _).drew) d[k].cap (l _ (rR _))) ?_;rintro v P ⟨Q,R⟩;have S:Chg [] n P:=(sg _ _).drew.trans0 R;obtain⟨T,U,rfl,V,W,-,X⟩:=Q.form;have Y:Chg (h::H.blk) w P:=D.trans0 S;refine td Wc rfl (aN (A.chg0 S) ⟨T,U,Au d[k].cs⟩ W) ?_;rintro v w2 ⟨m,p,z,J,f,i,L⟩;refine sn ?_;refine y (k+1,m) _ ⟨by dsimp only;omega,p,z.trans B,?_,?_,?_,?_⟩ (by dsimp only;omega)
  ·dsimp only;rw[J,C,B,List.take_add_one,rI I];simp only[Option.toList,List.map_append,List.map_cons,List.map_nil,EW,List.foldl_append,List.foldl_cons,List.foldl_nil]
  ·refine Y.trans f λx u=>?_;rcases rM.1 u with rfl|u
   ·exact .inl Z
   ·rcases E x u with c|c
    ·exact .inl (by simp [c])
    ·exact .inr c
  ·intro b t;dsimp only at t;rcases i b t with c|c
   ·exact E b c
   ·right;have:=Y.size;omega
  ·intro x u;rcases L x u with c|rfl
   ·exact F x c
   ·right;intro b o t j;obtain⟨g,l,M,-⟩:=X j;dsimp only at t;rw[l] at t;cases t;have N:n.heap.size≤b:=M;have:=D.size;omega
 ·have I:k=d.length:=O;subst I;rw[List.take_length] at C;exact q _ _ ⟨G,A,B,C,D,E,F⟩
set_option maxRecDepth 100000
def Of(a b:Value)(K:rD):rE:=xA 50 λc=>xC 72 [.const a,.const b] [3,3] 4 λd=>xN 4 d λd=>xW d (xQ (.build 50 #[]) 50 λd=>xS 50 c d<|xD 50 c λd=>K d)<|xC 35 [] [] 60 λd=>xC 73 [.const a,.const b,.const d] [3,3,60] 50 λd=>xS 50 c d<|xD 50 c λd=>K d
theorem Y6(a b:Value):Lk 31 #[a,b] (Of a b):=lk [a,b] [] func31
theorem E8:Ad prog 31:=bd func31
def MZ(a b c d:Value)(K:rD):rE:=xB 50 a λe=>xB 50 b λf=>xB 3 c λg=>xB 3 d λh=>xA 50 λi=>Join1 (λj=>xL 50 e λl=>xC 74 [.const l] [50] 4 λl=>xN 4 l λl=>xW l (j (.bool true))<|xL 50 f λl=>xC 74 [.const l] [50] 4 λl=>xN 4 l λl=>j l) λl=>xW l (xL 50 e λl=>xS 50 i l<|xD 50 i λl=>K l)<|xL 3 h λl=>xF 50 f 1 λj=>xL 3 j λj=>xF 50 e 1 λm=>xL 3 m λm=>xC 75 [.const l,.const j,.const m] [3,3,3] 26 λm=>xE m 0 3 λj=>xE m 1 3 λm=>xL 3 g λl=>xF 50 f 0 λn=>xL 3 n λn=>xF 50 e 0 λo=>xL 3 o λo=>xC 75 [.const l,.const n,.const o] [3,3,3] 26 λo=>xE o 0 3 λn=>xE o 1 3 λo=>xA 3 λl=>xA 3 λp=>xS 3 l n<|xS 3 p o<|xL 50 e λo=>xQ (.makeFunc (.func 77) #[] #[.const l,.const p,.const f,.const g,.const h]) 161 λp=>xC 76 [.const o,.const j,.const m,.const p] [50,3,3,161] 50 λp=>xS 50 i p<|xD 50 i λp=>K p
theorem Xn(a b c d:Value):Lk 32 #[a,b,c,d] (MZ a b c d):=lk [a,b,c,d] [(4,[20])] func32
theorem cK:Ad prog 32:=bd func32
def QJ(a b c:Value)(K:rD):rE:=xB 50 a λd=>xB 42 b λe=>xB 60 c λf=>xA 50 λg=>Join1 (λh=>xL 50 d λi=>xC 74 [.const i] [50] 4 λi=>xN 4 i λi=>xW i (h (.bool true))<|xL 60 f λi=>xC 81 [.const i] [60] 4 λi=>xN 4 i λi=>h i) λi=>xW i (xL 50 d λi=>xS 50 g i<|xD 50 g λi=>K i)<|xF 42 e 1 λi=>xL 3 i λi=>xF 42 e 3 λh=>xL 3 h λh=>xF 50 d 1 λj=>xL 3 j λj=>xC 75 [.const i,.const h,.const j] [3,3,3] 26 λj=>xE j 0 3 λh=>xE j 1 3 λj=>xF 42 e 0 λi=>xL 3 i λi=>xF 42 e 2 λe=>xL 3 e λe=>xF 50 d 0 λl=>xL 3 l λl=>xC 75 [.const i,.const e,.const l] [3,3,3] 26 λl=>xE l 0 3 λe=>xE l 1 3 λl=>xA 3 λi=>xA 3 λm=>xS 3 i e<|xS 3 m l<|xL 50 d λl=>xQ (.makeFunc (.func 82) #[] #[.const i,.const m,.const f]) 161 λm=>xC 76 [.const l,.const h,.const j,.const m] [50,3,3,161] 50 λm=>xS 50 g m<|xD 50 g λm=>K m
theorem fU(a b c:Value):Lk 36 #[a,b,c] (QJ a b c):=lk [a,b,c] [(4,[18])] func36
theorem Jj:Ad prog 36:=bd func36
def N7(a b c d:Value)(K:rD):rE:=xB 50 a λe=>xB 3 b λf=>xB 48 d λg=>xA 50 λh=>xL 50 e λi=>xC 74 [.const i] [50] 4 λi=>xN 4 i λi=>xW i (xL 50 e λi=>xS 50 h i<|xD 50 h λi=>K i)<|xF 50 e 1 λi=>xL 3 i λi=>xC 75 [.const c,.const (.int .i64 1),.const i] [3,3,3] 26 λi=>xE i 0 3 λj=>xE i 1 3 λi=>xL 3 f λl=>xL 48 g λm=>xU m 48 λm=>xF 50 e 0 λn=>xL 3 n λn=>xC 75 [.const l,.const m,.const n] [3,3,3] 26 λn=>xE n 0 3 λm=>xE n 1 3 λn=>xA 3 λl=>xA 3 λo=>xS 3 l m<|xS 3 o n<|xL 50 e λn=>xQ (.makeFunc (.func 84) #[] #[.const l,.const o,.const g,.const f]) 161 λo=>xC 76 [.const n,.const j,.const i,.const o] [50,3,3,161] 50 λo=>xS 50 h o<|xD 50 h λo=>K o
theorem gj(a b c d:Value):Lk 37 #[a,b,c,d] (N7 a b c d):=lk [a,b,c,d] [] func37
theorem KY:Ad prog 37:=bd func37
def QF(a b:Value)(K:rD):rE:=Join1 (λc=>xO .geq 3 a (.int .i64 1) λd=>xW d (xO .leq 3 a (.int .i64 200) λd=>xW d (xO .geq 3 b (.int .i64 1) λd=>xW d (xO .leq 3 b (.int .i64 60) λd=>c d)<|c (.bool false))<|c (.bool false))<|c (.bool false)) λd=>K d
theorem jL(a b:Value):Lk 72 #[a,b] (QF a b):=lk [a,b] [(3,[4])] func72
theorem JJ:Ad prog 72:=bd func72
def LR(a b c:Value)(K:rD):rE:=xB 60 c λd=>xA 50 λe=>xL 60 d λd=>xQ (.buildSlice 48 1 #[(0,.const d)]) 48 λd=>xO .mul 3 a b λf=>xC 142 [.const d,.const f] [48,3] 48 λf=>xQ (.build 50 #[(0,.const a),(1,.const b),(2,.const f)]) 50 λf=>xS 50 e f<|xD 50 e λf=>K f
theorem jd(a b c:Value):Lk 73 #[a,b,c] (LR a b c):=lk [a,b,c] [] func73
theorem Ki:Ad prog 73:=bd func73
def NN(a:Value)(K:rD):rE:=xB 50 a λb=>xA 4 λc=>Join1 (λd=>xF 50 b 0 λe=>xL 3 e λe=>xF 50 b 1 λf=>xL 3 f λf=>xC 72 [.const e,.const f] [3,3] 4 λf=>xN 4 f λf=>xW f (d (.bool true))<|xF 50 b 2 λf=>xL 48 f λf=>xU f 48 λf=>xF 50 b 0 λe=>xL 3 e λe=>xF 50 b 1 λg=>xL 3 g λg=>xO .mul 3 e g λg=>xO .neq 3 f g λg=>d g) λg=>xW g (xS 4 c (.bool false)<|xD 4 c λg=>K g)<|xL 50 b λg=>xF 50 b 1 λb=>xL 3 b λb=>xC 143 [.const g,.const (.int .i64 0),.const b] [50,3,3] 227 λb=>RngX prog b 2 (λvs2 bg2 kn2 kr2 _=>bg2<|xC 144 [.const (BA vs2 1)] [48] 4 λb=>xN 4 b λb=>xW b (xS 4 c (.bool false)<|kr2)<|kn2) (λr2=>xS 4 c (.bool true)<|B0 (Cr r2 (.tuple #[]))<|xD 4 c λb=>K b) (λr2=>B0 (Cr r2 (.tuple #[]))<|xD 4 c λb=>K b) []
theorem cA(a:Value):Lk 74 #[a] (NN a):=lk [a] [(4,[21])] func74
theorem C8:Ad prog 74:=bd func74
def SJ(a b c:Value)(K:rD):rE:=Join1 (λd=>xO .leq 3 b (.int .i64 0) λe=>xW e (d (.bool true))<|xO .geq 3 a c λe=>xW e (d (.bool true))<|xO .lss 3 a (.int .i64 0) λe=>xW e (xO .add 3 a b λe=>xO .leq 3 e (.int .i64 0) λe=>d e)<|d (.bool false)) λe=>xW e (K (.tuple #[(.int .i64 0),(.int .i64 0)]))<|xO .lss 3 a (.int .i64 0) λe=>xW e (xO .add 3 a b λe=>xQ (.call { callee:=.builtin .min,args:=#[.const e,.const c],argTypes:=#[3,3] }) 3 λe=>K (.tuple #[(.int .i64 0),e]))<|xO .sub 3 c a λe=>xQ (.call { callee:=.builtin .min,args:=#[.const b,.const e],argTypes:=#[3,3] }) 3 λe=>xO .add 3 a e λe=>K (.tuple #[a,e])
theorem ik(a b c:Value):Lk 75 #[a,b,c] (SJ a b c):=lk [a,b,c] [(4,[24])] func75
theorem D4:Ad prog 75:=bd func75
def Mk(a b c d:Value)(K:rD):rE:=xB 50 a λe=>xB 161 d λf=>xA 50 λg=>xF 50 e 2 λh=>xL 48 h λh=>xC 145 [.const h] [48] 48 λh=>xF 50 e 2 λi=>xS 48 i h<|xL 50 e λi=>xC 143 [.const i,.const b,.const c] [50,3,3] 227 λi=>RngX prog i 2 (λvs1 bg1 kn1 _ _=>bg1<|xL 161 f λi=>xQ (.call { callee:=.value (.const i),args:=#[.const (BA vs1 0),.const (BA vs1 1)],argTypes:=#[3,48] }) 0 λ_=>xC 146 [.const (BA vs1 1)] [48] 48 λi=>xQ (.call { callee:=.builtin .copy,args:=#[.const (BA vs1 1),.const i],argTypes:=#[48,48] }) 3 λ_=>kn1) (λr1=>xL 50 e λi=>xS 50 g i<|B0 (Cr r1 (.tuple #[]))<|xD 50 g λi=>K i) (λ_ _=>False) []
theorem fR(a b c d:Value):Lk 76 #[a,b,c,d] (Mk a b c d):=lk [a,b,c,d] [] func76
theorem D1:Ad prog 76:=bd func76
def NT(a b c d e f g:Value)(K:rD):rE:=xL 3 c λh=>Loop1 h λh i=>xL 3 d λj=>xO .lss 3 h j λj=>xW j (xL 50 e λj=>xL 3 f λl=>xO .sub 3 h l λl=>xL 3 g λm=>xO .sub 3 a m λm=>xC 78 [.const j,.const l,.const m] [50,3,3] 60 λm=>xI 48 b h λl=>xS 60 l m<|xO .add 3 h (.int .i64 1) λl=>i l)<|K (.tuple #[])
theorem Tx(a b c d e f g:Value):Lk 77 #[a,b,c,d,e,f,g] (NT a b c d e f g):=lk [a,b,c,d,e,f,g] [(3,[9])] func77
theorem fV:Ad prog 77:=bd func77
def SY(a b c:Value)(K:rD):rE:=xB 50 a λd=>xA 60 λe=>Join1 (λf=>xL 50 d λg=>xC 147 [.const g] [50] 4 λg=>xN 4 g λg=>xW g (f (.bool true))<|xO .lss 3 c (.int .i64 0) λg=>xW g (f (.bool true))<|xF 50 d 1 λg=>xL 3 g λg=>xO .geq 3 c g λg=>xW g (f (.bool true))<|xO .lss 3 b (.int .i64 0) λg=>xW g (f (.bool true))<|xF 50 d 0 λg=>xL 3 g λg=>xO .geq 3 b g λg=>f g) λg=>xW g (xQ (.build 60 #[]) 60 λg=>xS 60 e g<|xD 60 e λg=>K g)<|xF 50 d 2 λg=>xL 48 g λg=>xF 50 d 0 λd=>xL 3 d λd=>xO .mul 3 c d λd=>xO .add 3 d b λd=>xI 48 g d λd=>xL 60 d λd=>xS 60 e d<|xD 60 e λd=>K d
theorem U5(a b c:Value):Lk 78 #[a,b,c] (SY a b c):=lk [a,b,c] [(4,[29])] func78
theorem Tz:Ad prog 78:=bd func78
def QG(a:Value)(K:rD):rE:=xB 60 a λb=>Join1 (λc=>xL 60 b λd=>xC 151 [.const d] [60] 4 λd=>xW d (xF 60 b 3 λd=>xL 5 d λd=>xO .and 5 d (.int .u8 192) λd=>xO .eql 5 d (.int .u8 0) λd=>c d)<|c (.bool false)) λd=>K d
theorem jD(a:Value):Lk 81 #[a] (QG a):=lk [a] [(3,[2])] func81
theorem GX:Ad prog 81:=bd func81
def OI(a b c d e:Value)(K:rD):rE:=Ag<|qL 3 c λf=>qL 3 d λg=>xP (.slice 48 (.const b) (some (.const f)) (some (.const g)) none) 48 λg=>qL 60 e λf=>xC 83 [.const g,.const f] [48,60] 0 λ_=>K (.tuple #[])
theorem Xy(a b c d e:Value):Lk 82 #[a,b,c,d,e] (OI a b c d e):=lk [a,b,c,d,e] [] func82
theorem aT:Ad prog 82:=bd func82
def Kt(a b:Value)(K:rD):rE:=xB 60 b λc=>xU a 48 λd=>Loop1 (.int .i64 0) λe f=>xO .lss 3 e d λd=>xW d (xL 60 c λd=>xI 48 a e λc=>xS 60 c d<|xO .add 3 e (.int .i64 1) λc=>f c)<|K (.tuple #[])
theorem Sg(a b:Value):Lk 83 #[a,b] (Kt a b):=lk [a,b] [(5,[7])] func83
theorem Jk:Ad prog 83:=bd func83
def LA(a b c d e f:Value)(K:rD):rE:=xL 3 c λg=>Loop1 g λg h=>xL 3 d λi=>xO .lss 3 g i λi=>xW i (xL 48 e λi=>xL 3 f λj=>xO .sub 3 g j λj=>xI 48 i j λj=>xL 60 j λj=>xI 48 b g λi=>xS 60 i j<|xO .add 3 g (.int .i64 1) λi=>h i)<|K (.tuple #[])
theorem gD(a b c d e f:Value):Lk 84 #[a,b,c,d,e,f] (LA a b c d e f):=lk [a,b,c,d,e,f] [(3,[8])] func84
theorem Xh:Ad prog 84:=bd func84
def Q9(a b c:Value)(K:rD):rE:=xB 50 a λd=>xB 3 b λe=>xB 3 c λf=>xQ (.makeFunc (.func 185) #[] #[.const e,.const f,.const d]) 226 λf=>K f
theorem YZ(a b c:Value):Lk 143 #[a,b,c] (Q9 a b c):=lk [a,b,c] [] func143
theorem PJ:Ad prog 143:=bd func143
def SI(a:Value)(K:rD):rE:=xB 50 a λb=>Ag<|Join1 (λc=>qF 50 b 0 λd=>qL 3 d λd=>qP .geq 3 d (.int .i64 1) λd=>xW d (qF 50 b 1 λd=>qL 3 d λd=>qP .geq 3 d (.int .i64 1) λd=>xW d (qF 50 b 2 λd=>qL 48 d λd=>xR (.call { callee:=.builtin .len,args:=#[.const d],argTypes:=#[48] }) 3 λd=>qF 50 b 0 λe=>qL 3 e λe=>qP .quo 3 d e λe=>qF 50 b 1 λb=>qL 3 b λb=>qP .geq 3 e b λb=>c b)<|c (.bool false))<|c (.bool false)) λb=>K b
theorem iU(a:Value):Lk 147 #[a] (SI a):=lk [a] [(3,[2])] func147
theorem NS:Ad prog 147:=bd func147
def LS(a b c d:Value)(K:rD):rE:=xL 3 b λe=>xQ (.call { callee:=.builtin .max,args:=#[.const e,.const (.int .i64 0)],argTypes:=#[3,3] }) 3 λe=>Loop1 e λe f=>xL 3 c λg=>xF 50 d 1 λh=>xL 3 h λh=>xQ (.call { callee:=.builtin .min,args:=#[.const g,.const h],argTypes:=#[3,3] }) 3 λh=>xO .lss 3 e h λh=>xW h (xL 50 d λh=>xC 186 [.const h,.const e] [50,3] 48 λh=>xQ (.call { callee:=.value (.const a),args:=#[.const e,.const h],argTypes:=#[3,48] }) 4 λh=>xN 4 h λh=>xW h (K (.tuple #[]))<|xO .add 3 e (.int .i64 1) λh=>f h)<|K (.tuple #[])
theorem bG(a b c d:Value):Lk 185 #[a,b,c,d] (LS a b c d):=lk [a,b,c,d] [(3,[5])] func185
theorem fO:Ad prog 185:=bd func185
def Lc(a b:Value)(K:rD):rE:=xB 50 a λc=>xF 50 c 2 λd=>xL 48 d λd=>xF 50 c 0 λe=>xL 3 e λe=>xO .mul 3 b e λe=>xO .add 3 b (.int .i64 1) λf=>xF 50 c 0 λg=>xL 3 g λg=>xO .mul 3 f g λg=>xO .add 3 b (.int .i64 1) λf=>xF 50 c 0 λc=>xL 3 c λc=>xO .mul 3 f c λc=>xQ (.slice 48 (.const d) (some (.const e)) (some (.const g)) (some (.const c))) 48 λc=>K c
theorem VR(a b:Value):Lk 186 #[a,b] (Lc a b):=lk [a,b] [] func186
theorem F1:Ad prog 186:=bd func186
def Ra(a b:Value)(K:rD):rE:=xB 50 a λc=>Join1 (λd=>xL 50 c λe=>xC 147 [.const e] [50] 4 λe=>xN 4 e λe=>xW e (d (.bool true))<|xO .lss 3 b (.int .i64 0) λe=>xW e (d (.bool true))<|xF 50 c 1 λe=>xL 3 e λe=>xO .geq 3 b e λe=>d e) λe=>xW e (K (.slice none 0 0))<|xL 50 c λe=>xC 186 [.const e,.const b] [50,3] 48 λe=>xC 145 [.const e] [48] 48 λe=>K e
theorem cd(a b:Value):Lk 189 #[a,b] (Ra a b):=lk [a,b] [(4,[17])] func189
theorem N0:Ad prog 189:=bd func189
def OB(a b c d:Value)(K:rD):rE:=xB 50 a λe=>xB 60 d λf=>xA 50 λg=>Join1 (λh=>xL 50 e λi=>xC 74 [.const i] [50] 4 λi=>xN 4 i λi=>xW i (h (.bool true))<|xL 60 f λi=>xC 81 [.const i] [60] 4 λi=>xN 4 i λi=>xW i (h (.bool true))<|xC 72 [.const b,.const c] [3,3] 4 λi=>xN 4 i λi=>h i) λi=>xW i (xL 50 e λi=>xS 50 g i<|xD 50 g λi=>K i)<|Ag<|Join0 (λi=>qL 60 f λh=>qF 50 e 1 λj=>qL 3 j λl=>xP (.call { callee:=.builtin .min,args:=#[.const c,.const l],argTypes:=#[3,3] }) 3 λm=>xT (xC 73 [.const b,.const c,.const h] [3,3,60] 50 λn=>xT (qZ 3 j l)<|xQ (.makeFunc (.func 240) #[] #[.const e]) 161 λo=>xT (qZ 3 j l)<|xC 76 [.const n,.const (.int .i64 0),.const m,.const o] [50,3,3,161] 50 λo=>xS 50 g o<|i)<|xQ (.makeFunc (.func 240) #[] #[.const e]) 161 λo=>xT (qZ 3 j l)<|xT (qZ 60 f h)<|xC 73 [.const b,.const c,.const h] [3,3,60] 50 λh=>xT (qZ 3 j l)<|xC 76 [.const h,.const (.int .i64 0),.const m,.const o] [50,3,3,161] 50 λh=>xS 50 g h<|i)<|xD 50 g λh=>K h
theorem Yv(a b c d:Value):Lk 198 #[a,b,c,d] (OB a b c d):=lk [a,b,c,d] [(4,[22]),(11,[])] func198
theorem K3:Ad prog 198:=bd func198
def NU(a b c:Value)(K:rD):rE:=xL 50 c λd=>xC 186 [.const d,.const a] [50,3] 48 λd=>xQ (.call { callee:=.builtin .copy,args:=#[.const b,.const d],argTypes:=#[48,48] }) 3 λ_=>K (.tuple #[])
theorem Xr(a b c:Value):Lk 240 #[a,b,c] (NU a b c):=lk [a,b,c] [] func240
theorem gi:Ad prog 240:=bd func240
def MV(a b c d e:Value)(K:rD):rE:=xB 50 a λf=>xB 3 b λg=>xB 3 d λh=>xB 60 e λi=>xA 50 λj=>Join1 (λl=>xL 50 f λm=>xC 74 [.const m] [50] 4 λm=>xN 4 m λm=>xW m (l (.bool true))<|xL 60 i λm=>xC 81 [.const m] [60] 4 λm=>xN 4 m λm=>l m) λm=>xW m (xL 50 f λm=>xS 50 j m<|xD 50 j λm=>K m)<|Ag<|qL 3 g λm=>xP (.call { callee:=.builtin .max,args:=#[.const m,.const (.int .i64 0)],argTypes:=#[3,3] }) 3 λm=>qL 3 h λl=>qF 50 f 0 λn=>qL 3 n λo=>xP (.unOp .neg 3 (.const o)) 3 λp=>xP (.call { callee:=.builtin .max,args:=#[.const l,.const p],argTypes:=#[3,3] }) 3 λp=>qF 50 f 0 λq=>qL 3 q λr=>xP (.call { callee:=.builtin .min,args:=#[.const p,.const r],argTypes:=#[3,3] }) 3 λp=>xS 3 g m<|xT (qZ 3 q r)<|xT (qZ 3 n o)<|xT (qZ 3 h l)<|xS 3 h p<|xF 50 f 1 λp=>xL 3 p λp=>xC 75 [.const c,.const (.int .i64 1),.const p] [3,3,3] 26 λp=>xE p 0 3 λr=>xE p 1 3 λp=>xL 50 f λq=>xQ (.makeFunc (.func 263) #[] #[.const f,.const g,.const i,.const h]) 161 λi=>xC 76 [.const q,.const r,.const p,.const i] [50,3,3,161] 50 λi=>xS 50 j i<|xD 50 j λi=>K i
theorem gO(a b c d e:Value):Lk 248 #[a,b,c,d,e] (MV a b c d e):=lk [a,b,c,d,e] [(4,[20])] func248
theorem gf:Ad prog 248:=bd func248
def RR(a b c d e:Value)(K:rD):rE:=xB 50 a λf=>xB 3 b λg=>xB 3 c λh=>xB 3 d λi=>xB 60 e λj=>xA 50 λl=>Join1 (λm=>xL 50 f λn=>xC 74 [.const n] [50] 4 λn=>xN 4 n λn=>xW n (m (.bool true))<|xL 60 j λn=>xC 81 [.const n] [60] 4 λn=>xN 4 n λn=>m n) λn=>xW n (xL 50 f λn=>xS 50 l n<|xD 50 l λn=>K n)<|Ag<|qL 3 g λn=>xP (.call { callee:=.builtin .max,args:=#[.const n,.const (.int .i64 0)],argTypes:=#[3,3] }) 3 λn=>qF 50 f 1 λm=>qL 3 m λm=>xP (.call { callee:=.builtin .min,args:=#[.const n,.const m],argTypes:=#[3,3] }) 3 λm=>qL 3 h λn=>xP (.call { callee:=.builtin .max,args:=#[.const n,.const (.int .i64 0)],argTypes:=#[3,3] }) 3 λo=>qF 50 f 1 λp=>qL 3 p λq=>xP (.call { callee:=.builtin .min,args:=#[.const o,.const q],argTypes:=#[3,3] }) 3 λo=>xS 3 g m<|xT (qZ 3 p q)<|xT (qZ 3 h n)<|xS 3 h o<|xL 3 i λo=>xF 50 f 1 λq=>xL 3 q λq=>xQ (.unOp .neg 3 (.const q)) 3 λq=>xQ (.call { callee:=.builtin .max,args:=#[.const o,.const q],argTypes:=#[3,3] }) 3 λq=>xF 50 f 1 λo=>xL 3 o λo=>xQ (.call { callee:=.builtin .min,args:=#[.const q,.const o],argTypes:=#[3,3] }) 3 λo=>xS 3 i o<|xL 50 f λo=>xL 3 g λq=>xL 3 h λp=>xQ (.makeFunc (.func 265) #[] #[.const i,.const g,.const h,.const j,.const f]) 161 λj=>xC 76 [.const o,.const q,.const p,.const j] [50,3,3,161] 50 λj=>xS 50 l j<|xD 50 l λj=>K j
theorem aR(a b c d e:Value):Lk 258 #[a,b,c,d,e] (RR a b c d e):=lk [a,b,c,d,e] [(4,[18])] func258
theorem X1:Ad prog 258:=bd func258
def Pb(a b c d e f:Value)(K:rD):rE:=xL 50 c λg=>xC 186 [.const g,.const a] [50,3] 48 λg=>xL 3 d λh=>Loop1 h λh i=>xF 50 c 0 λj=>xL 3 j λj=>xO .lss 3 h j λj=>xW j (xL 60 e λj=>xI 48 b h λl=>xS 60 l j<|Join1 (λl=>xL 3 f λj=>xO .sub 3 h j λj=>xL 3 d λm=>xO .geq 3 j m λm=>xW m (xL 3 f λm=>xO .sub 3 h m λm=>xF 50 c 0 λj=>xL 3 j λj=>xO .lss 3 m j λj=>l j)<|l (.bool false)) λj=>xW j (xL 3 f λj=>xO .sub 3 h j λj=>xI 48 g j λj=>xL 60 j λj=>xI 48 b h λg=>xS 60 g j<|xO .add 3 h (.int .i64 1) λg=>i g)<|xO .add 3 h (.int .i64 1) λg=>i g)<|K (.tuple #[])
theorem Wd(a b c d e f:Value):Lk 263 #[a,b,c,d,e,f] (Pb a b c d e f):=lk [a,b,c,d,e,f] [(5,[9]),(17,[36])] func263
theorem cl:Ad prog 263:=bd func263
def S6(a b c d e f g:Value)(K:rD):rE:=Join1 (λh=>xL 3 c λi=>xO .add 3 a i λi=>xL 3 d λj=>xO .lss 3 i j λj=>xW j (h (.bool true))<|xL 3 c λj=>xO .add 3 a j λj=>xL 3 e λi=>xO .geq 3 j i λi=>h i) λi=>xW i (xL 60 f λi=>xC 83 [.const b,.const i] [48,60] 0 λ_=>K (.tuple #[]))<|xL 50 g λi=>xL 3 c λh=>xO .add 3 a h λh=>xC 186 [.const i,.const h] [50,3] 48 λh=>xQ (.call { callee:=.builtin .copy,args:=#[.const b,.const h],argTypes:=#[48,48] }) 3 λ_=>K (.tuple #[])
theorem Uw(a b c d e f g:Value):Lk 265 #[a,b,c,d,e,f,g] (S6 a b c d e f g):=lk [a,b,c,d,e,f,g] [(2,[20])] func265
theorem Xo:Ad prog 265:=bd func265
def Lx(a:Value)(K:rD):rE:=xO .eql 48 a (.slice none 0 0) λb=>xW b (K (.slice none 0 0))<|xQ (.buildSlice 48 0 #[]) 48 λb=>xV b a 48 48 48 λb=>K b
theorem kz(a:Value):Lk 145 #[a] (Lx a):=lk [a] [] func145
theorem I8:Ad prog 145:=bd func145
def OP(a b:Value)(K:rD):rE:=Join0 (λc=>xO .lss 3 b (.int .i64 0) λd=>xW d (xQ (.makeInterface 9 (.const (.string { data:=#[99,97,110,110,111,116,32,98,101,32,110,101,103,97,116,105,118,101] }))) 20 λd=>xQ (.panic (.const d)) 0 λ_=>c)<|c)<|xU a 48 λd=>xQ (.convert 3 30 (.const d)) 30 λd=>xQ (.convert 3 30 (.const b)) 30 λc=>xC 184 [.const d,.const c] [30,30] 265 λc=>xE c 0 30 λd=>xE c 1 30 λc=>Join0 (λe=>Join1 (λf=>xO .gtr 30 d (.int .u64 0) λd=>xW d (f (.bool true))<|xO .gtr 30 c (.int .u64 9223372036854775807) λd=>f d) λd=>xW d (xQ (.makeInterface 9 (.const (.string { data:=#[116,104,101,32,114,101,115,117,108,116,32,111,102,32,40,108,101,110,40,120,41,32,42,32,99,111,117,110,116,41,32,111,118,101,114,102,108,111,119,115] }))) 20 λd=>xQ (.panic (.const d)) 0 λ_=>e)<|e)<|xQ (.convert 30 3 (.const c)) 3 λd=>xQ (.makeSlice 48 (.const d) (.const d)) 48 λd=>xQ (.call { callee:=.builtin .copy,args:=#[.const d,.const a],argTypes:=#[48,48] }) 3 λe=>Loop1 e λe c=>xU d 48 λf=>xO .lss 3 e f λf=>xW f (Ag<|xP (.slice 48 (.const d) (some (.const e)) none none) 48 λf=>xP (.slice 48 (.const d) none (some (.const e)) none) 48 λg=>xQ (.call { callee:=.builtin .copy,args:=#[.const f,.const g],argTypes:=#[48,48] }) 3 λg=>qP .add 3 e g λg=>c g)<|K d
theorem V1(a b:Value):Lk 142 #[a,b] (OP a b):=lk [a,b] [(2,[]),(10,[]),(12,[26]),(22,[8])] func142
theorem Z9:Ad prog 142:=bd func142
def LJ(a b:Value)(K:rD):rE:=xC 227 [.const a,.const b] [292,292] 293 λc=>xE c 0 292 λd=>xE c 1 292 λc=>K (.tuple #[d,c])
theorem VT(a b:Value):Lk 184 #[a,b] (LJ a b):=lk [a,b] [] func184
theorem Zp:Ad prog 184:=bd func184
def Pp(a b:Value)(K:rD):rE:=xO .and 292 a (.int .u64 4294967295) λc=>xO .shr 292 a (.int .u64 32) λd=>xO .and 292 b (.int .u64 4294967295) λe=>xO .shr 292 b (.int .u64 32) λf=>xO .mul 292 c e λg=>xO .mul 292 d e λe=>xO .shr 292 g (.int .u64 32) λg=>xO .add 292 e g λg=>xO .and 292 g (.int .u64 4294967295) λe=>xO .shr 292 g (.int .u64 32) λg=>xO .mul 292 c f λc=>xO .add 292 e c λc=>xO .mul 292 d f λf=>xO .add 292 f g λf=>xO .shr 292 c (.int .u64 32) λc=>xO .add 292 f c λc=>xO .mul 292 a b λf=>K (.tuple #[c,f])
theorem Wl(a b:Value):Lk 227 #[a,b] (Pp a b):=lk [a,b] [] func227
theorem Wh:Ad prog 227:=bd func227
theorem I5{w:World}{e:Option TypeId}{a:Option Addr}{l:List Cel}(d:SxC w e a l)(cap:Nat)(f:l.length≤100000):Calls prog 145 #[.slice a l.length cap] w (Ac λv g=>Ox w.heap.size g 60 4 Cel.cells v l∧Chg [] w g):=by
 apply kz;intro K i;unfold Lx;refine sn ?_;refine BrW.by (λh=>?_) (λh=>?_)
 ·have j:l=[]:=by
   cases a with
   | none =>
    cases l with
    | nil=>rfl
    | cons x l=>obtain⟨b,o,_,_,_,_,_,h,_⟩:=d.at_ Z;simp at h
   | some x=>simp at h
  subst j;exact i _ _ ⟨Ox.nil _ _ _ _ _,sg _ _⟩
 ·refine sn ?_;have k:=(sg [] w).alloc (.cells #[] 60);have m:Ox w.heap.size (w.alloc (.cells #[] 60)) 60 4 Cel.cells (.slice (some ⟨w.heap.size,0,none⟩) 0 0) []:=Ox.built (c:=[]) (by exact so) Cel.len (rH _) rfl rfl O rfl;refine Bd (l:=[]) (l2:=l) CZ Cel.len Cel.ok m (d.chg0 k) rfl (by simp;omega) O (by refine sn ?_;omega) ?_;intro n g p q _;exact i _ _ ⟨by simpa using p,C2 m k q⟩
theorem Jm(w:World)(x y:Int):Calls prog 72 #[.int .i64 x,.int .i64 y] w (Ac λv w'=>v=.bool (BF x y)∧w'=w):=by
 apply jL;intro K hK;unfold QF;refine Join1.inl ?_;refine sn ?_;refine sd (λh1=>?_) (λh1=>?_)
 ·refine sn ?_;refine sd (λh2=>?_) (λh2=>?_)
  ·refine sn ?_;refine sd (λh3=>?_) (λh3=>?_)
   ·refine sn ?_;refine hK _ _ ⟨?_,rfl⟩;simp [BF,h1,h2,h3]
   ·refine sn ?_;refine hK _ _ ⟨?_,rfl⟩;simp [BF,h3]
  ·refine sn ?_;refine hK _ _ ⟨?_,rfl⟩;simp [BF,h2]
 ·refine sn ?_;refine hK _ _ ⟨?_,rfl⟩;simp [BF,h1]
theorem Ec(w:World)(x n size:Int)(hs:0≤size)(hs2:size≤1000)(h1:-9223372036854775808≤x)(h2:x≤9223372036854775807)(h4:n≤9223372036854775807):Calls prog 75 #[.int .i64 x,.int .i64 n,.int .i64 size] w (Ac λv w'=>v=.tuple #[.int .i64 (AJ x n size).1,.int .i64 (AJ x n size).2]∧w'=w):=by
 apply ik;intro K hK;unfold SJ;refine sh (λv w'=>v=.bool (decide (n≤0∨size≤x∨(x<0∧x+n≤0)))∧w'=w) ?_ ?_
 ·refine sn ?_;refine sd (λh=>⟨by simp [h],rfl⟩) (λh3=>?_);refine sn ?_;refine sd (λh=>⟨by simp [h],rfl⟩) (λh5=>?_);refine sn ?_;refine sd (λh6=>?_) (λh6=>?_)
  ·refine sn ?_;simp [h3,h5,h6]
  ·refine⟨?_,rfl⟩;congr 1;simp [h3,h5,h6]
 ·rintro v w1 ⟨rfl,rfl⟩;refine sd (λh=>?_) (λh=>?_)
  ·exact hK _ _ ⟨by unfold AJ;rw[rG h],rfl⟩
  ·have h':0<n∧x<size∧(0≤x∨0<x+n):=O;refine sn ?_;refine sd (λh6=>?_) (λh6=>?_)
   ·refine sn ?_;exact hK _ _ ⟨by unfold AJ;rw[rF h];simp [h6],rfl⟩
   ·refine sn ?_;exact hK _ _ ⟨by unfold AJ;rw[rF h];simp [h6],rfl⟩
theorem HM(w:World)(c:Cel):Calls prog 81 #[c.val] w (Ac λv a=>v=.bool c.usual∧Chg [] w a):=by
 apply jD;intro K b;unfold QG;refine sn ?_;have d:=(sg [] w).alloc (.cells c.cells.toArray 60);have e:(w.alloc (.cells c.cells.toArray 60)).heap[w.heap.size]?=some (.cells c.cells.toArray 60):=by exact so
 refine Join1.inl ?_;refine sn ?_;refine td I1 rfl (Kk _ c) ?_;rintro v f ⟨rfl,g⟩;have i:=g.keep e Z;refine BrW.by (λh=>?_) (λh=>?_)
 ·refine sq i ?_;refine b _ _ ⟨?_,d.trans0 g⟩;simp [Cel.usual,h,Cel.plain]
 ·refine sn ?_;refine b _ _ ⟨?_,d.trans0 g⟩;simp [Cel.usual,h]
theorem Ge{w:World}{g:Gr}(a:g.ok)(b o cap:Nat)(c:g.cs.length≤cap)(y:Nat)(d:y<g.h):Calls prog 186 #[g.val (some ⟨b,o,none⟩) cap,.int .i64 y] w
  (Ac λv e=>v=.slice (some ⟨b,o+y*g.w*4,none⟩) g.w g.w∧Chg [] w e):=by
 have f:=a.row_lt d;have h:=a.le;have i:=a.w0;have j:=a.w1;have k:=a.h1;apply VR;intro K l;unfold Lc;simp -dsimp (disch:=first|omega|(simp only[go_sem,seval];try omega))only[go_sem,seval,Gr.val];have m:(y:Int)*(g.w:Int)=((y*g.w:Nat):Int):=Z;have n:((y:Int)+1)*(g.w:Int)=((y*g.w+g.w:Nat):Int):=by rw[Int.add_mul];simp
 have p:=Nat.mul_le_mul (show y≤60 by omega) j;refine sr m n ?_;have q:slo o (y*g.w+g.w) (y*g.w) 4=o+y*g.w*4:=by unfold slo;rw[rF O]
 have r:y*g.w+g.w-y*g.w=g.w:=O;rw[q,r];exact l _ _ ⟨rfl,(sg _ _).alloc _⟩
def BG(b o:Nat)(g:Gr)(y:Nat):Value:=.slice (some ⟨b,o+y*g.w*4,none⟩) g.w g.w
structure Boxes (w:World) (g:Gr) (a:Option Addr) (cap pt:Nat) (top fin:Int):Prop where
 t:w.heap[pt+1]?=some (.cells #[.int .i64 top] 3)
 e:w.heap[pt+2]?=some (.cells #[.int .i64 fin] 3)
 g:w.heap[pt]?=some (.cells #[.int .i64 g.w,.int .i64 g.h,.slice a g.cs.length cap] 50)
theorem Boxes.chg{w w':World}{g:Gr}{a:Option Addr}{cap pt:Nat}{top fin:Int}{F:List Nat}(h:Boxes w g a cap pt top fin)(hc:Chg F w w')(hF:∀x∈F,x<pt∨pt+2<x):Boxes w' g a cap pt top fin:=
 ⟨hc.keep h.t (λhm=>by have:=hF _ hm;omega),hc.keep h.e (λhm=>by have:=hF _ hm;omega),hc.keep h.g (λhm=>by have:=hF _ hm;omega)⟩
theorem TJ{w:World}{g:Gr}(a:g.ok){b o cap pt:Nat}(c:g.cs.length≤cap){top fin:Int}{yv:Value}(d:-9223372036854775808≤top)(e:top≤9223372036854775807)(f:Nat→World→Prop)(h:World→Prop)(i:∀y w1,f y w1→Boxes w1 g (some ⟨b,o,none⟩) cap pt top fin)(j:∀y w1 w2,f y w1→Chg [] w1 w2→f y w2)(k:f (max top 0).toNat w)(l:∀y w1,f y w1→top≤(y:Int)→(y:Int)<fin→y<g.h→Bm prog yv [.int .i64 y,BG b o g y] (λv w2=>(v=.bool true∧f (y+1) w2)∨(v=.bool false∧h w2)) w1):
  Calls prog 185 #[yv,.pointer (some ⟨pt+1,0,none⟩),.pointer (some ⟨pt+2,0,none⟩),.pointer (some ⟨pt,0,none⟩)] w
   (Ac λ_ m=>(∃y:Nat,top≤(y:Int)∧(min fin g.h≤y)∧((y:Int)≤min fin g.h∨(y:Int)=max top 0)∧f y m)∨h m):=by
 have n:=i _ _ k;have p:=a.h1;apply bG;intro K q;unfold LS;simp -dsimp (disch:=first|omega|(simp only[go_sem,seval];try omega))only[go_sem,seval,n.t];refine Loop1.st (λy:Nat=>.int .i64 y) (λy w1=>f y w1∧top≤(y:Int)∧((y:Int)≤min fin g.h∨(y:Int)=max top 0)) (λy=>g.h-y) (max top 0).toNat (by congr 1;omega) ⟨k,O,O⟩ ?_;rintro next y w1 r ⟨s,t,u⟩
 have x:=i _ _ s;simp -dsimp (disch:=first|omega|(simp only[go_sem,seval];try omega))only[go_sem,seval,x.e,x.g];refine sd (λh3=>?_) (λh3=>?_)
 ·simp -dsimp (disch:=first|omega|(simp only[go_sem,seval];try omega))only[go_sem,seval,x.g];refine td F1 rfl (Ge (w:=w1) a b o cap c y O) ?_;rintro v w2 ⟨rfl,z⟩;refine(l y w2 (j _ _ _ s z) t O O).use ?_;rintro v A (⟨rfl,B⟩|⟨rfl,C⟩)
  ·refine sn ?_;exact r (y+1) _ ⟨B,O,O⟩ O
  ·refine sn ?_;exact q _ _ (.inr C)
 ·exact q _ _ (.inl ⟨y,t,O,u,s⟩)
def SX(pt:Nat):Value:=.func (.func 185) #[] #[.pointer (some ⟨pt+1,0,none⟩),.pointer (some ⟨pt+2,0,none⟩),.pointer (some ⟨pt,0,none⟩)]
theorem La(w:World)(g:Gr)(a:Option Addr)(cap:Nat)(top fin:Int):Calls prog 143 #[g.val a cap,.int .i64 top,.int .i64 fin] w
  (Ac λv b=>v=SX w.heap.size∧Boxes b g a cap w.heap.size top fin∧Chg [] w b∧b.heap.size=w.heap.size+3):=by
 apply YZ;intro K c;unfold Q9;simp -dsimp (disch:=first|omega|(simp only[go_sem,seval];try omega))only[go_sem,seval,Gr.val];exact c _ _ ⟨rfl,⟨(by exact so),(by exact so),(by exact so)⟩,(((sg [] w).alloc _).alloc _).alloc _,(by exact so)⟩
theorem KV{w:World}{g:Gr}(hg:g.ok){b o cap pt:Nat}(hcap:g.cs.length≤cap){top fin:Int}(ht:-9223372036854775808≤top)(ht2:top≤9223372036854775807)(hB:Boxes w g (some ⟨b,o,none⟩) cap pt top fin)(F:List Nat)(hF:∀x∈F,x<w.heap.size∧(x<pt∨pt+2<x))(I:Nat→World→Prop)(Stop:World→Prop)(hI:∀y w1 w2,I y w1→Chg [w.heap.size+1] w1 w2→I y w2)(hSt:∀w1 w2,Stop w1→Chg [w.heap.size+1] w1 w2→Stop w2)(h0:I (max top 0).toNat w){body:List Value→(World→Prop)→(World→Prop)→(Nat→World→Prop)→World→Prop}{QN QR:Nat→World→Prop}{QE:List (Nat × (Nat→World→Prop))}(hR:∀y kn kr kx w1,Chg F w w1→w.heap.size+2≤w1.heap.size→I y w1→top≤(y:Int)→(y:Int)<fin→y<g.h→(∀w2 G,Chg G w1 w2→(∀x∈G,x∈F∨w.heap.size+2≤x)→I (y+1) w2→kn w2)→(∀w2 G,Chg G w1 w2→(∀x∈G,x∈F∨w.heap.size+2≤x)→Stop w2→kr w2)→body [.int .i64 y,BG b o g y] kn kr kx w1)(hN:∀y w2,Chg F w w2→w2.heap[w.heap.size]?=some (.deferred (some []))→I y w2→top≤(y:Int)→(min fin g.h≤y)→((y:Int)≤min fin g.h∨(y:Int)=max top 0)→QN w.heap.size w2)(hQ:∀w2,Chg F w w2→w2.heap[w.heap.size]?=some (.deferred (some []))→Stop w2→QR w.heap.size w2):
  RngX prog (SX pt) 2 (λvs bg kn kr kx w=>bg (λw=>body vs kn kr kx w) w) QN QR QE w:=by
 have hp:=Aa hB.e;have hlow:∀{w2:World} {G:List Nat} (Lp:Obj),Chg ((w.heap.size+1)::F) ((w.alloc (.deferred (some []))).alloc Lp) w2→Chg F w w2:=λ{w2} {G} Lp h =>
  ((((sg F w).alloc (.deferred (some []))).alloc Lp).trans h (by
   intro x hx;rcases rM.1 hx with rfl|hx
   ·exact .inr O
   ·exact .inl hx))
 refine⟨λLp yv hy=>⟨_,[],_,rfl,fO,?_⟩⟩;have hl:∀(st:LSt),((w.alloc (.deferred (some []))).alloc (Lp st)).heap[w.heap.size+1]?=some (Lp st):=λst=>by exact so
 have hr:∀(st:LSt),((w.alloc (.deferred (some []))).alloc (Lp st)).heap[w.heap.size]?=some (.deferred (some [])):=λst=>by exact so
 have hcB:Boxes ((w.alloc (.deferred (some []))).alloc (Lp .ready)) g (some ⟨b,o,none⟩) cap pt top fin:=hB.chg (((sg [] w).alloc _).alloc _) Z;have hFw:w.heap.size∉(w.heap.size+1)::F:=by
  intro hm;rcases rM.1 hm with h|h
  ·omega
  ·have:=hF _ h;omega
 refine se (TJ (w:=(w.alloc (.deferred (some []))).alloc (Lp .ready)) hg hcap (b:=b) (o:=o) (pt:=pt) (top:=top) (fin:=fin) (yv:=yv) ht ht2
  (λy w1=>I y w1∧Chg ((w.heap.size+1)::F) ((w.alloc (.deferred (some []))).alloc (Lp .ready)) w1∧w1.heap[w.heap.size+1]?=some (Lp .ready))
  (λw1=>Stop w1∧Chg ((w.heap.size+1)::F) ((w.alloc (.deferred (some []))).alloc (Lp .ready)) w1∧w1.heap[w.heap.size+1]?=some (Lp (.gone .ret)))
  ?_ ?_ ?_ ?_) (λv w' h=>?_)
 ·rintro y w1 ⟨_,hc,_⟩;refine hcB.chg hc λx hx=>?_;rcases rM.1 hx with rfl|hx
  ·exact .inr O
  ·exact(hF x hx).2
 ·rintro y w1 w2 ⟨hi,hc,hw⟩ h12;exact⟨hI _ _ _ hi (h12.mono Z),hc.trans0 h12,h12.keep hw Z⟩
 ·exact⟨hI _ _ _ h0 ((((sg _ w).alloc _).alloc _)),sg _ _,hl _⟩
 ·rintro y w1 ⟨hi,hc,hw⟩ h1 h2 h3;refine hy _ _ _ rfl hw ⟨hw,?_⟩;have hcb:Chg [w.heap.size+1] w1 (Ab w1 (w.heap.size+1) (Lp .busy)):=(sg _ _).set _ _ Z;have hcL:Chg ((w.heap.size+1)::F) ((w.alloc (.deferred (some []))).alloc (Lp .ready)) (Ab w1 (w.heap.size+1) (Lp .busy)):=hc.trans hcb Z;have hzl:((w.alloc (.deferred (some []))).alloc (Lp .ready)).heap.size=w.heap.size+2:=by exact so
  have hlG:∀G:List Nat,(∀x∈G,x∈F∨w.heap.size+2≤x)→(w.heap.size+1)∉G:=λG hG hm=>by
   rcases hG _ hm with h|h
   ·have:=hF _ h;omega
   ·omega
  refine hR y _ _ _ _ (hlow (G:=F) _ hcL) (by have:=hcL.size;omega) (hI _ _ _ hi hcb) h1 h2 h3 (λw2 G hc2 hG hi2=>?_) (λw2 G hc2 hG hs2=>?_)
  ·have hb:=hc2.keep (Aw _ _ _ _ rfl (Aa hw)) (hlG G hG);exact⟨hb,.inl ⟨rfl,hI _ _ _ hi2 ((sg _ _).set _ _ Z),(hcL.trans hc2 (λx hx=>(hG x hx).elim (λh=>.inl (by simp [h])) (λh=>.inr O))).set _ _ (.inl Z),Aw _ _ _ _ rfl (Aa hb)⟩⟩
  ·have hb:=hc2.keep (Aw _ _ _ _ rfl (Aa hw)) (hlG G hG);exact⟨hb,.inr ⟨rfl,hSt _ _ hs2 ((sg _ _).set _ _ Z),(hcL.trans hc2 (λx hx=>(hG x hx).elim (λh=>.inl (by simp [h])) (λh=>.inr O))).set _ _ (.inl Z),Aw _ _ _ _ rfl (Aa hb)⟩⟩
 ·obtain⟨y,h1,h2,h3,hi,hc,hw⟩|⟨hs,hc,hw⟩:=h
  ·have hc':=hc.set (w.heap.size+1) (Lp (.over .normal)) (.inl Z);exact .inl ⟨hw,hN y _ (hlow (G:=F) _ hc') (hc'.keep (hr _) hFw) (hI _ _ _ hi ((sg _ _).set _ _ Z)) h1 h2 h3⟩
  ·have hc':=hc.set (w.heap.size+1) (Lp (.over .ret)) (.inl Z);exact .inr (.inl ⟨hw,hQ _ (hlow (G:=F) _ hc') (hc'.keep (hr _) hFw) (hSt _ _ hs ((sg _ _).set _ _ Z))⟩)
theorem Dd{w:World}{g:Gr}(hg:g.ok){e:Option TypeId}{a:Option Addr}(hs:SxC w e a g.cs)(cap:Nat)(hcap:g.cs.length≤cap):Calls prog 74 #[g.val a cap] w
  (Ac λv w'=>v=.bool g.right∧Chg [] w w'):=by
 obtain⟨b,o,_,_,_,_,_,rfl,hb0,_⟩:=hs.at_ hg.ne;have hb0':=Aa hb0;clear hb0;have hle:=hg.le;have hm:(g.w:Int)*(g.h:Int)=(g.cs.length:Int):=by rw[hg.len];simp
 have h0:=hg.h0;have h1:=hg.h1;apply cA;intro K hK;unfold NN;simp -dsimp (disch:=first|omega|(simp only[go_sem,seval];try omega))only[go_sem,seval,Gr.val];refine Join1.inl ?_;refine sn ?_;refine td JJ rfl (Jm _ g.w g.h) ?_;rintro v w1 ⟨rfl,rfl⟩;simp -dsimp (disch:=first|omega|(simp only[go_sem,seval];try omega))only[go_sem,seval,hg.fits,hm];have hcw:=((sg [] w).alloc (Obj.cells #[.int .i64 g.w,.int .i64 g.h,.slice (some ⟨b,o,none⟩) g.cs.length cap] 50)).alloc (Obj.cells #[.bool false] 4);have hrv:((w.alloc (Obj.cells #[.int .i64 g.w,.int .i64 g.h,.slice (some ⟨b,o,none⟩) g.cs.length cap] 50)).alloc (Obj.cells #[.bool false] 4)).heap[w.heap.size+1]?=some (Obj.cells #[.bool false] 4):=by exact so
 refine td PJ rfl (La _ g (some ⟨b,o,none⟩) cap 0 g.h) ?_;rintro v w2 ⟨rfl,hB,hc2,hsz⟩;have hs2:=(hs.chg0 hcw).chg0 hc2;have hrv2:=hc2.keep hrv Z;have hcw2:=hcw.trans0 hc2;have e1:((w.alloc (Obj.cells #[.int .i64 g.w,.int .i64 g.h,.slice (some ⟨b,o,none⟩) g.cs.length cap] 50)).alloc (Obj.cells #[.bool false] 4)).heap.size=w.heap.size+2:=by exact so
 rw[e1] at hB hsz ⊢;clear hc2 hcw hrv hs;refine KV hg hcap O O hB [w.heap.size+1] (by simp;omega) (λy w1=>(∀y'<y,right (g.row y')=true)∧w1.heap[w.heap.size+1]?=some (Obj.cells #[.bool false] 4))
  (λw1=>g.right=false∧w1.heap[w.heap.size+1]?=some (Obj.cells #[.bool false] 4)) ?_ ?_ ⟨Z,hrv2⟩ ?_ ?_ ?_
 ·rintro y w3 w4 ⟨h2,h3⟩ hc;exact⟨h2,hc.keep h3 (by simp;omega)⟩
 ·rintro w3 w4 ⟨h2,h3⟩ hc;exact⟨h2,hc.keep h3 (by simp;omega)⟩
 ·rintro y kn kr kx w3 hc-⟨hi,hr3⟩ - - hy hkn hkr;have hs3:SxC w3 e (some ⟨b,o+y*g.w*4,none⟩) (g.row y):=by
   refine Sx.sub (hs2.chg hc ?_) Cel.len (y*g.w) g.w _ (.inr (.inr rfl));intro b' o' hb' _ hm';cases hb';simp at hm';omega
  have hrl:=hg.row_len hy;have hw1:=hg.w1;have hrc:=fi hs3 g.w O;rw[hrl] at hrc;simp -dsimp (disch:=first|omega|(simp only[go_sem,seval];try omega))only[go_sem,seval,BG];refine td Uo rfl (hrc) ?_;rintro v w4 ⟨rfl,hc4⟩;have hr4:=hc4.keep hr3 Z;refine sn ?_;refine BrW.by (λh=>?_) (λh=>?_)
  ·refine sq hr4 ?_;refine hkr _ [w.heap.size+1] ((hc4.mono Z).set _ _ Z) Z ⟨g.right_not hy (by simpa using h),Aw _ _ _ _ rfl (Aa hr4)⟩
  ·refine hkn _ [] hc4 Z ⟨?_,hr4⟩;intro y' hy';by_cases he:y'=y
   ·subst he;simpa using h
   ·exact hi _ O
 ·rintro y w3 hc3 hd ⟨hi,hr3⟩-h2 -;have hlt:=Aa hr3;refine sq hr3 ?_;refine ED (by exact LC1 hd) ?_;refine sn ?_;refine hK _ _ ⟨?_,?_⟩
  ·rw[g.right_of (λy' hy'=>hi _ O)]
  ·refine(hcw2.trans hc3 Z).set _ _ (.inr O) |>.set _ _ (.inr O)
 ·rintro w3 hc3 hd ⟨hr,hr3⟩;refine ED hd ?_;refine sq hr3 ?_;refine hK _ _ ⟨?_,?_⟩
  ·rw[hr]
  ·refine(hcw2.trans hc3 Z).set _ _ (.inr O)
def GAt(base:Nat)(w:World)(v:Value)(g:Gr):Prop:=
 ∃a b c,v=g.val (some ⟨a,0,none⟩) b∧g.cs.length≤b∧base≤a∧w.heap[a]?=some (.cells (g.cs.flatMap Cel.cells++c).toArray 60)
theorem GAt.chg0{base:Nat}{w w':World}{v:Value}{g:Gr}(h:GAt base w v g)(a:Chg [] w w'):GAt base w' v g:=
 let ⟨b,c,d,e,f,i,j⟩:=h;⟨b,c,d,e,f,i,a.keep j Z⟩
theorem GAt.le{base a:Nat}{w:World}{v:Value}{g:Gr}(h:GAt base w v g)(b:a≤base):GAt a w v g:=
 let ⟨c,d,e,f,i,j,k⟩:=h;⟨c,d,e,f,i,Nat.le_trans b j,k⟩
theorem GAt.sx{base:Nat}{w:World}{v:Value}{g:Gr}(h:GAt base w v g):∃a b,v=g.val (some ⟨a,0,none⟩) b∧g.cs.length≤b∧base≤a∧a<w.heap.size∧SxC w (some 60) (some ⟨a,0,none⟩) g.cs:=
 let ⟨a,b,c,d,e,f,i⟩:=h;⟨a,b,d,e,f,Aa i,⟨λ_=>⟨a,0,_,_,_,[],c,rfl,i,by simp [Bz],Z,rfl⟩⟩⟩
def DW(w:World)(g:Gr)(top fin:Int)(a:Value)(f:Nat→List Cel):Prop:=
 ∀(y:Nat) (b:World) (c:Nat) (d e:List Value),top≤(y:Int)→(y:Int)<fin→y<g.h→Chg [] w b→w.heap.size≤c →
  b.heap[c]?=some (.cells (d++(g.row y).flatMap Cel.cells++e).toArray 60)→d.length=y*g.w*4 →
  Bm prog a [.int .i64 y,BG c 0 g y] (λ_ w2=>Chg [c] b w2∧w2.heap[c]?=some (.cells (d++(f y).flatMap Cel.cells++e).toArray 60)) b
theorem Es{w:World}{g:Gr}(b:g.ok){e:Option TypeId}{a:Option Addr}(c:SxC w e a g.cs)(cap:Nat){top fin:Int}(i:-9223372036854775808≤top)(j:top≤9223372036854775807){l:Fn}{us cs:Array Value}{f:Nat→List Cel}(m:DW w g top fin (.func l us cs) f)(n:∀y,y<g.h→top≤(y:Int)→(y:Int)<fin→(f y).length=g.w):
  Calls prog 76 #[g.val a cap,.int .i64 top,.int .i64 fin,.func l us cs] w (Ac λv o=>GAt w.heap.size o v (g.chg top fin f)∧Chg [] w o):=by
 have p:=b.le;have q:=b.h0;have r:=b.h1;apply fR;intro K s;unfold Mk;simp -dsimp (disch:=first|omega|(simp only[go_sem,seval];try omega))only[go_sem,seval,Gr.val];have t:=(((sg [] w).alloc (Obj.cells #[.int .i64 g.w,.int .i64 g.h,.slice a g.cs.length cap] 50)).alloc (Obj.cells #[.func l us cs] 161)).alloc (Obj.cells #[.int .i64 0,.int .i64 0,.slice none 0 0] 50);generalize u:(((w.alloc (Obj.cells #[.int .i64 g.w,.int .i64 g.h,.slice a g.cs.length cap] 50)).alloc (Obj.cells #[.func l us cs] 161)).alloc (Obj.cells #[.int .i64 0,.int .i64 0,.slice none 0 0] 50))=w0 at *;have x:w0.heap.size=w.heap.size+3:=by subst u;exact so
 have z:w0.heap[w.heap.size]?=some (Obj.cells #[.int .i64 g.w,.int .i64 g.h,.slice a g.cs.length cap] 50):=by subst u;exact so
 have A:w0.heap[w.heap.size+1]?=some (Obj.cells #[.func l us cs] 161):=by subst u;exact so
 have B:w0.heap[w.heap.size+2]?=some (Obj.cells #[.int .i64 0,.int .i64 0,.slice none 0 0] 50):=by subst u;exact so
 refine td I8 rfl (I5 (c.chg0 t) cap O) ?_;rintro v C ⟨D,E⟩;obtain⟨F,G,H,rfl,I,J,L⟩:=D.blk b.ne;clear D;have M:=E.keep z Z;have N:=E.keep A Z;have P:=E.keep B Z;have Q:=Aa L;refine sq M ?_;have S:C.heap[F]?≠none:=by rw[L];simp
 have T:Chg [] w (Ab C w.heap.size (Obj.cells #[.int .i64 g.w,.int .i64 g.h,.slice (some ⟨F,0,none⟩) g.cs.length G] 50)):=(t.trans0 E).set _ _ (.inr (rH _));have U:=Aw C w.heap.size (Obj.cells #[.int .i64 g.w,.int .i64 g.h,.slice (some ⟨F,0,none⟩) g.cs.length G] 50) w.heap.size rfl (Aa M);have V:=((sg [w.heap.size] C).set w.heap.size (Obj.cells #[.int .i64 g.w,.int .i64 g.h,.slice (some ⟨F,0,none⟩) g.cs.length G] 50) Z).keep N Z;have W:=((sg [w.heap.size] C).set w.heap.size (Obj.cells #[.int .i64 g.w,.int .i64 g.h,.slice (some ⟨F,0,none⟩) g.cs.length G] 50) Z).keep P Z;have X:=((sg [w.heap.size] C).set w.heap.size (Obj.cells #[.int .i64 g.w,.int .i64 g.h,.slice (some ⟨F,0,none⟩) g.cs.length G] 50) Z).keep L (by simp;omega);generalize o:Ab C w.heap.size (Obj.cells #[.int .i64 g.w,.int .i64 g.h,.slice (some ⟨F,0,none⟩) g.cs.length G] 50)=w2 at *;refine td PJ rfl (La _ g (some ⟨F,0,none⟩) G top fin) ?_;rintro v p ⟨rfl,q,r,x⟩;have l:=T.trans0 r;have c:=r.keep U Z;have u:=r.keep V Z;have D:=r.keep W Z;have J:=r.keep X Z;have z:=Aa X;have A:=Aa J;have B:∀Y y,y<g.h→(if top≤(y:Int)∧(y:Int)<fin∧y<Y then Au (f y) else g.row y).length=g.w:=by
  intro Y y Q;split
  ·rename_i S;rw[Cj,n y Q S.1 S.2.1]
  ·exact b.row_len Q
 refine KV b I i j q [F] (by simp;omega)
  (λY t=>t.heap[F]?=some (Obj.cells ((A7 (λy=>if top≤(y:Int)∧(y:Int)<fin∧y<Y then Au (f y) else g.row y) g.h).flatMap Cel.cells++H).toArray 60)) (λ_=>False) ?_ ?_ ?_ ?_ ?_ ?_
 ·intro y t E M N;exact N.keep M (by simp;omega)
 ·intro t E M _;exact M
 ·rw[J,←b.rows];congr 5;refine BS λy Q=>?_;rw[rF O]
 ·intro y P L C t o _ p x T U V _;obtain⟨d,W⟩:∃d,g.h=y+1+d:=⟨g.h-(y+1),O⟩;obtain⟨r,X⟩:=I2 (λk=>if top≤(k:Int)∧(k:Int)<fin∧k<y then Au (f k) else g.row k) y d;have z:=X _ (λ_ _=>rfl);have A:=X (λk=>if top≤(k:Int)∧(k:Int)<fin∧k<y+1 then Au (f k) else g.row k) (λk i=>by
   have:(top≤(k:Int)∧(k:Int)<fin∧k<y+1)↔(top≤(k:Int)∧(k:Int)<fin∧k<y):=O;simp only[this])
  rw[←W] at z A;simp only[Nat.lt_irrefl,and_false,if_false] at z;rw[rG O] at A;have j:=Ep (R:=λk=>if top≤(k:Int)∧(k:Int)<fin∧k<y then Au (f k) else g.row k) (w:=g.w) (h:=y) (λk i=>B y k O);generalize A7 (λk=>if top≤(k:Int)∧(k:Int)<fin∧k<y then Au (f k) else g.row k) y=pre at z A j;have q:(pre.flatMap Cel.cells).length=y*g.w*4:=by rw[AH Cel.len,j]
  rw[z] at p;have S:t.heap[F]?=some (Obj.cells (pre.flatMap Cel.cells++(g.row y).flatMap Cel.cells++(r.flatMap Cel.cells++H)).toArray 60):=by
   rw[p];simp
  have J:=o.keep u (by simp;omega);have Q:=b.w1;refine sq J ?_;refine(m y t F _ _ x T U (l.trans o (by simp;omega)) O S q).use ?_;rintro v E ⟨N,P⟩;have L:SxC E (some 60) (some ⟨F,y*g.w*4,none⟩) (f y):=⟨λ_=>⟨F,_,_,_,_,_,_,rfl,P,by simp [Bz],rfl,O⟩⟩;have C:=IH L g.w (by rw[n y U x T];omega);rw[n y U x T] at C;simp -dsimp (disch:=first|omega|(simp only[go_sem,seval];try omega))only[go_sem,seval,BG];refine td I3 rfl (C) ?_;rintro v X ⟨B,z⟩;have j:(Au (f y)).length=g.w:=by rw[Cj,n y U x T]
  have r:=b.w0;obtain⟨u,m,q,rfl,S,J,Q⟩:=B.blk (by intro h;rw[h] at j;simp at j;omega);rw[j];have E:=z.keep P Z;have L:SxC X (some 60) (some ⟨u,0,none⟩) (Au (f y)):=⟨λ_=>⟨u,0,_,_,_,[],_,rfl,Q,by simp [Bz],rfl,rfl⟩⟩;refine Fl (new:=(Au (f y)).flatMap Cel.cells) DC E O (by rw[AH Cel.len,AH Cel.len,j,n y U x T]) (by rw[AH Cel.len,j];simp) (C7 Cel.ok _) L.cell ?_;refine V _ [F] (((N.trans0 z)).set _ _ Z) Z ?_;rw[Aw _ _ _ _ rfl (Aa E),A];simp
 ·intro y t o W p C r M;have B:=o.keep c (by simp;omega);have m:=o.keep D (by simp;omega);have q:=Aa m;refine sr B m ?_;refine ED (by exact LC1 W) ?_;refine sn ?_;refine s _ _ ⟨⟨F,G,H,?_,?_,O,?_⟩,?_⟩
  ·show _=Value.agg #[.int .i64 g.w,.int .i64 g.h,.slice _ (g.chg top fin f).cs.length G];rw[Gr.chg_len b n]
  ·rw[Gr.chg_len b n];exact I
  ·rw[A5 _ _ _ _ O,A5 _ _ _ _ O,p];congr 5;refine BS λk i=>?_;have:(top≤(k:Int)∧(k:Int)<fin∧k<y)↔(top≤(k:Int)∧(k:Int)<fin):=O;simp only[this]
  ·exact((l.trans o (by simp;omega)).set _ _ (.inr O)).set _ _ (.inr O)
 ·intro t _ _ M;exact M.elim
theorem OL{w:World}{b o:Nat}{e:TypeId}{pre post:List Value}{l:List Cel}{i:Nat}(h:w.heap[b]?=some (.cells (pre++l.flatMap Cel.cells++post).toArray e))(a:pre.length=o)(c:i<l.length)(y:Cel):
  Ao w.heap[b]? (o+i*4) y.cells=some (.cells (pre++(l.set i y).flatMap Cel.cells++post).toArray e):=by
 obtain⟨p,q,d,f,g⟩:=Gy Cel.len l i l[i] y (rI c);rw[h,d,g];have:=Cw (pre++p) (l[i].cells) y.cells (q++post) e (o+i*4) (by simp;omega) rfl;simpa using this
theorem Sc{w:World}{b o n cap:Nat}{e:TypeId}{pre post:List Value}{l:List Cel}(h:w.heap[b]?=some (.cells (pre++l.flatMap Cel.cells++post).toArray e))(a:pre.length=o)(d:l.length=n)(f:n≤100000)(c:Cel):
  Calls prog 83 #[.slice (some ⟨b,o,none⟩) n cap,c.val] w (Ac λ_ g=>Chg [b] w g∧g.heap[b]?=some (.cells (pre++(Av n λ_=>c).flatMap Cel.cells++post).toArray e)):=by
 have j:=Aa h;apply Sg;intro K m;unfold Kt;refine sn ?_;refine Loop1.st (λk:Nat=>.int .i64 k) (λk g=>k≤n∧Chg [b] w g∧g.heap[w.heap.size]?=some (.cells c.cells.toArray 60)∧∃p,g.heap[b]?=some (.cells (pre++p.flatMap Cel.cells++post).toArray e)∧p.length=n∧∀i,i<k→p[i]?=some c)
  (λk=>n-k) 0 rfl ⟨O,(sg _ _).alloc _,(by exact so),l,(by exact LC1 h),d,Z⟩ ?_
 rintro next k g q ⟨r,s,t,p,u,v,x⟩
 refine sn ?_;refine sd (λh5=>?_) (λh5=>?_)
 ·have y:k<n:=O;have z:=OL u a (i:=k) O c;have A:Ao g.heap[b]? (o+k*4) [.int .i32 c.r,.int .u8 c.fg.toNat,.int .u8 c.bg.toNat,.int .u8 c.a.toNat]=some _:=z;refine sr t A ?_;refine q (k+1) _ ⟨O,s.set _ _ Z,?_,p.set k c,(by rw[Aw _ _ _ _ rfl (Aa u)];simp),by simpa using v,?_⟩ O
  ·rw[A5 _ _ _ _ O];exact t
  ·intro i B;rw[List.getElem?_set];split
   ·rw[rG O]
   ·exact x i O
 ·have y:k=n:=O;subst y;refine m _ _ ⟨s,?_⟩;rw[u,FV v x]
theorem TF(w:World)(a:Option Addr)(cap:Nat)(c:Cel):
  Calls prog 83 #[.slice a 0 cap,c.val] w (Ac λ_ b=>Chg [] w b):=by
 apply Sg;intro K d;unfold Kt;refine sn ?_;refine Loop1.st (λk:Nat=>.int .i64 k) (λk b=>Chg [] w b) (λk=>0) 0 rfl ((sg _ _).alloc _) ?_;rintro next k b e f
 refine sn ?_;refine sd (λh5=>?_) (λh5=>?_)
 ·omega
 ·exact d _ _ f
def AR(w:World)(b:Nat)(n:Int):Prop:=w.heap[b]?=some (.cells #[.int .i64 n] 3)
def Dh(w:World)(b:Nat)(c:Cel):Prop:=w.heap[b]?=some (.cells c.cells.toArray 60)
theorem aC{w:World}{g:Gr}(a:g.ok){b d e:Nat}{left right:Int}{c:Cel}(f:AR w b left)(h:AR w d right)(j:Dh w e c)(k:0≤left)(l:left≤right)(m:right≤g.w)(top fin:Int):
  DW w g top fin (.func (.func 82) #[] #[.pointer (some ⟨b,0,none⟩),.pointer (some ⟨d,0,none⟩),.pointer (some ⟨e,0,none⟩)])
   (λy=>Av g.w λx=>if left≤(x:Int)∧(x:Int)<right then c else g.at x y):=by
 intro y n o p q _ _ r s t u z;have A:=a.w1;have B:=s.keep f Z;have C:=s.keep h Z;have D:=s.keep j Z;refine Bm.of (us:=[]) (cs:=[_,_,_]) aT ?_;show Calls _ _ #[.int .i64 y,BG o 0 g y,.pointer (some ⟨b,0,none⟩),.pointer (some ⟨d,0,none⟩),.pointer (some ⟨e,0,none⟩)] _ _;obtain⟨L,rfl⟩:=Int.eq_ofNat_of_zero_le k;obtain⟨E,rfl⟩:=Int.eq_ofNat_of_zero_le (Int.le_trans k l);apply Xy;intro K F;unfold OI;simp -dsimp (disch:=first|omega|(simp only[go_sem,seval];try omega))only[go_sem,seval,B,C,D,BG];have G:=a.row_len r;by_cases H:E-L=0
 ·rw[H];refine td Jk rfl (TF _ _ _ c) ?_;rintro v w2 I;have J:=(sg [] n).drew.trans0 I;refine F _ _ ⟨J.mono Z,?_⟩;rw[J.keep u Z,a.row_line r];congr 6;refine AX λi M=>?_;rw[rF O]
 ·have N:slo (y*g.w*4) g.w L 4=y*g.w*4+L*4:=by unfold slo;rw[rF O]
  rw[N];have P:g.row y=(g.row y).take L++((g.row y).drop L).take (E-L)++(g.row y).drop E:=by
   have Q:(g.row y).drop E=((g.row y).drop L).drop (E-L):=by rw[List.drop_drop];congr 1;omega
   rw[Q,rJ,List.take_append_drop,List.take_append_drop]
  have R:n.drew.heap[o]?=some (Obj.cells ((p++((g.row y).take L).flatMap Cel.cells)++(((g.row y).drop L).take (E-L)).flatMap Cel.cells++(((g.row y).drop E).flatMap Cel.cells++q)).toArray 60):=by
   show n.heap[o]?=_;rw[u]
   conv=>lhs;rw[P]
   simp
  refine td Jk rfl (Sc R (by rw[rS,z,AH Cel.len,List.length_take,Nat.min_eq_left O]) (by simp;omega) O c) ?_;rintro v w2 ⟨I,S⟩;refine F _ _ ⟨(sg [o] n).drew.trans I Z,?_⟩;rw[S];have:(Av g.w λx=>if(L:Int)≤(x:Int)∧(x:Int)<(E:Int) then c else g.at x y)=(g.row y).take L++(Av (E-L) λ_=>c)++(g.row y).drop E:=by
   refine(FV ?_ λi M=>?_).symm
   ·simp [AP];omega
   ·by_cases T:i<L
    ·rw[rJ,rL (by simp;omega),List.getElem?_take_of_lt T,a.row_get M r,rF O]
    ·by_cases U:i<E
     ·rw[rL (by simp [AP];omega),rK (by simp;omega),Dw (by simp;omega),rG O]
     ·rw[rK (by simp [AP];omega),List.getElem?_drop];have:E+(i-((g.row y).take L++Av (E-L) λ_=>c).length)=i:=by simp [AP];omega
      rw[this,a.row_get M r,rF O]
  dsimp only;rw[this];simp
theorem II{w:World}{g:Gr}(hg:g.ok)(hr:g.right=true){e:Option TypeId}{a:Option Addr}(hs:SxC w e a g.cs)(cap:Nat)(hcap:g.cs.length≤cap){X Y W H:Int}{c:Cel}(hu:c.usual=true)(hX:-9223372036854775808≤X∧X≤9223372036854775807)(hY:-9223372036854775808≤Y∧Y≤9223372036854775807)(hW:W≤9223372036854775807)(hH:H≤9223372036854775807):
  Calls prog 36 #[g.val a cap,.agg #[.int .i64 X,.int .i64 Y,.int .i64 W,.int .i64 H],c.val] w (Ac λv w'=>GAt w.heap.size w' v (g.fill X Y W H c)∧Chg [] w w'):=by
 have hh1:=hg.h1;have hw1:=hg.w1;apply fU;intro K hK;unfold QJ;simp -dsimp (disch:=first|omega|(simp only[go_sem,seval];try omega))only[go_sem,seval,Gr.val];refine Join1.inl ?_;refine sn ?_;refine OpX.gen λw0 hw0=>?_;have hc0:Chg [] w w0:=by rw[hw0];exact Je _ _ _ _ _
 have hz0:w0.heap.size=w.heap.size+4:=by rw[hw0];exact so
 have hg0:w0.heap[w.heap.size]?=some (.cells #[.int .i64 g.w,.int .i64 g.h,.slice a g.cs.length cap] 50):=by rw[hw0];exact so
 have hr0:w0.heap[w.heap.size+1]?=some (.cells #[.int .i64 X,.int .i64 Y,.int .i64 W,.int .i64 H] 42):=by rw[hw0];exact so
 have hk0:w0.heap[w.heap.size+2]?=some (.cells c.cells.toArray 60):=by rw[hw0];exact so
 have ho0:w0.heap[w.heap.size+3]?=some (.cells #[.int .i64 0,.int .i64 0,.slice none 0 0] 50):=by rw[hw0];exact so
 clear hw0;refine td C8 rfl (Dd hg (hs.chg0 hc0) cap hcap) ?_;rintro v w1 ⟨rfl,hc1⟩;rw[hr];have hk1:=hc1.keep hk0 Z;refine sq hk1 ?_;refine td GX rfl (HM _ c) ?_;rintro v w2 ⟨rfl,hc2⟩;rw[hu];have hc12:=hc1.trans0 hc2;have hg2:=hc12.keep hg0 Z;have hr2:=hc12.keep hr0 Z;refine sr hg2 hr2 ?_;refine td D4 rfl (Ec _ Y H g.h O O hY.1 hY.2 hH) ?_;rintro v w3 ⟨rfl,rfl⟩;refine sr hg2 hr2 ?_;refine td D4 rfl (Ec _ X W g.w O O hX.1 hX.2 hW) ?_;rintro v w4 ⟨rfl,rfl⟩;have hlt:=Aa hr2;refine sq hg2 ?_;refine OpX.gen λw5 hw5=>?_;have hc5:Chg [] w4 w5:=by rw[hw5];exact By _ _ _
 have hl5:AR w5 w4.heap.size (AJ X W g.w).1:=by show w5.heap[_]?=_;rw[hw5];exact so
 have hm5:AR w5 (w4.heap.size+1) (AJ X W g.w).2:=by show w5.heap[_]?=_;rw[hw5];exact so
 have hk5:Dh w5 (w.heap.size+2) c:=(hc12.trans0 hc5).keep hk0 Z;have hc05:=(hc0.trans0 hc12).trans0 hc5;clear hw5;have hb1:=Ef (x:=X) (n:=W) (size:=g.w) O;have hb2:=Ef (x:=Y) (n:=H) (size:=g.h) O;refine td D1 rfl (Es hg (hs.chg0 hc05) cap O O (aC hg hl5 hm5 hk5 hb1.1 hb1.2.1 hb1.2.2 _ _) (λy _ _ _=>AP _ _)) ?_;rintro v w6 ⟨hga,hc6⟩;have hc06:=hc05.trans0 hc6;have ho6:=((hc12.trans0 hc5).trans0 hc6).keep ho0 Z;have hlo:=Aa ho6;have hs5:=hc5.size;have hs12:=hc12.size;obtain⟨nb,cap',sp,rfl,k1,k2,k3⟩:=hga;simp -dsimp (disch:=first|omega|(simp only[go_sem,seval];try omega))only[go_sem,seval,Gr.val,ho6];refine hK _ _ ⟨⟨nb,cap',sp,rfl,k1,O,?_⟩,hc06.set _ _ (.inr O)⟩;rw[A5 _ _ _ _ O];exact k3
theorem GG(n:Nat)(h:n≤100000):Ba .and .u64 (n:Int) 4294967295=n:=by
 show IntKind.u64.wrap ((BitVec.ofInt 64 (n:Int) &&& BitVec.ofInt 64 4294967295).toNat:Int)=_;rw[show BitVec.ofInt 64 (n:Int)=BitVec.ofNat 64 n from BitVec.ofInt_natCast ..];rw[BitVec.toNat_and,BitVec.toNat_ofNat,Nat.mod_eq_of_lt O];rw[show(BitVec.ofInt 64 4294967295).toNat=2 ^ 32-1 from rfl,Nat.and_two_pow_sub_one_eq_mod,Nat.mod_eq_of_lt O];exact Jg _ O O
theorem W5(w:World)(n:Nat)(a:n≤100000):Calls prog 227 #[.int .u64 1,.int .u64 n] w (Ac λv b=>v=.tuple #[.int .u64 0,.int .u64 n]∧b=w):=by
 have c:Ba .and .u64 1 4294967295=1:=GG 1 O;have d:Int.fdiv 1 (2 ^ min 32 64)=0:=rC;have e:(n:Int).fdiv (2 ^ min 32 64)=0:=by
  rw[Int.fdiv_eq_ediv_of_nonneg _ rC];exact Int.ediv_eq_zero_of_lt O (by simp;omega)
 have f:Int.fdiv 0 (2 ^ min 32 64)=0:=rC;have g:Ba .and .u64 0 4294967295=0:=GG 0 O;have h:IntKind.u64.wrap (n:Int)=n:=Jg _ O O;have i:IntKind.u64.wrap 0=0:=Jg _ O O;apply Wl;intro K j;unfold Pp;simp -dsimp (disch:=first|omega|(simp only[go_sem,seval];try omega))only[go_sem,seval,c,d,e,f,GG n a];refine j _ _ ⟨?_,rfl⟩;simp only[c,d,e,f,g,h,i,GG n a,Int.zero_mul,Int.one_mul,Int.add_zero,Int.zero_add,Int.mul_zero]
theorem iH(w:World)(n:Nat)(a:n≤100000):Calls prog 184 #[.int .u64 1,.int .u64 n] w (Ac λv b=>v=.tuple #[.int .u64 0,.int .u64 n]∧b=w):=by
 apply VT;intro K c;unfold LJ;refine td Wh rfl (W5 _ n a) ?_;rintro v d ⟨rfl,rfl⟩;refine sn ?_;exact c _ _ ⟨rfl,rfl⟩
theorem T7{w:World}{e:Option TypeId}{a:Option Addr}{c:Cel}(d:SxC w e a [c])(cap n:Nat)(g:0<n)(h:n≤20000):Calls prog 142 #[.slice a 1 cap,.int .i64 n] w
  (Ac λv i=>Chg [] w i∧∃j,v=.slice (some ⟨j,0,none⟩) n n∧w.heap.size≤j∧i.heap[j]?=some (.cells ((List.replicate n c).flatMap Cel.cells).toArray 60)):=by
 apply V1;intro K l;unfold OP;refine Join0.inl ?_;refine sn ?_;refine sd (λh=>O) (λh=>?_);refine sn ?_;refine td Zp rfl (iH _ n O) ?_;rintro v p ⟨rfl,rfl⟩;refine sn ?_;refine Join0.inl ?_;refine Join1.inl ?_;refine sn ?_;refine sd (λh=>O) (λh=>?_);refine sn ?_;refine DJ (f:=Cel.cells) Cel.none Fp Cel.len rfl O O O (rH _) ?_;intro w2 q r;have s:Chg [] p w2:=by rw[q];exact(sg _ _).alloc _
 have u:w2.heap[p.heap.size]?=some (.cells ([]++(List.replicate 1 Cel.none).flatMap Cel.cells++(List.replicate (n-1) Cel.none).flatMap Cel.cells).toArray 60):=by
  rw[q];refine sn ?_;rw[Li (f:=Cel.cells) (z:=Cel.none) (zs:=[.int .i32 0,.int .u8 0,.int .u8 0,.int .u8 0]) rfl];have:n=1+(n-1):=O
  conv=>lhs;rw[this,←List.replicate_append_replicate]
  simp
 obtain⟨b,o,x,y,A,B,C,rfl,D,E,F,G⟩:=(d.chg0 s).at_ Z;have H:SxC w2 e (some ⟨b,o,none⟩) [c]:=d.chg0 s;refine Fl (t:=48) (new:=[c].flatMap Cel.cells) DC u rfl (by simp [Cel.len]) (by simp [Cel.len];omega) (C7 Cel.ok _) H.cell ?_;have I:min 1 n=1:=O;rw[I];have J:Chg [] p (Ab w2 p.heap.size (.cells ([]++[c].flatMap Cel.cells++(List.replicate (n-1) Cel.none).flatMap Cel.cells).toArray 60)):=s.set _ _ (.inr (rH _));have L:=Aw w2 p.heap.size (.cells ([]++[c].flatMap Cel.cells++(List.replicate (n-1) Cel.none).flatMap Cel.cells).toArray 60) p.heap.size rfl (Aa u);generalize Ab w2 p.heap.size (.cells ([]++[c].flatMap Cel.cells++(List.replicate (n-1) Cel.none).flatMap Cel.cells).toArray 60)=w3 at J L ⊢;refine Loop1.st (λk:Nat=>.int .i64 k) (λk i=>0<k∧k≤n∧Chg [] p i∧i.heap[p.heap.size]?=some (.cells ((List.replicate k c).flatMap Cel.cells++(List.replicate (n-k) Cel.none).flatMap Cel.cells).toArray 60)) (λk=>n-k) 1 rfl ⟨O,O,J,by rw[L];rfl⟩ ?_;rintro next k M N ⟨P,Q,R,S⟩
 refine sn ?_;refine sd (λh5=>?_) (λh5=>?_)
 ·refine sn ?_;have T:slo 0 n k 4=k*4:=by unfold slo;rw[rF O];omega
  try rw[T]
  obtain⟨m,hm⟩:∃m,m=min k (n-k):=⟨_,rfl⟩;have U:M.drew.heap[p.heap.size]?=some (.cells ((List.replicate k c).flatMap Cel.cells++(List.replicate m Cel.none).flatMap Cel.cells++(List.replicate (n-k-m) Cel.none).flatMap Cel.cells).toArray 60):=by
   show M.heap[_]?=_;rw[S];have:n-k=m+(n-k-m):=O;rw[this,←List.replicate_append_replicate,←this];simp only[List.flatMap_append,rJ]
  have V:SxC M.drew (some 60) (some ⟨p.heap.size,0,none⟩) (List.replicate m c):=by
   refine⟨λ_=>⟨_,0,_,_,_,[],(List.replicate (k-m) c).flatMap Cel.cells++(List.replicate (n-k) Cel.none).flatMap Cel.cells,rfl,S,by simp [Bz],?_,rfl⟩⟩;have:List.replicate k c=List.replicate m c++List.replicate (k-m) c:=by rw[List.replicate_append_replicate];congr 1;omega
   rw[this];simp only[List.flatMap_append,rJ,List.nil_append]
  refine Fl (new:=(List.replicate m c).flatMap Cel.cells) DC U (by rw[AH Cel.len];simp) (by rw[AH Cel.len,AH Cel.len];simp) (by rw[AH Cel.len,hm];simp) (C7 Cel.ok _) V.cell ?_;rw[←hm];refine sn ?_;refine N (k+m) _ ⟨O,O,(R.set _ _ (.inr (rH _))).drew,?_⟩ O;show(Ab M _ _).heap[_]?=_;rw[Aw _ _ _ _ rfl (Aa S),←List.replicate_append_replicate,show n-(k+m)=n-k-m by omega];simp only[List.flatMap_append,rJ]
 ·have:k=n:=O;subst this;refine l _ _ ⟨R,_,rfl,rH _,?_⟩;rw[S];simp
theorem Jb(w:World)(x y:Nat)(c:Cel)(a:0<x)(b:x≤200)(d:0<y)(e:y≤60):Calls prog 73 #[.int .i64 x,.int .i64 y,c.val] w
  (Ac λv f=>GAt w.heap.size f v (Gr.plain x y c)∧Chg [] w f):=by
 have g:=Nat.mul_le_mul b e;have h:=Nat.mul_pos a d;have i:(x:Int)*(y:Int)=((x*y:Nat):Int):=Z;apply jd;intro K j;unfold LR;refine sn ?_;refine sq i ?_;refine OpX.gen λw0 k=>?_;have l:Chg [] w w0:=by rw[k];exact Fo _ _ _ _
 have m:w0.heap.size=w.heap.size+3:=by rw[k];exact so
 have n:w0.heap[w.heap.size+1]?=some (.cells #[.int .i64 0,.int .i64 0,.slice none 0 0] 50):=by rw[k];exact so
 have o:SxC w0 (some 60) (some ⟨w.heap.size+1+1,0,none⟩) [c]:=Sx.built (c:=c.cells) (by rw[k];exact so) Z;clear k;refine td Z9 rfl (T7 o 1 (x*y) h O) ?_;rintro v p ⟨q,r,rfl,s,t⟩;have u:=q.keep n Z;have z:=Aa u;refine sq u ?_;refine j _ _ ⟨⟨r,x*y,[],?_,by simp [Gr.plain],O,?_⟩,(l.trans0 q).set _ _ (.inr O)⟩
 ·simp [Gr.val,Gr.plain]
 ·rw[A5 _ _ _ _ O,t];simp [Gr.plain]
theorem Ft(w:World)(x y:Nat)(a:0<x)(b:x≤200)(c:0<y)(d:y≤60):Calls prog 31 #[.int .i64 x,.int .i64 y] w
  (Ac λv e=>GAt w.heap.size e v (Gr.plain x y Cel.blank)∧Chg [] w e):=by
 have f:BF x y=true:=by unfold BF;apply decide_eq_true;omega
 apply Y6;intro K g;unfold Of;refine sn ?_;refine td JJ rfl (Jm _ x y) ?_;rintro v h ⟨rfl,rfl⟩;refine sq f ?_;refine td Ei rfl (Ej _) ?_;rintro v w2 ⟨rfl,i⟩;have j:=Ar w (.cells #[.int .i64 0,.int .i64 0,.slice none 0 0] 50);have k:(w.alloc (.cells #[.int .i64 0,.int .i64 0,.slice none 0 0] 50)).heap[w.heap.size]?=some (.cells #[.int .i64 0,.int .i64 0,.slice none 0 0] 50):=by exact so
 have l:=j.trans0 i;have m:=i.keep k Z;have n:=Aa m;refine td Ki rfl (Jb _ x y Cel.blank a b c d) ?_;rintro v o ⟨⟨p,q,r,rfl,s,t,u⟩,z⟩;have A:=z.keep m Z;have B:=Aa A;simp -dsimp (disch:=first|omega|(simp only[go_sem,seval];try omega))only[go_sem,seval,Gr.val,A];refine g _ _ ⟨⟨p,q,r,rfl,s,O,?_⟩,(l.trans0 z).set _ _ (.inr O)⟩;rw[A5 _ _ _ _ O];exact u
theorem Io{w:World}{b o n:Nat}{e:TypeId}{pre post:List Value}{c:Nat→Cel}{i:Nat}(h:w.heap[b]?=some (.cells (pre++(Av n c).flatMap Cel.cells++post).toArray e))(a:pre.length=o)(f:i<n)(v:Cel)(d:Nat→Cel)(g:d i=v)(j:∀k,k<n→k≠i→d k=c k):
  Ao w.heap[b]? (o+i*4) [.int .i32 v.r,.int .u8 v.fg.toNat,.int .u8 v.bg.toNat,.int .u8 v.a.toNat]=some (.cells (pre++(Av n d).flatMap Cel.cells++post).toArray e):=by
 rw[←NL f g j];exact OL h a (by rw[AP];exact f) v
theorem ZI{w:World}{g:Gr}(hg:g.ok){bl br bc bx:Nat}{left right X:Int}{e:Option TypeId}{a:Option Addr}{l:List Cel}{cap:Nat}(h1:AR w bl left)(h2:AR w br right)(h3:w.heap[bc]?=some (.cells #[.slice a l.length cap] 48))(h4:AR w bx X)(hs:SxC w e a l)(hl:0≤left)(hr:right≤g.w)(hx:∀i:Int,left≤i→i<right→X≤i∧i<X+l.length)(hX:-1000000≤X)(top fin:Int):
  DW w g top fin (.func (.func 84) #[] #[.pointer (some ⟨bl,0,none⟩),.pointer (some ⟨br,0,none⟩),.pointer (some ⟨bc,0,none⟩),.pointer (some ⟨bx,0,none⟩)])
   (λy=>Av g.w λx=>if left≤(x:Int)∧(x:Int)<right then l.getD ((x:Int)-X).toNat Cel.none else g.at x y):=by
 intro y w1 nb pre post _ _ hy hc1 hnb hb hpre;have hw1:=hg.w1;have k1:=hc1.keep h1 Z;have k2:=hc1.keep h2 Z;have k3:=hc1.keep h3 Z;have k4:=hc1.keep h4 Z;have n1:=Aa h1;have n2:=Aa h2;have n3:=Aa h3;have n4:=Aa h4;refine Bm.of (us:=[]) (cs:=[_,_,_,_]) Xh ?_;show Calls _ _ #[.int .i64 y,BG nb 0 g y,.pointer (some ⟨bl,0,none⟩),.pointer (some ⟨br,0,none⟩),.pointer (some ⟨bc,0,none⟩),.pointer (some ⟨bx,0,none⟩)] _ _;obtain⟨L,rfl⟩:=Int.eq_ofNat_of_zero_le hl;apply gD;intro K hK;unfold LA;simp -dsimp (disch:=first|omega|(simp only[go_sem,seval];try omega))only[go_sem,seval,k1,BG];refine Loop1.st (λk:Nat=>.int .i64 k) (λk w'=>L≤k∧Chg [nb] w1 w'∧w'.heap[nb]?=some (.cells (pre++(Av g.w λx=>if(L:Int)≤(x:Int)∧(x:Int)<right∧x<k then l.getD ((x:Int)-X).toNat Cel.none else g.at x y).flatMap Cel.cells++post).toArray 60))
  (λk=>g.w-k) L rfl ⟨O,sg _ _,?_⟩ ?_
 ·rw[hb,hg.row_line hy];congr 6;refine AX λi hi=>?_;rw[rF O]
 ·rintro next k w' hn ⟨i1,i2,i3⟩
  have m1:=i2.keep k1 (by simp;omega);have m2:=i2.keep k2 (by simp;omega);have m3:=i2.keep k3 (by simp;omega);have m4:=i2.keep k4 (by simp;omega);refine sq m2 ?_;refine sd (λh5=>?_) (λh5=>?_)
  ·obtain⟨x1,x2⟩:=hx k O h5;have hs':SxC w' e a l:=(hs.chg0 hc1).chg i2 (λb o ha hl hm=>by have:=hs.lt hl ha;simp at hm;omega);obtain⟨q,hq⟩:=Int.eq_ofNat_of_zero_le (show 0≤(k:Int)-X by omega);have hql:q<l.length:=O;obtain⟨b',o',rfl,hb',h6,-⟩:=SxC.cel hs' (rI hql);have hp:=Io i3 hpre (i:=k) O l[q] (λx=>if(L:Int)≤(x:Int)∧(x:Int)<right∧x<k+1 then l.getD ((x:Int)-X).toNat Cel.none else g.at x y)
    (by rw[rG O,hq];simp [rN,hql]) (λj hj hne=>by
     have:((L:Int)≤(j:Int)∧(j:Int)<right∧j<k+1)↔((L:Int)≤(j:Int)∧(j:Int)<right∧j<k):=O;simp only[this])
   simp -dsimp (disch:=first|omega|(simp only[go_sem,seval];try omega))only[go_sem,seval,m3,m4,hq,h6,BG,hp];refine hn (k+1) _ ⟨O,i2.set _ _ Z,?_⟩ O;rw[Aw _ _ _ _ rfl (Aa i3)];simp
  ·refine hK _ _ ⟨i2,?_⟩;rw[i3];congr 6;refine AX λi hi=>?_;have:((L:Int)≤(i:Int)∧(i:Int)<right∧i<k)↔((L:Int)≤(i:Int)∧(i:Int)<right):=O;simp only[this]
theorem cL{w:World}{g:Gr}(a:g.ok){d f i j k:Nat}{l m N:Int}{e:Option TypeId}{b o cap:Nat}{c:Cel}(n:AR w d N)(p:AR w f l)(r:AR w i m)(s:Dh w j c)(t:w.heap[k]?=some (.cells #[.int .i64 g.w,.int .i64 g.h,.slice (some ⟨b,o,none⟩) g.cs.length cap] 50))(u:SxC w e (some ⟨b,o,none⟩) g.cs)(x:g.cs.length≤cap)(z:0≤l)(A:m≤g.h)(B:-100≤N∧N≤100)(top fin:Int):
  DW w g top fin (.func (.func 265) #[] #[.pointer (some ⟨d,0,none⟩),.pointer (some ⟨f,0,none⟩),.pointer (some ⟨i,0,none⟩),.pointer (some ⟨j,0,none⟩),.pointer (some ⟨k,0,none⟩)])
   (λy=>if(y:Int)+N<l∨m≤(y:Int)+N then Av g.w λ_=>c else g.row ((y:Int)+N).toNat):=by
 intro y C D E F _ _ G H I J L;have M:=a.w1;have P:=a.h1;have Q:=H.keep n Z;have R:=H.keep p Z;have S:=H.keep r Z;have T:=H.keep s Z;have U:=H.keep t Z;have V:=a.row_len G;refine Bm.of (us:=[]) (cs:=[_,_,_,_,_]) Xo ?_;show Calls _ _ #[.int .i64 y,BG D 0 g y,.pointer (some ⟨d,0,none⟩),.pointer (some ⟨f,0,none⟩),.pointer (some ⟨i,0,none⟩),.pointer (some ⟨j,0,none⟩),.pointer (some ⟨k,0,none⟩)] _ _;apply Uw;intro K W;unfold S6;refine sh (λv X=>v=.bool (decide ((y:Int)+N<l∨m≤(y:Int)+N))∧X=C) ?_ ?_
 ·refine LX3 Q R S ?_;refine sd (λh=>?_) (λh=>?_)
  ·exact⟨by simp [h],rfl⟩
  ·refine LX3 Q R S ?_;simp [h]
 ·rintro v w2 ⟨rfl,rfl⟩;refine sd (λh=>?_) (λh=>?_)
  ·simp -dsimp (disch:=first|omega|(simp only[go_sem,seval];try omega))only[go_sem,seval,T,BG];refine td Jk rfl (Sc J O V O c) ?_;rintro v Y ⟨z,A⟩;refine W _ _ ⟨z,?_⟩;dsimp only;rw[rG h,A]
  ·obtain⟨q,B⟩:=Int.eq_ofNat_of_zero_le (show 0≤(y:Int)+N by omega);refine LX3 Q U B ?_;refine td F1 rfl (Ge (w:=w2) a b o cap x q O) ?_;rintro v Y ⟨rfl,z⟩;have A:=z.keep J Z;have E:SxC Y e (some ⟨b,o+q*g.w*4,none⟩) (g.row q):=Sx.sub ((u.chg0 H).chg0 z) Cel.len (q*g.w) g.w _ (.inr (.inr rfl));have F:=a.row_len (y:=q) O;refine Fl (new:=(g.row q).flatMap Cel.cells) DC A O (by rw[AH Cel.len,AH Cel.len,F,V]) (by rw[AH Cel.len,F];simp) (C7 Cel.ok _) E.cell ?_;refine W _ _ ⟨(z.mono Z).set _ _ Z,?_⟩;dsimp only;rw[rF h,Aw _ _ _ _ rfl (Aa A),B];rfl
theorem dx{w:World}{g:Gr}(a:g.ok){d f l m:Nat}{X N:Int}{e:Option TypeId}{b o cap:Nat}{c:Cel}(n:AR w d N)(p:AR w f X)(r:Dh w l c)(s:w.heap[m]?=some (.cells #[.int .i64 g.w,.int .i64 g.h,.slice (some ⟨b,o,none⟩) g.cs.length cap] 50))(t:SxC w e (some ⟨b,o,none⟩) g.cs)(u:g.cs.length≤cap)(z:0≤X∧X≤9223372036854775807)(A:-1000≤N∧N≤1000)(top fin:Int):
  DW w g top fin (.func (.func 263) #[] #[.pointer (some ⟨m,0,none⟩),.pointer (some ⟨f,0,none⟩),.pointer (some ⟨l,0,none⟩),.pointer (some ⟨d,0,none⟩)])
   (λy=>Av g.w λx=>if X≤(x:Int) then(if X≤(x:Int)-N∧(x:Int)-N<g.w then g.at ((x:Int)-N).toNat y else c) else g.at x y):=by
 intro y B C D E _ _ F G H I J;have M:=a.w1;have P:=a.h1;have Q:=G.keep n Z;have R:=G.keep p Z;have S:=G.keep r Z;have T:=G.keep s Z;have U:=Aa n;have V:=Aa p;have W:=Aa r;have Y:=Aa s;have A:=a.row_len F;obtain⟨L,rfl⟩:=Int.eq_ofNat_of_zero_le z.1;refine Bm.of (us:=[]) (cs:=[_,_,_,_]) cl ?_;show Calls _ _ #[.int .i64 y,BG C 0 g y,.pointer (some ⟨m,0,none⟩),.pointer (some ⟨f,0,none⟩),.pointer (some ⟨l,0,none⟩),.pointer (some ⟨d,0,none⟩)] _ _;apply Wd;intro K H;unfold Pb;refine sq T ?_;refine td F1 rfl (Ge (w:=B) a b o cap u y F) ?_;rintro v w2 ⟨rfl,M⟩;have P:=M.keep R Z;have n:=M.keep I Z;have U:SxC w2 e (some ⟨b,o+y*g.w*4,none⟩) (g.row y):=Sx.sub ((t.chg0 G).chg0 M) Cel.len (y*g.w) g.w _ (.inr (.inr rfl));have p:b<w.heap.size:=t.lt a.ne rfl;refine sq P ?_;refine Loop1.st (λk:Nat=>.int .i64 k) (λk V=>L≤k∧Chg [C] B V∧V.heap[C]?=some (.cells (D++(Av g.w λx=>if(L:Int)≤(x:Int)∧x<k then(if(L:Int)≤(x:Int)-N∧(x:Int)-N<g.w then g.at ((x:Int)-N).toNat y else c) else g.at x y).flatMap Cel.cells++E).toArray 60)
   ∧ SxC V e (some ⟨b,o+y*g.w*4,none⟩) (g.row y))
  (λk=>g.w-k) L rfl ⟨O,M.mono Z,?_,U⟩ ?_
 ·rw[n,a.row_line F];congr 6;refine AX λi r=>?_;rw[rF O]
 ·rintro next k V W ⟨s,Y,d,f⟩
  have l:=Y.keep Q (by simp;omega);have m:=Y.keep R (by simp;omega);have z:=Y.keep S (by simp;omega);have A:=Y.keep T (by simp;omega);refine sq A ?_;refine sd (λh5=>?_) (λh5=>?_)
  ·have u:k<g.w:=O;have I:=Io d J (i:=k) u c (λx=>if x=k then c else if(L:Int)≤(x:Int)∧x<k then(if(L:Int)≤(x:Int)-N∧(x:Int)-N<g.w then g.at ((x:Int)-N).toNat y else c) else g.at x y)
    (by rw[rG rfl]) (λj G t=>by rw[rF t])
   have P:=Aw V C (.cells (D++(Av g.w (λx=>if x=k then c else if(L:Int)≤(x:Int)∧x<k then(if(L:Int)≤(x:Int)-N∧(x:Int)-N<g.w then g.at ((x:Int)-N).toNat y else c) else g.at x y)).flatMap Cel.cells++E).toArray 60) C rfl (Aa d);have p:=(sg [C] V).set C (.cells (D++(Av g.w (λx=>if x=k then c else if(L:Int)≤(x:Int)∧x<k then(if(L:Int)≤(x:Int)-N∧(x:Int)-N<g.w then g.at ((x:Int)-N).toNat y else c) else g.at x y)).flatMap Cel.cells++E).toArray 60) Z;simp only[rJ] at I P p;simp -dsimp (disch:=first|omega|(simp only[go_sem,seval];try omega))only[go_sem,seval,z,BG,I];generalize Ab V C _=w6 at P p ⊢;have B:=p.keep l (by simp;omega);have M:=p.keep m (by simp;omega);have n:=p.keep A (by simp;omega);have U:=Y.trans p Z;have s:SxC w6 e (some ⟨b,o+y*g.w*4,none⟩) (g.row y):=f.chg p (λb' Q R S T=>by cases R;simp at T;omega);refine sh (λv V=>v=.bool (decide ((L:Int)≤(k:Int)-N∧(k:Int)-N<g.w))∧V=w6) ?_ ?_
   ·refine LX3 B M n ?_;refine sd (λh=>?_) (λh=>?_)
    ·refine sr B n ?_;simp [h]
    ·exact⟨by simp [h],rfl⟩
   ·rintro v D ⟨rfl,rfl⟩;refine sd (λh=>?_) (λh=>?_)
    ·obtain⟨q,E⟩:=Int.eq_ofNat_of_zero_le (show 0≤(k:Int)-N by omega);have z:q<g.w:=O;obtain⟨I,Q,l,m,A,-⟩:=SxC.cel s (a.row_get z F);cases l;simp only[←rJ] at P;have V:=Io P J (i:=k) u (g.at q y) (λx=>if(L:Int)≤(x:Int)∧x<k+1 then(if(L:Int)≤(x:Int)-N∧(x:Int)-N<g.w then g.at ((x:Int)-N).toNat y else c) else g.at x y)
      (by rw[rG O,rG h,E];rfl) (λj G t=>by
       have:((L:Int)≤(j:Int)∧j<k+1)↔((L:Int)≤(j:Int)∧j<k):=O;simp only[this,rF t])
     simp -dsimp (disch:=first|omega|(simp only[go_sem,seval];try omega))only[go_sem,seval,B,E,A,BG,V];refine W (k+1) _ ⟨O,U.set _ _ Z,?_,?_⟩ O
     ·rw[Aw _ _ _ _ rfl (Aa P)];simp
     ·exact s.chg ((sg [C] _).set _ _ Z) (λb' Q R S T=>by cases R;simp at T;omega)
    ·refine sn ?_;refine W (k+1) _ ⟨O,U,?_,s⟩ O;rw[P];simp only[←rJ];congr 6;refine AX λj G=>?_;by_cases t:j=k
     ·subst t;rw[rG rfl,rG O,rF h]
     ·have:((L:Int)≤(j:Int)∧j<k+1)↔((L:Int)≤(j:Int)∧j<k):=O;simp only[this,rF t]
  ·refine H _ _ ⟨Y,?_⟩;rw[d];congr 6;refine AX λi r=>?_;have:((L:Int)≤(i:Int)∧i<k)↔((L:Int)≤(i:Int)):=O;simp only[this]
theorem SQ{w:World}{g:Gr}(b:g.ok)(a:Option Addr)(cap:Nat):Calls prog 147 #[g.val a cap] w (Ac λv c=>v=.bool true∧Chg [] w c):=by
 have d:=b.w0;have e:=b.h0;have f:(g.cs.length:Int).tdiv g.w=g.h:=by
  rw[b.len];have:((g.w*g.h:Nat):Int)=(g.w:Int)*g.h:=Z;rw[this,Int.mul_tdiv_cancel_left _ O]
 have h:=b.le;have i:=b.h1;apply iU;intro K j;unfold SI;simp -dsimp (disch:=first|omega|(simp only[go_sem,seval];try omega))only[go_sem,seval,Gr.val];refine sh (λv c=>v=.bool true∧Chg [] w c) ?_ ?_
 ·refine sq f ?_;refine sd (λh=>?_) (λh=>O);refine sn ?_;refine sd (λh=>?_) (λh=>O);refine sq f ?_;exact⟨Z,(Ar _ _).drew⟩
 ·rintro v k ⟨rfl,l⟩;exact j _ _ ⟨rfl,l⟩
theorem Z5{w:World}{g:Gr}(b:g.ok){e:Option TypeId}{a:Option Addr}(c:SxC w e a g.cs)(cap:Nat)(x y:Int):Calls prog 78 #[g.val a cap,.int .i64 x,.int .i64 y] w
  (Ac λv d=>v=(if 0≤y∧y<g.h∧0≤x∧x<g.w then g.at x.toNat y.toNat else Cel.none).val∧Chg [] w d):=by
 have f:=b.w1;have i:=b.h1;apply U5;intro K j;unfold SY;simp -dsimp (disch:=first|omega|(simp only[go_sem,seval];try omega))only[go_sem,seval,Gr.val];have k:=By w (.cells #[.int .i64 g.w,.int .i64 g.h,.slice a g.cs.length cap] 50) (.cells #[.int .i32 0,.int .u8 0,.int .u8 0,.int .u8 0] 60);have l:((w.alloc (.cells #[.int .i64 g.w,.int .i64 g.h,.slice a g.cs.length cap] 50)).alloc (.cells #[.int .i32 0,.int .u8 0,.int .u8 0,.int .u8 0] 60)).heap[w.heap.size]?=some (.cells #[.int .i64 g.w,.int .i64 g.h,.slice a g.cs.length cap] 50):=by exact so
 have m:((w.alloc (.cells #[.int .i64 g.w,.int .i64 g.h,.slice a g.cs.length cap] 50)).alloc (.cells #[.int .i32 0,.int .u8 0,.int .u8 0,.int .u8 0] 60)).heap[w.heap.size+1]?=some (.cells #[.int .i32 0,.int .u8 0,.int .u8 0,.int .u8 0] 60):=by exact so
 generalize ((w.alloc (.cells #[.int .i64 g.w,.int .i64 g.h,.slice a g.cs.length cap] 50)).alloc (.cells #[.int .i32 0,.int .u8 0,.int .u8 0,.int .u8 0] 60))=w0 at k l m ⊢;refine sh (λv d=>v=.bool (!decide (0≤y∧y<g.h∧0≤x∧x<g.w))∧Chg [] w0 d) ?_ ?_
 ·refine sq l ?_;refine td NS rfl (SQ b a cap) ?_;rintro v n ⟨rfl,o⟩;have p:=o.keep l Z;refine sn ?_;refine sd (λh=>⟨by simp;omega,o⟩) (λh2=>?_);refine sq p ?_;refine sd (λh=>⟨by simp;omega,o⟩) (λh3=>?_);refine sn ?_;refine sd (λh=>⟨by simp;omega,o⟩) (λh4=>?_);refine sq p ?_;refine⟨?_,o⟩;congr 1;exact decide_eq_decide.2 O
 ·rintro v n ⟨rfl,o⟩;have p:=o.keep l Z;have q:=o.keep m Z;have r:=Aa q;have s:=k.trans0 o;by_cases t:0≤y∧y<g.h∧0≤x∧x<g.w
  ·obtain⟨u,rfl⟩:=Int.eq_ofNat_of_zero_le t.2.2.1;obtain⟨z,rfl⟩:=Int.eq_ofNat_of_zero_le t.1;have A:u<g.w:=O;have B:z<g.h:=O;have C:=b.row_lt B;have D:=b.le;rw[rG t] at j;refine BrW.by (λh=>absurd h (by simp [t])) (λ_=>?_);obtain⟨E,F,rfl,G,H,-⟩:=SxC.cel (c.chg0 s) (b.at_some A B);have I:(z:Int)*(g.w:Int)=((z*g.w:Nat):Int):=Z;have J:E≠w.heap.size+1:=by
    have:E<w.heap.size:=c.lt b.ne rfl;omega
   have L:((z*g.w:Nat):Int)+(u:Int)=((z*g.w+u:Nat):Int):=Z;simp -dsimp (disch:=first|omega|(simp only[go_sem,seval];try omega))only[go_sem,seval,p,I,L,H,q];refine j _ _ ⟨rfl,s.set _ _ (.inr O)⟩
  ·rw[rF t] at j;refine BrW.by (λ_=>?_) (λh=>absurd h (by simp;omega));refine sq q ?_;refine j _ _ ⟨rfl,s.set _ _ (.inr O)⟩
theorem jU{w:World}{g f:Gr}(b:g.ok)(c:f.ok){d h l m n:Nat}{left right X Y:Int}{e:Option TypeId}{a:Option Addr}{cap:Nat}(p:AR w d left)(q:AR w h right)(r:w.heap[l]?=some (.cells #[.int .i64 f.w,.int .i64 f.h,.slice a f.cs.length cap] 50))(s:AR w m X)(t:AR w n Y)(u:SxC w e a f.cs)(z:0≤left)(A:right≤g.w)(B:-1000000≤X∧X≤1000000)(C:-1000000≤Y∧Y≤1000000)(top fin:Int):
  DW w g top fin (.func (.func 77) #[] #[.pointer (some ⟨d,0,none⟩),.pointer (some ⟨h,0,none⟩),.pointer (some ⟨l,0,none⟩),.pointer (some ⟨m,0,none⟩),.pointer (some ⟨n,0,none⟩)])
   (λy=>Av g.w λx=>if left≤(x:Int)∧(x:Int)<right then(if 0≤(y:Int)-Y∧(y:Int)-Y<f.h∧0≤(x:Int)-X∧(x:Int)-X<f.w then f.at ((x:Int)-X).toNat ((y:Int)-Y).toNat else Cel.none) else g.at x y):=by
 intro y D E G H _ _ I J M N P;have Q:=b.w1;have R:=b.h1;have S:=J.keep p Z;have T:=J.keep q Z;have U:=J.keep r Z;have V:=J.keep s Z;have W:=J.keep t Z;have A:=Aa p;have B:=Aa q;have C:=Aa r;have M:=Aa s;have Q:=Aa t;refine Bm.of (us:=[]) (cs:=[_,_,_,_,_]) fV ?_;show Calls _ _ #[.int .i64 y,BG E 0 g y,.pointer (some ⟨d,0,none⟩),.pointer (some ⟨h,0,none⟩),.pointer (some ⟨l,0,none⟩),.pointer (some ⟨m,0,none⟩),.pointer (some ⟨n,0,none⟩)] _ _;obtain⟨L,rfl⟩:=Int.eq_ofNat_of_zero_le z;obtain⟨F,hF⟩:∃F:Nat→Cel,F=λx:Nat=>(if 0≤(y:Int)-Y∧(y:Int)-Y<f.h∧0≤(x:Int)-X∧(x:Int)-X<f.w then f.at ((x:Int)-X).toNat ((y:Int)-Y).toNat else Cel.none):=⟨_,rfl⟩;have R:(λx:Nat=>if(L:Int)≤(x:Int)∧(x:Int)<right then(if 0≤(y:Int)-Y∧(y:Int)-Y<f.h∧0≤(x:Int)-X∧(x:Int)-X<f.w then f.at ((x:Int)-X).toNat ((y:Int)-Y).toNat else Cel.none) else g.at x y)=λx:Nat=>if(L:Int)≤(x:Int)∧(x:Int)<right then F x else g.at x y:=by rw[hF]
 dsimp only;rw[R];apply Tx;intro K p;unfold NT;simp -dsimp (disch:=first|omega|(simp only[go_sem,seval];try omega))only[go_sem,seval,S,BG];refine Loop1.st (λk:Nat=>.int .i64 k) (λk A=>L≤k∧Chg [E] D A∧A.heap[E]?=some (.cells (G++(Av g.w λx=>if(L:Int)≤(x:Int)∧(x:Int)<right∧x<k then F x else g.at x y).flatMap Cel.cells++H).toArray 60))
  (λk=>g.w-k) L rfl ⟨O,sg _ _,?_⟩ ?_
 ·rw[N,b.row_line I];congr 6;refine AX λi q=>?_;rw[rF O]
 ·rintro next k A B ⟨r,C,s⟩
  have M:=C.keep S (by simp;omega);have d:=C.keep T (by simp;omega);have h:=C.keep U (by simp;omega);have l:=C.keep V (by simp;omega);have m:=C.keep W (by simp;omega);refine sq d ?_;refine sd (λh5=>?_) (λh5=>?_)
  ·have n:SxC A e a f.cs:=(u.chg0 J).chg C (λb o t z Q=>by have:=u.lt z t;simp at Q;omega);refine LX3 h l m ?_;refine td Tz rfl (Z5 c n cap ((k:Int)-X) ((y:Int)-Y)) ?_;rintro v w2 ⟨rfl,R⟩;rw[show(if 0≤(y:Int)-Y∧(y:Int)-Y<f.h∧0≤(k:Int)-X∧(k:Int)-X<f.w then f.at ((k:Int)-X).toNat ((y:Int)-Y).toNat else Cel.none)=F k by rw[hF]];have b:=R.keep s Z;have D:=Io b P (i:=k) O (F k) (λx=>if(L:Int)≤(x:Int)∧(x:Int)<right∧x<k+1 then F x else g.at x y)
    (by rw[rG O]) (λj E G=>by
     have:((L:Int)≤(j:Int)∧(j:Int)<right∧j<k+1)↔((L:Int)≤(j:Int)∧(j:Int)<right∧j<k):=O;simp only[this])
   simp -dsimp (disch:=first|omega|(simp only[go_sem,seval];try omega))only[go_sem,seval,BG,D];refine B (k+1) _ ⟨O,(C.trans0 R).set _ _ Z,?_⟩ O;rw[Aw _ _ _ _ rfl (Aa b)];simp
  ·refine p _ _ ⟨C,?_⟩;rw[s];congr 6;refine AX λi q=>?_;have:((L:Int)≤(i:Int)∧(i:Int)<right∧i<k)↔((L:Int)≤(i:Int)∧(i:Int)<right):=O;simp only[this]
theorem Rz {w:World} {g G:Gr} (hg:g.ok) (hG:G.ok) {bg:Nat} {e:Option TypeId} {b o cap:Nat}
  (h5:w.heap[bg]?=some (.cells #[.int .i64 g.w,.int .i64 g.h,.slice (some ⟨b,o,none⟩) g.cs.length cap] 50)) (hs:SxC w e (some ⟨b,o,none⟩) g.cs) (hcap:g.cs.length≤cap) (top fin:Int) (hfin:fin≤g.h) :
  DW w G top fin (.func (.func 240) #[] #[.pointer (some ⟨bg,0,none⟩)])
   (λy=>Av G.w λx=>if x<g.w then g.at x y else G.at x y):=by
 intro y w1 nb pre post _ hfy hy hc1 hnb hb hpre
 have hw1:=hg.w1
 have hW1:=hG.w1
 have hw0:=hg.w0
 have hyg:y<g.h:=by omega
 have k5:=hc1.keep h5 (by simp)
 refine Bm.of (us:=[]) (cs:=[_]) gi ?_
 show Calls _ _ #[.int .i64 y,BG nb 0 G y,.pointer (some ⟨bg,0,none⟩)] _ _
 apply Xr
 intro K hK
 unfold NU
 refine sq k5 ?_
 refine OpX.call F1 rfl (Calls.ret (Ge (w:=w1) hg b o cap hcap y hyg) ?_)
 rintro v w2 ⟨rfl,hc2⟩
 have hb2:=hc2.keep hb (by simp)
 have hs2:SxC w2 e (some ⟨b,o+y*g.w*4,none⟩) (g.row y):=Sx.sub ((hs.chg0 hc1).chg0 hc2) Cel.len (y*g.w) g.w _ (.inr (.inr rfl))
 have hrl:=hg.row_len hyg
 have hRl:=hG.row_len hy
 have hb3:w2.heap[nb]?=some (.cells (pre++((G.row y).take g.w).flatMap Cel.cells++(((G.row y).drop g.w).flatMap Cel.cells++post)).toArray 60):=by
  rw[hb2]
  conv=>lhs;rw[←List.take_append_drop g.w (G.row y)]
  simp only[List.flatMap_append,List.append_assoc]
 have hs3:SxC w2 e (some ⟨b,o+y*g.w*4,none⟩) ((g.row y).take G.w):=by
  have:=hs2.sub Cel.len 0 G.w (some ⟨b,o+y*g.w*4,none⟩) (.inr (.inr (by simp)))
  simpa using this
 refine Fl (new:=((g.row y).take G.w).flatMap Cel.cells) DC hb3 (by omega) (by rw[AH Cel.len,AH Cel.len];simp;omega) (by rw[AH Cel.len];simp;omega) (C7 Cel.ok _) hs3.cell ?_
 refine hK _ _ ⟨(hc2.mono (by simp)).set _ _ (by simp),?_⟩
 rw[Aw _ _ _ _ rfl (Aa hb3)]
 have:(Av G.w λx=>if x<g.w then g.at x y else G.at x y)=(g.row y).take G.w++(G.row y).drop g.w:=by
  refine(FV (by simp;omega) λi hi=>?_).symm
  by_cases h4:i<g.w
  ·rw[List.getElem?_append_left (by simp;omega),List.getElem?_take_of_lt hi,hg.row_get h4 hyg,if_pos h4]
  ·rw[List.getElem?_append_right (by simp;omega),List.getElem?_drop]
   have:g.w+(i-((g.row y).take G.w).length)=i:=by simp;omega
   rw[this,hG.row_get hi hy,if_neg h4]
 dsimp only
 rw[this]
 simp only[List.flatMap_append,List.append_assoc]
theorem My{w:World}{g:Gr}(hg:g.ok)(hr:g.right=true){e e':Option TypeId}{a a':Option Addr}(hs:SxC w e a g.cs)(cap:Nat)(hcap:g.cs.length≤cap){X Y:Int}{l:List Cel}(hl:SxC w e' a' l)(cap':Nat)(hll:l.length≤100000)(hX:-1000000≤X∧X≤1000000)(hY:-9223372036854775808≤Y∧Y≤9223372036854775807):
  Calls prog 37 #[g.val a cap,.int .i64 X,.int .i64 Y,.slice a' l.length cap'] w (Ac λv w'=>GAt w.heap.size w' v (g.put X Y l)∧Chg [] w w'):=by
 have hh1:=hg.h1;have hw1:=hg.w1;apply gj;intro K hK;unfold N7;simp -dsimp (disch:=first|omega|(simp only[go_sem,seval];try omega))only[go_sem,seval,Gr.val];refine OpX.gen λw0 hw0=>?_;have hc0:Chg [] w w0:=by rw[hw0];exact Je _ _ _ _ _
 have hz0:w0.heap.size=w.heap.size+4:=by rw[hw0];exact so
 have hg0:w0.heap[w.heap.size]?=some (.cells #[.int .i64 g.w,.int .i64 g.h,.slice a g.cs.length cap] 50):=by rw[hw0];exact so
 have hx0:AR w0 (w.heap.size+1) X:=by show w0.heap[_]?=_;rw[hw0];exact so
 have hk0:w0.heap[w.heap.size+2]?=some (.cells #[.slice a' l.length cap'] 48):=by rw[hw0];exact so
 have ho0:w0.heap[w.heap.size+3]?=some (.cells #[.int .i64 0,.int .i64 0,.slice none 0 0] 50):=by rw[hw0];exact so
 clear hw0;refine td C8 rfl (Dd hg (hs.chg0 hc0) cap hcap) ?_;rintro v w1 ⟨rfl,hc1⟩;rw[hr];have hg1:=hc1.keep hg0 Z;have hx1:w1.heap[w.heap.size+1]?=some _:=hc1.keep hx0 Z;have hk1:=hc1.keep hk0 Z;refine sq hg1 ?_;refine td D4 rfl (Ec _ Y 1 g.h O O hY.1 hY.2 O) ?_;rintro v w2 ⟨rfl,rfl⟩;refine LX3 hg1 hx1 hk1 ?_;refine td D4 rfl (Ec _ X l.length g.w O O O O O) ?_;rintro v w4 ⟨rfl,rfl⟩;have hlt:=Aa hk1;refine sq hg1 ?_;refine OpX.gen λw5 hw5=>?_;have hc5:Chg [] w4 w5:=by rw[hw5];exact By _ _ _
 have hl5:AR w5 w4.heap.size (AJ X l.length g.w).1:=by show w5.heap[_]?=_;rw[hw5];exact so
 have hm5:AR w5 (w4.heap.size+1) (AJ X l.length g.w).2:=by show w5.heap[_]?=_;rw[hw5];exact so
 have hk5:=hc5.keep hk1 Z;have hx5:AR w5 (w.heap.size+1) X:=hc5.keep hx1 Z;have hc05:=(hc0.trans0 hc1).trans0 hc5;clear hw5;have hb1:=Ef (x:=X) (n:=l.length) (size:=g.w) O;have hb2:=Ef (x:=Y) (n:=1) (size:=g.h) O;refine td D1 rfl (Es hg (hs.chg0 hc05) cap O O (ZI hg hl5 hm5 hk5 hx5 (hl.chg0 hc05) hb1.1 hb1.2.2 (λi h1 h2=>(BX O O).1 ⟨h1,h2⟩) hX.1 _ _) (λy _ _ _=>AP _ _)) ?_;rintro v w6 ⟨hga,hc6⟩;have hc06:=hc05.trans0 hc6;have ho6:=((hc1.trans0 hc5).trans0 hc6).keep ho0 Z;have hlo:=Aa ho6;have hs5:=hc5.size;have hs12:=hc1.size;obtain⟨nb,cap',sp,rfl,k1,k2,k3⟩:=hga;simp -dsimp (disch:=first|omega|(simp only[go_sem,seval];try omega))only[go_sem,seval,Gr.val,ho6];refine hK _ _ ⟨⟨nb,cap',sp,rfl,k1,O,?_⟩,hc06.set _ _ (.inr O)⟩;rw[A5 _ _ _ _ O];exact k3
theorem VW{w:World}{g:Gr}(hg:g.ok)(hr:g.right=true){e:Option TypeId}{a:Option Addr}(hs:SxC w e a g.cs)(cap:Nat)(hcap:g.cs.length≤cap){T E N:Int}{c:Cel}(hu:c.usual=true):
  Calls prog 258 #[g.val a cap,.int .i64 T,.int .i64 E,.int .i64 N,c.val] w (Ac λv w'=>GAt w.heap.size w' v (g.scroll T E N c)∧Chg [] w w'):=by
 have hh1:=hg.h1;have hw1:=hg.w1;obtain⟨b,o,_,_,_,_,_,rfl,hb0,_⟩:=hs.at_ hg.ne;have hb0':=Aa hb0;clear hb0;apply aR;intro K hK;unfold RR;simp -dsimp (disch:=first|omega|(simp only[go_sem,seval];try omega))only[go_sem,seval,Gr.val];refine Join1.inl ?_;refine sn ?_;refine OpX.gen λw0 hw0=>?_;have hc0:Chg [] w w0:=by rw[hw0];exact Wf _ _ _ _ _ _ _
 have hz0:w0.heap.size=w.heap.size+6:=by rw[hw0];exact so
 have hg0:w0.heap[w.heap.size]?=some (.cells #[.int .i64 g.w,.int .i64 g.h,.slice (some ⟨b,o,none⟩) g.cs.length cap] 50):=by rw[hw0];exact so
 have ht0:AR w0 (w.heap.size+1) T:=by show w0.heap[_]?=_;rw[hw0];exact so
 have he0:AR w0 (w.heap.size+2) E:=by show w0.heap[_]?=_;rw[hw0];exact so
 have hn0:AR w0 (w.heap.size+3) N:=by show w0.heap[_]?=_;rw[hw0];exact so
 have hk0:Dh w0 (w.heap.size+4) c:=by show w0.heap[_]?=_;rw[hw0];exact so
 have ho0:w0.heap[w.heap.size+5]?=some (.cells #[.int .i64 0,.int .i64 0,.slice none 0 0] 50):=by rw[hw0];exact so
 clear hw0;refine td C8 rfl (Dd hg (hs.chg0 hc0) cap hcap) ?_;rintro v w1 ⟨rfl,hc1⟩;rw[hr];have hk1:=hc1.keep hk0 Z;refine sq hk1 ?_;refine td GX rfl (HM _ c) ?_;rintro v w2 ⟨rfl,hc2⟩;rw[hu];have hc12:=hc1.trans0 hc2;have hg2:=hc12.keep hg0 Z;have ht2:w2.heap[w.heap.size+1]?=some _:=hc12.keep ht0 Z;have he2:w2.heap[w.heap.size+2]?=some _:=hc12.keep he0 Z;have hn2:w2.heap[w.heap.size+3]?=some _:=hc12.keep hn0 Z;have hlt:=Aa hn2;have hsz:=hc12.size;refine LX4 hg2 ht2 he2 hn2 ?_;have hlk:=Aa (hc12.keep hk0 Z);have hgk:=Aa hg2;have hk2:=hc12.keep hk0 Z;have ho2:=hc12.keep ho0 Z;have hc02:=hc0.trans0 hc12;refine OpX.gen λw5 hw5=>?_;have hc5:Chg [] w w5:=by rw[hw5];exact(((hc02.set _ _ (.inr O)).set _ _ (.inr O)).set _ _ (.inr O)).drew
 have hg5:w5.heap[w.heap.size]?=some (.cells #[.int .i64 g.w,.int .i64 g.h,.slice (some ⟨b,o,none⟩) g.cs.length cap] 50):=by rw[hw5];exact LC1 hg2
 have ht5:AR w5 (w.heap.size+1) (min (max T 0) g.h):=by show w5.heap[_]?=_;rw[hw5];exact so
 have he5:AR w5 (w.heap.size+1+1) (min (max E 0) g.h):=by show w5.heap[_]?=_;rw[hw5];exact so
 have hn5:AR w5 (w.heap.size+1+1+1) (min (max N (-g.h)) g.h):=by show w5.heap[_]?=_;rw[hw5];exact so
 have hk5:Dh w5 (w.heap.size+1+1+1+1) c:=by show w5.heap[_]?=_;rw[hw5];exact LC1 hk2
 have ho5:w5.heap[w.heap.size+5]?=some (.cells #[.int .i64 0,.int .i64 0,.slice none 0 0] 50):=by rw[hw5];exact LC1 ho2
 clear hw5;have hfl:=hg.scrollF_len (N:=min (max N (-g.h)) g.h) (c:=c) (show 0≤min (max T 0) g.h by omega) (show min (max E 0) g.h≤g.h by omega);refine td D1 rfl (Es hg (hs.chg0 hc5) cap O O (cL hg hn5 ht5 he5 hk5 hg5 (hs.chg0 hc5) hcap O O O _ _) (λy h1 h2 h3=>hfl y)) ?_;rintro v w6 ⟨hga,hc6⟩;have hc06:=hc5.trans0 hc6;have ho6:=hc6.keep ho5 Z;have hs5:=Aa ho5;have hs6:=hc6.size;have hlo:=Aa ho6;obtain⟨nb,cap',sp,rfl,k1,k2,k3⟩:=hga;simp -dsimp (disch:=first|omega|(simp only[go_sem,seval];try omega))only[go_sem,seval,Gr.val,ho6];refine hK _ _ ⟨⟨nb,cap',sp,rfl,k1,O,?_⟩,hc06.set _ _ (.inr O)⟩;rw[A5 _ _ _ _ O];exact k3
theorem Vl{w:World}{g:Gr}(hg:g.ok)(hr:g.right=true){e:Option TypeId}{a:Option Addr}(hs:SxC w e a g.cs)(cap:Nat)(hcap:g.cs.length≤cap){X Y N:Int}{c:Cel}(hu:c.usual=true)(hX:X≤9223372036854775807)(hY:-9223372036854775808≤Y∧Y≤9223372036854775807):
  Calls prog 248 #[g.val a cap,.int .i64 X,.int .i64 Y,.int .i64 N,c.val] w (Ac λv w'=>GAt w.heap.size w' v (g.shift X Y N c)∧Chg [] w w'):=by
 have hh1:=hg.h1;have hw1:=hg.w1;obtain⟨b,o,_,_,_,_,_,rfl,hb0,_⟩:=hs.at_ hg.ne;have hb0':=Aa hb0;clear hb0;apply gO;intro K hK;unfold MV;simp -dsimp (disch:=first|omega|(simp only[go_sem,seval];try omega))only[go_sem,seval,Gr.val];refine Join1.inl ?_;refine sn ?_;refine OpX.gen λw0 hw0=>?_;have hc0:Chg [] w w0:=by rw[hw0];exact IC _ _ _ _ _ _
 have hz0:w0.heap.size=w.heap.size+5:=by rw[hw0];exact so
 have hg0:w0.heap[w.heap.size]?=some (.cells #[.int .i64 g.w,.int .i64 g.h,.slice (some ⟨b,o,none⟩) g.cs.length cap] 50):=by rw[hw0];exact so
 have hx0:AR w0 (w.heap.size+1) X:=by show w0.heap[_]?=_;rw[hw0];exact so
 have hn0:AR w0 (w.heap.size+2) N:=by show w0.heap[_]?=_;rw[hw0];exact so
 have hk0:Dh w0 (w.heap.size+3) c:=by show w0.heap[_]?=_;rw[hw0];exact so
 have ho0:w0.heap[w.heap.size+4]?=some (.cells #[.int .i64 0,.int .i64 0,.slice none 0 0] 50):=by rw[hw0];exact so
 clear hw0;refine td C8 rfl (Dd hg (hs.chg0 hc0) cap hcap) ?_;rintro v w1 ⟨rfl,hc1⟩;rw[hr];have hk1:=hc1.keep hk0 Z;refine sq hk1 ?_;refine td GX rfl (HM _ c) ?_;rintro v w2 ⟨rfl,hc2⟩;rw[hu];have hc12:=hc1.trans0 hc2;have hg2:=hc12.keep hg0 Z;have hx2:w2.heap[w.heap.size+1]?=some _:=hc12.keep hx0 Z;have hn2:w2.heap[w.heap.size+2]?=some _:=hc12.keep hn0 Z;have hk2:=hc12.keep hk0 Z;have ho2:=hc12.keep ho0 Z;have hlt:=Aa ho2;have hsz:=hc12.size;have hc02:=hc0.trans0 hc12;refine LX3 hg2 hx2 hn2 ?_;refine OpX.gen λw5 hw5=>?_;have hc5:Chg [] w w5:=by rw[hw5];exact(((hc02.set _ _ (.inr O)).set _ _ (.inr O))).drew
 have hg5:w5.heap[w.heap.size]?=some (.cells #[.int .i64 g.w,.int .i64 g.h,.slice (some ⟨b,o,none⟩) g.cs.length cap] 50):=by rw[hw5];exact LC1 hg2
 have hx5:AR w5 (w.heap.size+1) (max X 0):=by show w5.heap[_]?=_;rw[hw5];exact so
 have hn5:AR w5 (w.heap.size+1+1) (min (max N (-g.w)) g.w):=by show w5.heap[_]?=_;rw[hw5];exact so
 have hk5:Dh w5 (w.heap.size+1+1+1) c:=by show w5.heap[_]?=_;rw[hw5];exact LC1 hk2
 have ho5:w5.heap[w.heap.size+4]?=some (.cells #[.int .i64 0,.int .i64 0,.slice none 0 0] 50):=by rw[hw5];exact LC1 ho2
 clear hw5;refine td D4 rfl (Ec _ Y 1 g.h O O hY.1 hY.2 O) ?_;rintro v w7 ⟨rfl,rfl⟩;have hb2:=Ef (x:=Y) (n:=1) (size:=g.h) O;refine sq hg5 ?_;refine td D1 rfl (Es hg (hs.chg0 hc5) cap O O (dx hg hn5 hx5 hk5 hg5 (hs.chg0 hc5) hcap O O _ _) (λy h1 h2 h3=>AP _ _)) ?_;rintro v w6 ⟨hga,hc6⟩;have hc06:=hc5.trans0 hc6;have ho6:=hc6.keep ho5 Z;have hs5:=Aa ho5;have hs6:=hc6.size;have hlo:=Aa ho6;obtain⟨nb,cap',sp,rfl,k1,k2,k3⟩:=hga;simp -dsimp (disch:=first|omega|(simp only[go_sem,seval];try omega))only[go_sem,seval,Gr.val,ho6];refine hK _ _ ⟨⟨nb,cap',sp,rfl,k1,O,?_⟩,hc06.set _ _ (.inr O)⟩;rw[A5 _ _ _ _ O];exact k3
theorem gP{w:World}{g f:Gr}(hg:g.ok)(hr:g.right=true)(hf:f.ok)(hrf:f.right=true){e e':Option TypeId}{a a':Option Addr}(hs:SxC w e a g.cs)(cap:Nat)(hcap:g.cs.length≤cap)(hsf:SxC w e' a' f.cs)(cap':Nat)(hcap':f.cs.length≤cap'){X Y:Int}(hX:-1000000≤X∧X≤1000000)(hY:-1000000≤Y∧Y≤1000000):
  Calls prog 32 #[g.val a cap,f.val a' cap',.int .i64 X,.int .i64 Y] w (Ac λv w'=>GAt w.heap.size w' v (g.blit f X Y)∧Chg [] w w'):=by
 have hh1:=hg.h1;have hw1:=hg.w1;have hfh1:=hf.h1;have hfw1:=hf.w1;apply Xn;intro K hK;unfold MZ;simp -dsimp (disch:=first|omega|(simp only[go_sem,seval];try omega))only[go_sem,seval,Gr.val];refine Join1.inl ?_;refine sn ?_;refine OpX.gen λw0 hw0=>?_;have hc0:Chg [] w w0:=by rw[hw0];exact IC _ _ _ _ _ _
 have hz0:w0.heap.size=w.heap.size+5:=by rw[hw0];exact so
 have hg0:w0.heap[w.heap.size]?=some (.cells #[.int .i64 g.w,.int .i64 g.h,.slice a g.cs.length cap] 50):=by rw[hw0];exact so
 have hf0:w0.heap[w.heap.size+1]?=some (.cells #[.int .i64 f.w,.int .i64 f.h,.slice a' f.cs.length cap'] 50):=by rw[hw0];exact so
 have hx0:AR w0 (w.heap.size+2) X:=by show w0.heap[_]?=_;rw[hw0];exact so
 have hy0:AR w0 (w.heap.size+3) Y:=by show w0.heap[_]?=_;rw[hw0];exact so
 have ho0:w0.heap[w.heap.size+4]?=some (.cells #[.int .i64 0,.int .i64 0,.slice none 0 0] 50):=by rw[hw0];exact so
 clear hw0;refine td C8 rfl (Dd hg (hs.chg0 hc0) cap hcap) ?_;rintro v w1 ⟨rfl,hc1⟩;rw[hr];have hf1:=hc1.keep hf0 Z;refine sq hf1 ?_;refine td C8 rfl (Dd hf ((hsf.chg0 hc0).chg0 hc1) cap' hcap') ?_;rintro v w2 ⟨rfl,hc2⟩;rw[hrf];have hc12:=hc1.trans0 hc2;have hg2:=hc12.keep hg0 Z;have hf2:=hc12.keep hf0 Z;have hx2:w2.heap[w.heap.size+2]?=some _:=hc12.keep hx0 Z;have hy2:w2.heap[w.heap.size+3]?=some _:=hc12.keep hy0 Z;have ho2:=hc12.keep ho0 Z;have hlt:=Aa ho2;have hsz:=hc12.size;have hc02:=hc0.trans0 hc12;refine LX4 hg2 hf2 hx2 hy2 ?_;refine td D4 rfl (Ec _ Y f.h g.h O O O O O) ?_;rintro v w3 ⟨rfl,rfl⟩;refine LX4 hg2 hf2 hx2 hy2 ?_;refine td D4 rfl (Ec _ X f.w g.w O O O O O) ?_;rintro v w4 ⟨rfl,rfl⟩;refine sq hg2 ?_;refine OpX.gen λw5 hw5=>?_;have hc5:Chg [] w4 w5:=by rw[hw5];exact By _ _ _
 have hl5:AR w5 w4.heap.size (AJ X f.w g.w).1:=by show w5.heap[_]?=_;rw[hw5];exact so
 have hm5:AR w5 (w4.heap.size+1) (AJ X f.w g.w).2:=by show w5.heap[_]?=_;rw[hw5];exact so
 have hf5:=hc5.keep hf2 Z;have hx5:AR w5 (w.heap.size+2) X:=hc5.keep hx2 Z;have hy5:AR w5 (w.heap.size+3) Y:=hc5.keep hy2 Z;have hc05:=hc02.trans0 hc5;have hsz5:=hc5.size;clear hw5;have hb1:=Ef (x:=X) (n:=f.w) (size:=g.w) O;have hb2:=Ef (x:=Y) (n:=f.h) (size:=g.h) O;refine td D1 rfl (Es hg (hs.chg0 hc05) cap O O (jU hg hf hl5 hm5 hf5 hx5 hy5 (hsf.chg0 hc05) hb1.1 hb1.2.2 hX hY _ _) (λy _ _ _=>AP _ _)) ?_;rintro v w6 ⟨hga,hc6⟩;have hc06:=hc05.trans0 hc6;have ho6:=((hc12.trans0 hc5).trans0 hc6).keep ho0 Z;have hs6:=hc6.size;have hlo:=Aa ho6;obtain⟨nb,cap',sp,rfl,k1,k2,k3⟩:=hga;simp -dsimp (disch:=first|omega|(simp only[go_sem,seval];try omega))only[go_sem,seval,Gr.val,ho6];refine hK _ _ ⟨⟨nb,cap',sp,rfl,k1,O,?_⟩,hc06.set _ _ (.inr O)⟩;rw[A5 _ _ _ _ O];exact k3
theorem SG{w:World}{g:Gr}(hg:g.ok)(hr:g.right=true){e:Option TypeId}{a:Option Addr}(hs:SxC w e a g.cs)(cap:Nat)(hcap:g.cs.length≤cap){x y:Nat}{c:Cel}(hu:c.usual=true)(x0:0<x)(x1:x≤200)(y0:0<y)(y1:y≤60):
  Calls prog 198 #[g.val a cap,.int .i64 x,.int .i64 y,c.val] w (Ac λv w'=>GAt w.heap.size w' v (g.resize x y c)∧Chg [] w w'):=by
 have hh1:=hg.h1;have hw1:=hg.w1;obtain⟨b,o,_,_,_,_,_,rfl,hb0,_⟩:=hs.at_ hg.ne;have hb0':=Aa hb0;clear hb0;have hft:BF x y=true:=by unfold BF;apply decide_eq_true;omega
 apply Yv;intro K hK;unfold OB;simp -dsimp (disch:=first|omega|(simp only[go_sem,seval];try omega))only[go_sem,seval,Gr.val];refine Join1.inl ?_;refine sn ?_;refine OpX.gen λw0 hw0=>?_;have hc0:Chg [] w w0:=by rw[hw0];exact Fo _ _ _ _
 have hz0:w0.heap.size=w.heap.size+3:=by rw[hw0];exact so
 have hg0:w0.heap[w.heap.size]?=some (.cells #[.int .i64 g.w,.int .i64 g.h,.slice (some ⟨b,o,none⟩) g.cs.length cap] 50):=by rw[hw0];exact so
 have hk0:Dh w0 (w.heap.size+1) c:=by show w0.heap[_]?=_;rw[hw0];exact so
 have ho0:w0.heap[w.heap.size+2]?=some (.cells #[.int .i64 0,.int .i64 0,.slice none 0 0] 50):=by rw[hw0];exact so
 clear hw0;refine td C8 rfl (Dd hg (hs.chg0 hc0) cap hcap) ?_;rintro v w1 ⟨rfl,hc1⟩;rw[hr];have hk1:=hc1.keep hk0 Z;refine sq hk1 ?_;refine td GX rfl (HM _ c) ?_;rintro v w2 ⟨rfl,hc2⟩;rw[hu];refine sn ?_;refine td JJ rfl (Jm _ x y) ?_;rintro v w3 ⟨rfl,rfl⟩;have hc12:=hc1.trans0 hc2;have hg2:=hc12.keep hg0 Z;have hk2:=hc12.keep hk0 Z;have ho2:=hc12.keep ho0 Z;have hlt:=Aa ho2;have hsz:=hc12.size;have hc02:=hc0.trans0 hc12;refine sq hft ?_;refine si (λw'=>Chg [] w w'∧∃cs,GAt (w.heap.size+3) w' (.agg cs) (g.resize x y c)∧w'.heap[w.heap.size+2]?=some (.cells cs 50)) ?_ ?_
 ·have hP:=Gr.plain_ok x0 x1 y0 y1 c;refine sr hg2 hk2 ?_;refine⟨?_,?_⟩
  ·refine td Ki rfl (Jb _ x y c x0 x1 y0 y1) ?_;rintro v w5 ⟨hga,hc5⟩;obtain⟨nb,cap5,rfl,hcap5,hnb5,hnl5,hs5⟩:=hga.sx;have hg5:=hc5.keep hg2 Z;have ho5:=hc5.keep ho2 Z;have hc05:=hc02.drew.trans0 hc5;have hsz5:w3.heap.size≤w5.heap.size:=hc5.size;have hz5:=Aa ho5;refine sq hg5 ?_;refine td D1 rfl (Es hP hs5 cap5 O O (Rz hg hP hg5 (hs.chg0 hc05) hcap _ _ O) (λy _ _ _=>AP _ _)) ?_;rintro v w6 ⟨⟨nb6,cap6,sp,rfl,k1,k2,k3⟩,hc6⟩;have ho6:=hc6.keep ho5 Z;have hlo6:=Aa ho6;simp -dsimp (disch:=first|omega|(simp only[go_sem,seval];try omega))only[go_sem,seval,Gr.val,ho6];refine⟨(hc05.trans0 hc6).set _ _ (.inr O),_,⟨nb6,cap6,sp,rfl,k1,O,?_⟩,rfl⟩;rw[A5 _ _ _ _ O];exact k3
  ·refine td Ki rfl (Jb _ x y c x0 x1 y0 y1) ?_;rintro v w5 ⟨hga,hc5⟩;obtain⟨nb,cap5,rfl,hcap5,hnb5,hnl5,hs5⟩:=hga.sx;have hg5:=hc5.keep hg2 Z;have ho5:=hc5.keep ho2 Z;have hc05:=hc02.drew.trans0 hc5;have hsz5:w3.heap.size≤w5.heap.size:=hc5.size;have hz5:=Aa ho5;refine sq hg5 ?_;refine td D1 rfl (Es hP hs5 cap5 O O (Rz hg hP hg5 (hs.chg0 hc05) hcap _ _ O) (λy _ _ _=>AP _ _)) ?_;rintro v w6 ⟨⟨nb6,cap6,sp,rfl,k1,k2,k3⟩,hc6⟩;have ho6:=hc6.keep ho5 Z;have hlo6:=Aa ho6;simp -dsimp (disch:=first|omega|(simp only[go_sem,seval];try omega))only[go_sem,seval,Gr.val,ho6];refine⟨(hc05.trans0 hc6).set _ _ (.inr O),_,⟨nb6,cap6,sp,rfl,k1,O,?_⟩,rfl⟩;rw[A5 _ _ _ _ O];exact k3
 ·rintro w4 ⟨hc4,cs,⟨nb,cap4,sp,hcs,k1,k2,k3⟩,hr4⟩;have hlo4:=Aa hr4;obtain rfl:cs=_:=Value.agg.inj hcs;refine sq hr4 ?_;exact hK _ _ ⟨⟨nb,cap4,sp,rfl,k1,O,k3⟩,hc4⟩
def Bu(b:Bool):Int:=bif b then 1 else 0
@[go_sem] theorem mj:Bu true=1:=rfl
@[go_sem] theorem mJ:Bu false=0:=rfl
theorem CN(b:Bool):0≤Bu b∧Bu b<2:=by cases b<;>decide
structure Scm where
 S:Scr
 b0:Nat
 c0:Nat
 p0:List Value
 b1:Nat
 c1:Nat
 p1:List Value
 gv:Value
 rows:List Rw
def Scm.end(M:Scm):List Value:=M.S.tabs.map Value.bool++[.bool M.S.wraps,.bool M.S.waits,.bool M.S.shown,M.gv]
def Scm.cells(M:Scm):List Value:=
 (.int .i64 M.S.w:Value)::(.int .i64 M.S.h:Value)::(.int .i64 M.S.g0.w:Value)::(.int .i64 M.S.g0.h:Value)::(.slice (some ⟨M.b0,0,none⟩) M.S.g0.cs.length M.c0:Value)::(.int .i64 M.S.g1.w:Value)::(.int .i64 M.S.g1.h:Value)::(.slice (some ⟨M.b1,0,none⟩) M.S.g1.cs.length M.c1:Value)::(.int .i64 M.S.s0.x:Value)::(.int .i64 M.S.s0.y:Value)::(.int .i32 M.S.s0.pen.r:Value)::(.int .u8 M.S.s0.pen.fg.toNat:Value)::(.int .u8 M.S.s0.pen.bg.toNat:Value)::(.int .u8 M.S.s0.pen.a.toNat:Value)::(.int .i64 M.S.s1.x:Value)::(.int .i64 M.S.s1.y:Value)::(.int .i32 M.S.s1.pen.r:Value)::(.int .u8 M.S.s1.pen.fg.toNat:Value)::(.int .u8 M.S.s1.pen.bg.toNat:Value)::(.int .u8 M.S.s1.pen.a.toNat:Value)::(.int .i64 (Bu M.S.alt):Value)::(.int .i64 M.S.now.x:Value)::(.int .i64 M.S.now.y:Value)::(.int .i32 M.S.now.pen.r:Value)::(.int .u8 M.S.now.pen.fg.toNat:Value)::(.int .u8 M.S.now.pen.bg.toNat:Value)::(.int .u8 M.S.now.pen.a.toNat:Value)::(.int .i64 M.S.top:Value)::(.int .i64 M.S.fin:Value)::M.end
def Scm.obj(M:Scm):Obj:=.cells M.cells.toArray 256
theorem Scm.end_len(M:Scm)(h:M.S.tabs.length=200):M.end.length=204:=by simp [Scm.end,h]
theorem Scm.cells_len(M:Scm)(h:M.S.tabs.length=200):M.cells.length=233:=by simp [Scm.cells,M.end_len h]
@[go_sem] theorem Scm.r0(M:Scm):As (some M.obj) 0=some (.int .i64 M.S.w):=rfl
@[go_sem] theorem Scm.r1(M:Scm):As (some M.obj) 1=some (.int .i64 M.S.h):=rfl
@[go_sem] theorem Scm.r4(M:Scm):As (some M.obj) 4=some (.slice (some ⟨M.b0,0,none⟩) M.S.g0.cs.length M.c0):=rfl
@[go_sem] theorem Scm.r7(M:Scm):As (some M.obj) 7=some (.slice (some ⟨M.b1,0,none⟩) M.S.g1.cs.length M.c1):=rfl
@[go_sem] theorem Scm.r8(M:Scm):As (some M.obj) 8=some (.int .i64 M.S.s0.x):=rfl
@[go_sem] theorem Scm.r9(M:Scm):As (some M.obj) 9=some (.int .i64 M.S.s0.y):=rfl
@[go_sem] theorem Scm.r14(M:Scm):As (some M.obj) 14=some (.int .i64 M.S.s1.x):=rfl
@[go_sem] theorem Scm.r15(M:Scm):As (some M.obj) 15=some (.int .i64 M.S.s1.y):=rfl
@[go_sem] theorem Scm.r20(M:Scm):As (some M.obj) 20=some (.int .i64 (Bu M.S.alt)):=rfl
@[go_sem] theorem Scm.r21(M:Scm):As (some M.obj) 21=some (.int .i64 M.S.now.x):=rfl
@[go_sem] theorem Scm.r22(M:Scm):As (some M.obj) 22=some (.int .i64 M.S.now.y):=rfl
@[go_sem] theorem Scm.r25(M:Scm):As (some M.obj) 25=some (.int .u8 M.S.now.pen.bg.toNat):=rfl
@[go_sem] theorem Scm.r27(M:Scm):As (some M.obj) 27=some (.int .i64 M.S.top):=rfl
@[go_sem] theorem Scm.r28(M:Scm):As (some M.obj) 28=some (.int .i64 M.S.fin):=rfl
theorem Scm.rTail(M:Scm)(i:Nat):As (some M.obj) (29+i)=M.end[i]?:=by
 show M.cells.toArray[29+i]?=_;rw[List.getElem?_toArray,Nat.add_comm];rfl
@[go_sem] theorem Scm.r229(M:Scm)(h:M.S.tabs.length=200):As (some M.obj) 229=some (.bool M.S.wraps):=by
 rw[show 229=29+200 from rfl,M.rTail,Scm.end,rK (by simp [h])];simp [h]
@[go_sem] theorem Scm.r230(M:Scm)(h:M.S.tabs.length=200):As (some M.obj) 230=some (.bool M.S.waits):=by
 rw[show 230=29+201 from rfl,M.rTail,Scm.end,rK (by simp [h])];simp [h]
@[go_sem] theorem Scm.r232(M:Scm)(h:M.S.tabs.length=200):As (some M.obj) 232=some (M.gv):=by
 rw[show 232=29+203 from rfl,M.rTail,Scm.end,rK (by simp [h])];simp [h]
@[go_sem] theorem Scm.rTab(M:Scm)(i:Nat)(h:M.S.tabs.length=200)(a:i<200):As (some M.obj) (29+i)=some (.bool (M.S.tabs.getD i false)):=by
 rw[M.rTail,Scm.end,rL (by simp;omega),List.getElem?_map,rN,rI O];rfl
@[go_sem] theorem Scm.a2(M:Scm):AT (some M.obj) 2 3=some #[.int .i64 M.S.g0.w,.int .i64 M.S.g0.h,.slice (some ⟨M.b0,0,none⟩) M.S.g0.cs.length M.c0]:=by
 refine Cz (l:=[.int .i64 M.S.g0.w,.int .i64 M.S.g0.h,.slice (some ⟨M.b0,0,none⟩) M.S.g0.cs.length M.c0]) rfl O λj a=>?_
 match j,a with
 | 0,_=>rfl
 | 1,_=>rfl
 | 2,_=>rfl
@[go_sem] theorem Scm.a5(M:Scm):AT (some M.obj) 5 3=some #[.int .i64 M.S.g1.w,.int .i64 M.S.g1.h,.slice (some ⟨M.b1,0,none⟩) M.S.g1.cs.length M.c1]:=by
 refine Cz (l:=[.int .i64 M.S.g1.w,.int .i64 M.S.g1.h,.slice (some ⟨M.b1,0,none⟩) M.S.g1.cs.length M.c1]) rfl O λj a=>?_
 match j,a with
 | 0,_=>rfl
 | 1,_=>rfl
 | 2,_=>rfl
@[go_sem] theorem Scm.a8(M:Scm):AT (some M.obj) 8 6=some #[.int .i64 M.S.s0.x,.int .i64 M.S.s0.y,.int .i32 M.S.s0.pen.r,.int .u8 M.S.s0.pen.fg.toNat,.int .u8 M.S.s0.pen.bg.toNat,.int .u8 M.S.s0.pen.a.toNat]:=by
 refine Cz (l:=[.int .i64 M.S.s0.x,.int .i64 M.S.s0.y,.int .i32 M.S.s0.pen.r,.int .u8 M.S.s0.pen.fg.toNat,.int .u8 M.S.s0.pen.bg.toNat,.int .u8 M.S.s0.pen.a.toNat]) rfl O λj a=>?_
 match j,a with
 | 0,_=>rfl
 | 1,_=>rfl
 | 2,_=>rfl
 | 3,_=>rfl
 | 4,_=>rfl
 | 5,_=>rfl
@[go_sem] theorem Scm.a14(M:Scm):AT (some M.obj) 14 6=some #[.int .i64 M.S.s1.x,.int .i64 M.S.s1.y,.int .i32 M.S.s1.pen.r,.int .u8 M.S.s1.pen.fg.toNat,.int .u8 M.S.s1.pen.bg.toNat,.int .u8 M.S.s1.pen.a.toNat]:=by
 refine Cz (l:=[.int .i64 M.S.s1.x,.int .i64 M.S.s1.y,.int .i32 M.S.s1.pen.r,.int .u8 M.S.s1.pen.fg.toNat,.int .u8 M.S.s1.pen.bg.toNat,.int .u8 M.S.s1.pen.a.toNat]) rfl O λj a=>?_
 match j,a with
 | 0,_=>rfl
 | 1,_=>rfl
 | 2,_=>rfl
 | 3,_=>rfl
 | 4,_=>rfl
 | 5,_=>rfl
@[go_sem] theorem Scm.a21(M:Scm):AT (some M.obj) 21 6=some #[.int .i64 M.S.now.x,.int .i64 M.S.now.y,.int .i32 M.S.now.pen.r,.int .u8 M.S.now.pen.fg.toNat,.int .u8 M.S.now.pen.bg.toNat,.int .u8 M.S.now.pen.a.toNat]:=by
 refine Cz (l:=[.int .i64 M.S.now.x,.int .i64 M.S.now.y,.int .i32 M.S.now.pen.r,.int .u8 M.S.now.pen.fg.toNat,.int .u8 M.S.now.pen.bg.toNat,.int .u8 M.S.now.pen.a.toNat]) rfl O λj a=>?_
 match j,a with
 | 0,_=>rfl
 | 1,_=>rfl
 | 2,_=>rfl
 | 3,_=>rfl
 | 4,_=>rfl
 | 5,_=>rfl
@[go_sem] theorem Scm.a23(M:Scm):AT (some M.obj) 23 4=some #[.int .i32 M.S.now.pen.r,.int .u8 M.S.now.pen.fg.toNat,.int .u8 M.S.now.pen.bg.toNat,.int .u8 M.S.now.pen.a.toNat]:=by
 refine Cz (l:=[.int .i32 M.S.now.pen.r,.int .u8 M.S.now.pen.fg.toNat,.int .u8 M.S.now.pen.bg.toNat,.int .u8 M.S.now.pen.a.toNat]) rfl O λj a=>?_
 match j,a with
 | 0,_=>rfl
 | 1,_=>rfl
 | 2,_=>rfl
 | 3,_=>rfl
theorem Scm.put(M a:Scm)(o:Nat)(vs:List Value)(h:M.S.tabs.length=200)(b:o+vs.length≤233)(c:M.cells.take o++vs++M.cells.drop (o+vs.length)=a.cells):Ao (some M.obj) o vs=some a.obj:=by
 unfold Scm.obj;rw[EX,rG (by simp [M.cells_len h];omega)];rw[J6,c]
@[go_sem] theorem Scm.wX(M:Scm)(x:Nat)(h:M.S.tabs.length=200):Ao (some M.obj) 21 [.int .i64 (x:Int)]=some ({ M with S:={ M.S with now:={ M.S.now with x:=x } } }:Scm).obj:=M.put _ 21 _ h Z rfl
@[go_sem] theorem Scm.wX0(M:Scm)(h:M.S.tabs.length=200):Ao (some M.obj) 21 [.int .i64 0]=some ({ M with S:={ M.S with now:={ M.S.now with x:=0 } } }:Scm).obj:=M.put _ 21 _ h Z rfl
@[go_sem] theorem Scm.wY(M:Scm)(y:Nat)(h:M.S.tabs.length=200):Ao (some M.obj) 22 [.int .i64 (y:Int)]=some ({ M with S:={ M.S with now:={ M.S.now with y:=y } } }:Scm).obj:=M.put _ 22 _ h Z rfl
@[go_sem] theorem Scm.wNow(M:Scm)(x y:Nat)(r:Int)(f b a:BitVec 8)(h:M.S.tabs.length=200):Ao (some M.obj) 21 [.int .i64 (x:Int),.int .i64 (y:Int),.int .i32 r,.int .u8 (f.toNat:Int),.int .u8 (b.toNat:Int),.int .u8 (a.toNat:Int)]=some ({ M with S:={ M.S with now:=⟨x,y,⟨r,f,b,a⟩⟩ } }:Scm).obj:=M.put _ 21 _ h Z rfl
@[go_sem] theorem Scm.wS0(M:Scm)(x y:Nat)(r:Int)(f b a:BitVec 8)(h:M.S.tabs.length=200):Ao (some M.obj) 8 [.int .i64 (x:Int),.int .i64 (y:Int),.int .i32 r,.int .u8 (f.toNat:Int),.int .u8 (b.toNat:Int),.int .u8 (a.toNat:Int)]=some ({ M with S:={ M.S with s0:=⟨x,y,⟨r,f,b,a⟩⟩ } }:Scm).obj:=M.put _ 8 _ h Z rfl
@[go_sem] theorem Scm.wS1(M:Scm)(x y:Nat)(r:Int)(f b a:BitVec 8)(h:M.S.tabs.length=200):Ao (some M.obj) 14 [.int .i64 (x:Int),.int .i64 (y:Int),.int .i32 r,.int .u8 (f.toNat:Int),.int .u8 (b.toNat:Int),.int .u8 (a.toNat:Int)]=some ({ M with S:={ M.S with s1:=⟨x,y,⟨r,f,b,a⟩⟩ } }:Scm).obj:=M.put _ 14 _ h Z rfl
@[go_sem] theorem Scm.wPen(M:Scm)(r:Int)(f b a:BitVec 8)(h:M.S.tabs.length=200):Ao (some M.obj) 23 [.int .i32 r,.int .u8 (f.toNat:Int),.int .u8 (b.toNat:Int),.int .u8 (a.toNat:Int)]=some ({ M with S:={ M.S with now:={ M.S.now with pen:=⟨r,f,b,a⟩ } } }:Scm).obj:=M.put _ 23 _ h Z rfl
@[go_sem] theorem Scm.wAlt0(M:Scm)(h:M.S.tabs.length=200):Ao (some M.obj) 20 [.int .i64 0]=some ({ M with S:={ M.S with alt:=false } }:Scm).obj:=M.put _ 20 _ h Z rfl
@[go_sem] theorem Scm.wAlt1(M:Scm)(h:M.S.tabs.length=200):Ao (some M.obj) 20 [.int .i64 1]=some ({ M with S:={ M.S with alt:=true } }:Scm).obj:=M.put _ 20 _ h Z rfl
@[go_sem] theorem Scm.wTop(M:Scm)(n:Nat)(h:M.S.tabs.length=200):Ao (some M.obj) 27 [.int .i64 (n:Int)]=some ({ M with S:={ M.S with top:=n } }:Scm).obj:=M.put _ 27 _ h Z rfl
@[go_sem] theorem Scm.wTop0(M:Scm)(h:M.S.tabs.length=200):Ao (some M.obj) 27 [.int .i64 0]=some ({ M with S:={ M.S with top:=0 } }:Scm).obj:=M.put _ 27 _ h Z rfl
@[go_sem] theorem Scm.wFin(M:Scm)(n:Nat)(h:M.S.tabs.length=200):Ao (some M.obj) 28 [.int .i64 (n:Int)]=some ({ M with S:={ M.S with fin:=n } }:Scm).obj:=M.put _ 28 _ h Z rfl
@[go_sem] theorem Scm.wW(M:Scm)(n:Nat)(h:M.S.tabs.length=200):Ao (some M.obj) 0 [.int .i64 (n:Int)]=some ({ M with S:={ M.S with w:=n } }:Scm).obj:=M.put _ 0 _ h Z rfl
@[go_sem] theorem Scm.wH(M:Scm)(n:Nat)(h:M.S.tabs.length=200):Ao (some M.obj) 1 [.int .i64 (n:Int)]=some ({ M with S:={ M.S with h:=n } }:Scm).obj:=M.put _ 1 _ h Z rfl
@[go_sem] theorem Scm.wS0x(M:Scm)(n:Nat)(h:M.S.tabs.length=200):Ao (some M.obj) 8 [.int .i64 (n:Int)]=some ({ M with S:={ M.S with s0:={ M.S.s0 with x:=n } } }:Scm).obj:=M.put _ 8 _ h Z rfl
@[go_sem] theorem Scm.wS0y(M:Scm)(n:Nat)(h:M.S.tabs.length=200):Ao (some M.obj) 9 [.int .i64 (n:Int)]=some ({ M with S:={ M.S with s0:={ M.S.s0 with y:=n } } }:Scm).obj:=M.put _ 9 _ h Z rfl
@[go_sem] theorem Scm.wS1x(M:Scm)(n:Nat)(h:M.S.tabs.length=200):Ao (some M.obj) 14 [.int .i64 (n:Int)]=some ({ M with S:={ M.S with s1:={ M.S.s1 with x:=n } } }:Scm).obj:=M.put _ 14 _ h Z rfl
@[go_sem] theorem Scm.wS1y(M:Scm)(n:Nat)(h:M.S.tabs.length=200):Ao (some M.obj) 15 [.int .i64 (n:Int)]=some ({ M with S:={ M.S with s1:={ M.S.s1 with y:=n } } }:Scm).obj:=M.put _ 15 _ h Z rfl
theorem Scm.wG0(M:Scm)(G:Gr)(b c:Nat)(p:List Value)(h:M.S.tabs.length=200):Ao (some M.obj) 2 [.int .i64 G.w,.int .i64 G.h,.slice (some ⟨b,0,none⟩) G.cs.length c]=some ({ M with S:={ M.S with g0:=G },b0:=b,c0:=c,p0:=p }:Scm).obj:=M.put _ 2 _ h Z rfl
theorem Scm.wG1(M:Scm)(G:Gr)(b c:Nat)(p:List Value)(h:M.S.tabs.length=200):Ao (some M.obj) 5 [.int .i64 G.w,.int .i64 G.h,.slice (some ⟨b,0,none⟩) G.cs.length c]=some ({ M with S:={ M.S with g1:=G },b1:=b,c1:=c,p1:=p }:Scm).obj:=M.put _ 5 _ h Z rfl
theorem Scm.putTail(M a:Scm)(i:Nat)(v:Value)(h:M.S.tabs.length=200)(b:i<204)(c:M.cells.take 29=a.cells.take 29)(d:M.end.set i v=a.end):Ao (some M.obj) (29+i) [v]=some a.obj:=by
 refine M.put a _ _ h (by simp;omega) ?_;have e:M.cells=M.cells.take 29++M.end:=rfl;have f:a.cells=a.cells.take 29++a.end:=rfl;have g:(M.cells.take 29).length=29:=by simp [M.cells_len h]
 have j:=M.end_len h;rw[e,f,←c,←d];rw[List.take_append,List.drop_append,g];rw[List.take_of_length_le (by rw[g];omega),List.drop_eq_nil_of_le (by rw[g];simp;omega)];rw[show 29+i-29=i by omega,show 29+i+[v].length-29=i+1 by simp;omega];rw[List.set_eq_take_append_cons_drop,rG O];simp
@[go_sem] theorem Scm.wTab(M:Scm)(i:Nat)(b:Bool)(h:M.S.tabs.length=200)(a:i<200):Ao (some M.obj) (29+i) [.bool b]=some ({ M with S:={ M.S with tabs:=M.S.tabs.set i b } }:Scm).obj:=
 M.putTail _ i _ h O rfl (by simp only[Scm.end];rw[List.set_append_left _ _ (by simp;omega),List.map_set])
@[go_sem] theorem Scm.wwraps(M:Scm)(b:Bool)(h:M.S.tabs.length=200):Ao (some M.obj) 229 [.bool b]=some ({ M with S:={ M.S with wraps:=b } }:Scm).obj:=
 M.putTail _ 200 _ h O rfl (by simp only[Scm.end];rw[List.set_append_right _ _ (by simp [h])];simp [h])
@[go_sem] theorem Scm.wwaits(M:Scm)(b:Bool)(h:M.S.tabs.length=200):Ao (some M.obj) 230 [.bool b]=some ({ M with S:={ M.S with waits:=b } }:Scm).obj:=
 M.putTail _ 201 _ h O rfl (by simp only[Scm.end];rw[List.set_append_right _ _ (by simp [h])];simp [h])
@[go_sem] theorem Scm.wshown(M:Scm)(b:Bool)(h:M.S.tabs.length=200):Ao (some M.obj) 231 [.bool b]=some ({ M with S:={ M.S with shown:=b } }:Scm).obj:=
 M.putTail _ 202 _ h O rfl (by simp only[Scm.end];rw[List.set_append_right _ _ (by simp [h])];simp [h])
theorem Scm.wGv(M:Scm)(v:Value)(l:List Rw)(g:List (List Cel))(h:M.S.tabs.length=200):Ao (some M.obj) 232 [v]=some ({ M with S:={ M.S with gone:=g },gv:=v,rows:=l }:Scm).obj:=
 M.putTail _ 203 _ h O rfl (by simp only[Scm.end];rw[List.set_append_right _ _ (by simp [h])];simp [h])
def Scm.cb(M:Scm):Nat:=bif M.S.alt then M.b1 else M.b0
def Scm.cc(M:Scm):Nat:=bif M.S.alt then M.c1 else M.c0
def Scm.cp(M:Scm):List Value:=bif M.S.alt then M.p1 else M.p0
def Scm.setCur(M:Scm)(G:Gr)(b c:Nat)(p:List Value):Scm:=
 bif M.S.alt then { M with S:={ M.S with g1:=G },b1:=b,c1:=c,p1:=p } else { M with S:={ M.S with g0:=G },b0:=b,c0:=c,p0:=p }
theorem Scm.setCur_S(M:Scm)(G:Gr)(b c:Nat)(p:List Value):(M.setCur G b c p).S=M.S.setCur G:=by
 unfold Scm.setCur Scr.setCur;rcases Bool.eq_false_or_eq_true M.S.alt with h|h<;>simp only[h,cond_true,cond_false]
@[go_sem] theorem Scm.aCur(M:Scm):AT (some M.obj) (2+(Bu M.S.alt).toNat*3) 3=some #[.int .i64 M.S.cur.w,.int .i64 M.S.cur.h,.slice (some ⟨M.cb,0,none⟩) M.S.cur.cs.length M.cc]:=by
 unfold Scr.cur Scm.cb Scm.cc;cases M.S.alt
 ·exact M.a2
 ·exact M.a5
@[go_sem] theorem Scm.rCur(M:Scm):As (some M.obj) (2+(Bu M.S.alt).toNat*3+2)=some (.slice (some ⟨M.cb,0,none⟩) M.S.cur.cs.length M.cc):=by
 unfold Scr.cur Scm.cb Scm.cc;cases M.S.alt
 ·exact M.r4
 ·exact M.r7
theorem Scm.wCur(M:Scm)(G:Gr)(b c:Nat)(p:List Value)(h:M.S.tabs.length=200):Ao (some M.obj) (2+(Bu M.S.alt).toNat*3) [.int .i64 G.w,.int .i64 G.h,.slice (some ⟨b,0,none⟩) G.cs.length c]=some (M.setCur G b c p).obj:=by
 unfold Scm.setCur;rcases Bool.eq_false_or_eq_true M.S.alt with a|a<;>rw[a]
 ·exact M.wG1 G b c p h
 ·exact M.wG0 G b c p h
def Scm.blk(M:Scm):List Nat:=M.b0::M.b1::M.gv.ownBlock.toList
structure SAt (w:World) (s:Nat) (M:Scm):Prop where
 hb:w.heap[s]?=some M.obj
 h0:w.heap[M.b0]?=some (.cells (M.S.g0.cs.flatMap Cel.cells++M.p0).toArray 60)
 k0:M.S.g0.cs.length≤M.c0
 h1:w.heap[M.b1]?=some (.cells (M.S.g1.cs.flatMap Cel.cells++M.p1).toArray 60)
 k1:M.S.g1.cs.length≤M.c1
 ne:M.b0≠M.b1
 tl:M.S.tabs.length=200
 own:Ox 0 w 48 1 Rw.f M.gv M.rows
 rows:∀r∈M.rows,SxC w (some 60) r.a r.cs
 far:∀r∈M.rows,∀b o,r.a=some ⟨b,o,none⟩→r.cs≠[]→b≠M.b0∧b≠M.b1
 gone:M.S.gone=M.rows.map Rw.cs
theorem SAt.s_ne{w:World}{s:Nat}{M:Scm}(h:SAt w s M):s≠M.b0∧s≠M.b1:=by
 have a:=h.hb;have b:=h.h0;have c:=h.h1;unfold Scm.obj at a;refine⟨λe=>?_,λe=>?_⟩
 ·rw[←e,a] at b;simp at b
 ·rw[←e,a] at c;simp at c
theorem SAt.s_own{w:World}{s:Nat}{M:Scm}(h:SAt w s M):s∉M.gv.ownBlock.toList:=by
 intro a;have b:=h.hb;unfold Scm.obj at b;exact h.own.off b rfl (by simpa using a)
theorem SAt.b_own{w:World}{s:Nat}{M:Scm}(h:SAt w s M):M.b0∉M.gv.ownBlock.toList∧M.b1∉M.gv.ownBlock.toList:=
 ⟨λhm=>h.own.off h.h0 rfl (by simpa using hm),λhm=>h.own.off h.h1 rfl (by simpa using hm)⟩
theorem SAt.row_ne{w:World}{s:Nat}{M:Scm}(h:SAt w s M):∀r∈M.rows,∀b o,r.a=some ⟨b,o,none⟩→r.cs≠[]→b≠s∧b∉M.gv.ownBlock.toList:=by
 intro r hr b o ha hne;have hb:=h.hb;unfold Scm.obj at hb;refine⟨(h.rows r hr).ne ha hne hb rfl,λhm=>?_⟩;obtain⟨hl,ho⟩:=h.own;rcases ho with ⟨hv,-⟩|⟨g,cap,cur,hv,-,hg,-⟩
 ·rw[hv] at hm;simp [Value.ownBlock] at hm
 ·rw[hv] at hm;simp [Value.ownBlock] at hm;subst hm;exact(h.rows r hr).ne ha hne hg rfl rfl
theorem SAt.lt{w:World}{s:Nat}{M:Scm}(h:SAt w s M):∀b∈s::M.blk,b<w.heap.size:=by
 intro b a;simp only[Scm.blk,rM] at a;rcases a with rfl|rfl|rfl|a
 ·exact Aa h.hb
 ·exact Aa h.h0
 ·exact Aa h.h1
 ·obtain⟨c,d⟩:=h.own;rcases d with ⟨e,-⟩|⟨g,f,i,e,-,j,-⟩
  ·rw[e] at a;simp [Value.ownBlock] at a
  ·rw[e] at a;simp [Value.ownBlock] at a;subst a;exact Aa j
theorem SAt.chg{w w':World}{s:Nat}{M:Scm}{F:List Nat}(h:SAt w s M)(a:Chg F w w')(c:∀x∈s::M.blk,x∉F)(d:∀r∈M.rows,∀b o,r.a=some ⟨b,o,none⟩→r.cs≠[]→b∉F):SAt w' s M:=
 ⟨a.keep h.hb (c s Z),a.keep h.h0 (c _ (by simp [Scm.blk])),h.k0,a.keep h.h1 (c _ (by simp [Scm.blk])),h.k1,h.ne,h.tl,h.own.chg a (λb e=>c b (by simp [Scm.blk,←e])),λr f=>(h.rows r f).chg a (d r f),h.far,h.gone⟩
theorem SAt.chg0{w w':World}{s:Nat}{M:Scm}(h:SAt w s M)(a:Chg [] w w'):SAt w' s M:=h.chg a Z Z
theorem SAt.set{w:World}{s:Nat}{M:Scm}(h:SAt w s M)(T:Scr)(a:T.g0.cs=M.S.g0.cs)(c:T.g1.cs=M.S.g1.cs)(d:T.tabs.length=200)(e:T.gone=M.S.gone):SAt (Ab w s ({ M with S:=T }:Scm).obj) s { M with S:=T }:=by
 have f:=Aa h.hb;have g:Chg [s] w (Ab w s ({ M with S:=T }:Scm).obj):=(sg _ _).set _ _ Z;have i:=h.s_ne;refine⟨Aw _ _ _ _ rfl f,?_,?_,?_,?_,h.ne,d,?_,λr j=>(h.rows r j).chg g λb o k l=>?_,h.far,e.trans h.gone⟩
 ·show _=some (Obj.cells (T.g0.cs.flatMap Cel.cells++M.p0).toArray _);rw[a];exact g.keep h.h0 (by simp;omega)
 ·show T.g0.cs.length≤M.c0;rw[a];exact h.k0
 ·show _=some (Obj.cells (T.g1.cs.flatMap Cel.cells++M.p1).toArray _);rw[c];exact g.keep h.h1 (by simp;omega)
 ·show T.g1.cs.length≤M.c1;rw[c];exact h.k1
 ·exact h.own.chg g λb m n=>by
   simp at n;subst n;exact h.s_own (by simp [←m])
 ·simp;exact(h.row_ne r j b o k l).1
def Did(w:World)(s:Nat)(M:Scm)(w':World)(T:Scr):Prop:=∃a:Scm,SAt w' s a∧a.S=T∧Chg (s::M.blk) w w'∧∀b∈a.blk,b∈M.blk∨w.heap.size≤b
theorem Did.of{w w':World}{s:Nat}{M:Scm}(h:SAt w' s M)(a:Chg (s::M.blk) w w'){T:Scr}(e:M.S=T):Did w s M w' T:=⟨M,h,e,a,λb b=>.inl b⟩
theorem Did.refl{w:World}{s:Nat}{M:Scm}(h:SAt w s M):Did w s M w M.S:=.of h (sg _ _) rfl
theorem Did.trans{w w1 w2:World}{s:Nat}{M M1:Scm}{T:Scr}(e:Chg (s::M.blk) w w1)(f:∀b∈M1.blk,b∈M.blk∨w.heap.size≤b)(g:Did w1 s M1 w2 T):Did w s M w2 T:=by
 obtain⟨i,a,b,c,d⟩:=g;refine⟨i,a,b,e.trans c λx j=>?_,λx j=>?_⟩
 ·rcases rM.1 j with rfl|j
  ·exact .inl Z
  ·exact(f x j).imp (λh=>by simp [h]) id
 ·rcases d x j with h|h
  ·exact f x h
  ·have:=e.size;exact .inr O
theorem Did.trans0{w w1 w2:World}{s:Nat}{M:Scm}{T:Scr}(h:Did w s M w1 T)(e:Chg [] w1 w2):Did w s M w2 T:=by
 obtain⟨f,a,b,c,d⟩:=h;exact⟨f,a.chg0 e,b,c.trans0 e,d⟩
theorem Did.set{w w1:World}{s:Nat}{M M1:Scm}(h:SAt w1 s M1)(a:Chg (s::M.blk) w w1)(c:∀b∈M1.blk,b∈M.blk∨w.heap.size≤b)(T:Scr)(d:T.g0.cs=M1.S.g0.cs)(e:T.g1.cs=M1.S.g1.cs)(f:T.tabs.length=200)(g:T.gone=M1.S.gone):Did w s M (Ab w1 s ({ M1 with S:=T }:Scm).obj) T:=
 .trans a c ⟨_,h.set T d e f g,rfl,(sg _ _).set _ _ Z,λb c=>.inl c⟩
theorem HB{w:World}{s:Nat}{M:Scm}(h:SAt w s M)(a:0<M.S.w):Calls prog 163 #[.pointer (some ⟨s,0,none⟩)] w (Ac λv b=>v=.bool false∧w=b):=by
 have c:=h.hb;apply dA;intro K d;unfold PI;refine Join1.inl ?_;refine sq c ?_;exact d _ _ ⟨by simp;omega,rfl⟩
theorem HZ{w:World}{s:Nat}{M:Scm}(h:SAt w s M)(w1:M.S.w≤200)(a:M.S.h≤60)(x y:Int):Calls prog 199 #[.pointer (some ⟨s,0,none⟩),.int .i64 x,.int .i64 y] w
  (Ac λv b=>v=.tuple #[.int .i64 (min (max x 0) ((M.S.w:Int)-1)),.int .i64 (min (max y 0) ((M.S.h:Int)-1))]∧Chg [] w b):=by
 have c:=h.hb;apply Ux;intro K d;unfold SO;refine sq c ?_;exact d _ _ ⟨rfl,(sg _ _).drew⟩
theorem EE{w:World}{s:Nat}{M:Scm}(h:SAt w s M)(ok:M.S.ok)(x y:Int):Calls prog 200 #[.pointer (some ⟨s,0,none⟩),.int .i64 x,.int .i64 y] w
  (Ac λ_ a=>Did w s M a (M.S.move x y)):=by
 have w0:=ok.w0;have b:=ok.h0;have c:=h.tl;apply Qq;intro K d;unfold JF;refine td Ij rfl (HZ h ok.w1 ok.h1 x y) ?_;rintro v e ⟨rfl,f⟩;have g:=h.chg0 f;have i:=g.hb;have j:=Aa i;have k:min (max x 0) ((M.S.w:Int)-1)=((Ay x M.S.w:Nat):Int):=by unfold Ay;omega
 have l:min (max y 0) ((M.S.h:Int)-1)=((Ay y M.S.h:Nat):Int):=by unfold Ay;omega
 rw[k,l];refine sq i ?_;exact d _ _ (Did.set g (f.mono Z) (λb i=>.inl i) _ rfl rfl c rfl)
theorem IW{w:World}{s:Nat}{M:Scm}(h:SAt w s M):Calls prog 211 #[.pointer (some ⟨s,0,none⟩)] w (Ac λ_ a=>Did w s M a M.S.save):=by
 have b:=h.hb;have c:=Aa b;have d:=h.tl;apply UN;intro K e;unfold Rs;unfold Scr.save at e;cases f:M.S.alt with
 | false =>
  rw[f] at e;refine sr b f ?_;exact e _ _ (Did.trans0 (Did.set h (sg _ _) (λb b=>.inl b) _ rfl rfl d rfl) (sg _ _).drew)
 | true =>
  rw[f] at e;refine sr b f ?_;exact e _ _ (Did.trans0 (Did.set h (sg _ _) (λb b=>.inl b) _ rfl rfl d rfl) (sg _ _).drew)
theorem I7{w:World}{s:Nat}{M:Scm}(h:SAt w s M):Calls prog 213 #[.pointer (some ⟨s,0,none⟩)] w (Ac λ_ a=>Did w s M a M.S.restore):=by
 have b:=h.hb;have c:=Aa b;have d:=h.tl;apply Yc;intro K e;unfold LQ;unfold Scr.restore at e;cases f:M.S.alt with
 | false =>
  rw[f] at e;refine sr b f ?_;exact e _ _ (Did.trans0 (Did.set h (sg _ _) (λb b=>.inl b) _ rfl rfl d rfl) (sg _ _).drew)
 | true =>
  rw[f] at e;refine sr b f ?_;exact e _ _ (Did.trans0 (Did.set h (sg _ _) (λb b=>.inl b) _ rfl rfl d rfl) (sg _ _).drew)
theorem GK{w:World}{s:Nat}{M:Scm}(h:SAt w s M):Calls prog 249 #[.pointer (some ⟨s,0,none⟩)] w (Ac λv a=>v=M.S.free.val∧Chg [] w a):=by
 have b:=h.hb;have c:=Aa b;apply aI;intro K d;unfold QD;refine sn ?_;have e:=Ar w (.cells #[.int .i32 0,.int .u8 0,.int .u8 0,.int .u8 0] 60);have f:(w.alloc (.cells #[.int .i32 0,.int .u8 0,.int .u8 0,.int .u8 0] 60)).heap[w.heap.size]?=some (.cells #[.int .i32 0,.int .u8 0,.int .u8 0,.int .u8 0] 60):=by exact so
 generalize w.alloc _=w0 at e f ⊢;refine td Ei rfl (Ej w0) ?_;rintro v g ⟨rfl,i⟩;have j:=(h.chg0 (e.trans0 i)).hb;have k:=Aa j;have l:=i.keep f Z;have m:=Aa l;unfold Cel.blank;refine sr j l ?_;refine d _ _ ⟨by simp [Scr.free,Cel.val],?_⟩;exact((e.trans0 i).set _ _ (.inr (rH _))).alloc _
theorem iI{w:World}{s:Nat}{M:Scm}(h:SAt w s M)(a:0<M.S.w):Calls prog 110 #[.pointer (some ⟨s,0,none⟩)] w
  (Ac λv b=>v=M.gv∧SAt b s { M with S:={ M.S with gone:=[] },gv:=.slice none 0 0,rows:=[] }∧Chg [s] w b):=by
 have c:=h.hb;have d:=Aa c;have e:=h.tl;apply cU;intro K f;unfold SC;refine td HR rfl (HB h a) ?_;rintro v g ⟨rfl,rfl⟩;have i:=M.wGv (.slice none 0 0) [] [] e;refine sr c i ?_;have j:=h.s_ne;have k:Chg [s] w (Ab w s ({ M with S:={ M.S with gone:=[] },gv:=.slice none 0 0,rows:=[] }:Scm).obj):=(sg _ _).set _ _ Z;exact f _ _ ⟨rfl,⟨Aw _ _ _ _ rfl d,k.keep h.h0 (by simp;omega),h.k0,k.keep h.h1 (by simp;omega),h.k1,h.ne,h.tl,Ox.nil _ _ _ _ _,Z,Z,rfl⟩,k⟩
theorem SAt.cur_blk{w:World}{s:Nat}{M:Scm}(h:SAt w s M):w.heap[M.cb]?=some (.cells (M.S.cur.cs.flatMap Cel.cells++M.cp).toArray 60):=by
 unfold Scr.cur Scm.cb Scm.cp;cases M.S.alt
 ·exact h.h0
 ·exact h.h1
theorem SAt.cur_cap{w:World}{s:Nat}{M:Scm}(h:SAt w s M):M.S.cur.cs.length≤M.cc:=by
 unfold Scr.cur Scm.cc;cases M.S.alt
 ·exact h.k0
 ·exact h.k1
theorem SAt.cur_s{w:World}{s:Nat}{M:Scm}(h:SAt w s M):SxC w (some 60) (some ⟨M.cb,0,none⟩) M.S.cur.cs:=⟨λ_=>⟨M.cb,0,_,_,_,[],M.cp,rfl,h.cur_blk,by simp [Bz],Z,rfl⟩⟩
theorem SAt.row_lt{w:World}{s:Nat}{M:Scm}(h:SAt w s M):∀r∈M.rows,∀b o,r.a=some ⟨b,o,none⟩→r.cs≠[]→b<w.heap.size:=λr a _ _ c d=>(h.rows r a).lt d c
theorem SAt.newCur1{w w':World}{s:Nat}{M:Scm}(h:SAt w s M)(a:Chg [] w w'){G:Gr}{c cap:Nat}{d:List Value}(k:G.cs.length≤cap)(e:w.heap.size≤c)(f:w'.heap[c]?=some (.cells (G.cs.flatMap Cel.cells++d).toArray 60)):
  SAt (Ab w' s (M.setCur G c cap d).obj) s (M.setCur G c cap d)∧Chg (s::M.blk) w (Ab w' s (M.setCur G c cap d).obj)∧∀b∈(M.setCur G c cap d).blk,b∈M.blk∨w.heap.size≤b:=by
 have g:=h.chg0 a;have i:=g.s_ne;have j:=h.lt;have l:=Aa g.hb;have m:=j M.b0 (by simp [Scm.blk]);have n:=j M.b1 (by simp [Scm.blk]);have p:=j s Z;have q:Chg [s] w' (Ab w' s (M.setCur G c cap d).obj):=(sg _ _).set _ _ Z;have t:=g.own.chg q λb f u=>by
  simp at u;subst u;exact g.s_own (by simp [←f])
 have v:∀r∈M.rows,SxC (Ab w' s (M.setCur G c cap d).obj) (some 60) r.a r.cs:=λr x=>(g.rows r x).chg q λb o y z=>by simp;exact(g.row_ne r x b o y z).1
 have A:(M.setCur G c cap d).gv=M.gv∧(M.setCur G c cap d).rows=M.rows:=by unfold Scm.setCur;cases M.S.alt<;>exact⟨rfl,rfl⟩
 have B:(Ab w' s (M.setCur G c cap d).obj).heap[s]?=some (M.setCur G c cap d).obj:=Aw _ _ _ _ rfl l;have C:=q.keep g.h0 (by simp;omega);have D:=q.keep g.h1 (by simp;omega);have E:=q.keep f (by simp;omega);have F:Chg (s::M.blk) w (Ab w' s (M.setCur G c cap d).obj):=(a.mono Z).trans q Z;clear q;generalize Ab w' s (M.setCur G c cap d).obj=w2 at B C D E t v F ⊢;refine⟨?_,F,?_⟩
 ·unfold Scm.setCur at B ⊢;rcases Bool.eq_false_or_eq_true M.S.alt with y|y
  ·rw[y] at B ⊢;exact⟨B,C,g.k0,E,k,by show M.b0≠c;omega,g.tl,t,v,λr x b o H z=>⟨(g.far r x b o H z).1,by have:=h.row_lt r x b o H z;show b≠c;omega⟩,g.gone⟩
  ·rw[y] at B ⊢;exact⟨B,E,k,D,g.k1,by show c≠M.b1;omega,g.tl,t,v,λr x b o H z=>⟨by have:=h.row_lt r x b o H z;show b≠c;omega,(g.far r x b o H z).2⟩,g.gone⟩
 ·unfold Scm.setCur Scm.blk;intro b I;rcases Bool.eq_false_or_eq_true M.S.alt with y|y<;>rw[y] at I<;>simp at I<;>simp<;>rcases I with rfl|rfl|I<;>first|(right;omega)|simp_all
theorem SAt.newCur{w w':World}{s:Nat}{M:Scm}(h:SAt w s M)(a:Chg [] w w'){G:Gr}{b cap:Nat}{c:List Value}(k:G.cs.length≤cap)(d:w.heap.size≤b)(e:w'.heap[b]?=some (.cells (G.cs.flatMap Cel.cells++c).toArray 60)):
  Did w s M (Ab w' s (M.setCur G b cap c).obj) (M.S.setCur G):=by
 obtain⟨f,g,i⟩:=h.newCur1 a k d e;exact⟨M.setCur G b cap c,f,M.setCur_S G b cap c,g,i⟩
theorem hO{w:World}{s:Nat}{M:Scm}(h:SAt w s M)(ok:M.S.ok):Calls prog 192 #[.pointer (some ⟨s,0,none⟩)] w
  (Ac λv a=>GAt w.heap.size a v M.S.cur∧Chg [] w a):=by
 have b:=h.hb;have c:=h.tl;have d:=ok.cur;have e:=d.ok.le;have f:=d.ok.w1;have g:=d.ok.h1;apply Uf;intro K i;unfold Ri;refine sn ?_;have j:=Ar w (.cells #[.int .i64 0,.int .i64 0,.slice none 0 0] 50);have k:(w.alloc (.cells #[.int .i64 0,.int .i64 0,.slice none 0 0] 50)).heap[w.heap.size]?=some (.cells #[.int .i64 0,.int .i64 0,.slice none 0 0] 50):=by exact so
 generalize w.alloc _=w0 at j k ⊢;have l:=h.chg0 j;have m:=l.hb;have n:=Aa m;have o:=Aa k;have p:=CN M.S.alt;refine td HR rfl (HB l ok.w0) ?_;rintro v q ⟨rfl,rfl⟩;refine sq m ?_;have r:=(Ar w0 (.cells #[.int .i64 M.S.cur.w,.int .i64 M.S.cur.h,.slice (some ⟨M.cb,0,none⟩) M.S.cur.cs.length M.cc] 50)).drew;have t:(w0.alloc (.cells #[.int .i64 M.S.cur.w,.int .i64 M.S.cur.h,.slice (some ⟨M.cb,0,none⟩) M.S.cur.cs.length M.cc] 50)).drew.heap[w0.heap.size]?=some (.cells #[.int .i64 M.S.cur.w,.int .i64 M.S.cur.h,.slice (some ⟨M.cb,0,none⟩) M.S.cur.cs.length M.cc] 50):=by exact so
 generalize (w0.alloc _).drew=q at r t ⊢;have u:=l.chg0 r;have x:=Aa t;have y:w0.drew.heap.size=w0.heap.size:=rfl;rw[y];refine td I8 rfl (I5 u.cur_s M.cc O) ?_;rintro v w2 ⟨z,A⟩;have B:=A.keep t Z;have C:=Aa B;have D:=(r.trans0 A).keep k Z;have E:=Aa D;obtain⟨F,G,H,rfl,I,J,L⟩:=z.blk d.ok.ne;have N:=Aa L;have P:=j.size;have Q:=r.size;refine sr B D ?_;refine i _ _ ⟨⟨F,G,H,rfl,I,O,?_⟩,(((j.trans0 r).trans0 A).set _ _ (.inr O)).set _ _ (.inr O)⟩;refine sn ?_;exact L
theorem C6(S:Scr):S.free.usual=true:=by kernel_rfl
theorem Hh{w:World}{s:Nat}{M:Scm}(h:SAt w s M)(ok:M.S.ok)(t n:Int):
  Calls prog 242 #[.pointer (some ⟨s,0,none⟩),.int .i64 t,.int .i64 n] w (Ac λ_ a=>Did w s M a (M.S.scroll t n)):=by
 have b:=h.hb;have c:=h.tl;have d:=ok.cur;have e:=d.ok.le;have f:=ok.fh;have g:=ok.h1;have i:=CN M.S.alt;apply bP;intro K j;unfold PR;refine sq b ?_;have k:=GK (w:=w.drew.drew) (h.chg0 (sg _ _).drew.drew);refine td Iq rfl (k) ?_;rintro v l ⟨rfl,m⟩;have o:Chg [] w l:=(sg _ _).drew.drew.trans0 m;have p:=h.chg0 o;have q:=p.hb;refine sq q ?_;refine td X1 rfl (VW d.ok d.r p.cur_s M.cc p.cur_cap (C6 _)) ?_;rintro v w2 ⟨⟨r,u,x,rfl,y,z,A⟩,B⟩;have C:=(p.chg0 B).hb;have D:=Aa C;have E:=M.wCur (M.S.cur.scroll t M.S.fin n M.S.free) r u x c;simp -dsimp (disch:=first|omega|(simp only[go_sem,seval];try omega))only[go_sem,seval,Gr.val,C,E];exact j _ _ (h.newCur (o.trans0 B) y (by have:=o.size;omega) A)
theorem Jp{w:World}{s:Nat}{M:Scm}(h:SAt w s M)(ok:M.S.ok)(y n:Int)(hy:-9223372036854775808≤y∧y≤9223372036854775807)(hn:n≤9223372036854775807):
  Calls prog 245 #[.pointer (some ⟨s,0,none⟩),.int .i64 y,.int .i64 n] w (Ac λ_ w'=>Did w s M w' (M.S.clear y n)):=by
 have hb:=h.hb;have tl:=h.tl;have hcur:=ok.cur;have hle:=hcur.ok.le;have w1:=ok.w1;have hwi:=CN M.S.alt;apply Vp;intro K hK;unfold OR;refine sq hb ?_;refine si (λw'=>Did w s M w' (M.S.clear y n)) ?_ λw' h'=>hK _ _ h';refine sq hb ?_;have hfr:=GK (w:=w.drew.drew) (h.chg0 (sg _ _).drew.drew);refine⟨?_,?_⟩
 all_goals
  refine td Iq rfl (hfr) ?_;rintro v w1 ⟨rfl,hc1⟩;have hc01:Chg [] w w1:=(sg _ _).drew.drew.trans0 hc1;have hA1:=h.chg0 hc01;have hb1:=hA1.hb;refine sq hb1 ?_;refine td Jj rfl (II (X:=0) (Y:=y) (W:=M.S.w) (H:=n) hcur.ok hcur.r hA1.cur_s M.cc hA1.cur_cap (C6 _) O hy O hn) ?_;rintro v w2 ⟨⟨nb,cap,sp,rfl,q1,q2,q3⟩,hc2⟩;have hb2:=(hA1.chg0 hc2).hb;have hl2:=Aa hb2;have hp:=M.wCur (M.S.cur.fill 0 y M.S.w n M.S.free) nb cap sp tl;simp -dsimp (disch:=first|omega|(simp only[go_sem,seval];try omega))only[go_sem,seval,Gr.val,hb2,hp];exact h.newCur (hc01.trans0 hc2) q1 (by have:=hc01.size;omega) q3
theorem Gr.of_set{g:Gr}(a:g.ok){Y:Nat}(b:Y<g.h){l:List Cel}(c:l.length=g.w):(Gr.of g.w g.h λy=>if y=Y then l else g.row y).cs=g.cs.take (Y*g.w)++l++g.cs.drop (Y*g.w+g.w):=by
 have d:=a.row_lt b;have e:=a.len;have f:(⟨g.w,g.h,g.cs.take (Y*g.w)++l++g.cs.drop (Y*g.w+g.w)⟩:Gr).ok:=⟨a.w0,a.w1,a.h0,a.h1,by simp;omega⟩;have:=Gr.of_rows f (R:=λy=>if y=Y then l else g.row y) λy h=>?_
 ·rw[this]
 ·have i:y<g.h:=h;have j:=a.row_lt i;apply List.ext_getElem?;intro x;by_cases k:x<g.w
  ·unfold Gr.row;dsimp only;rw[List.getElem?_take_of_lt k,List.getElem?_drop];by_cases m:y=Y
   ·subst m;rw[rG rfl,rJ,rK (by simp;omega),rL (by simp;omega)];congr 1;simp;omega
   ·rw[rF m,List.getElem?_take_of_lt k,List.getElem?_drop];rcases Nat.lt_or_ge y Y with n|n
    ·have o:=Nat.mul_le_mul_right g.w (show y+1≤Y by omega);rw[Nat.add_mul] at o;rw[rJ,rL (by simp;omega),List.getElem?_take_of_lt O]
    ·have o:=Nat.mul_le_mul_right g.w (show Y+1≤y by omega);rw[Nat.add_mul] at o;rw[rK (by simp;omega),List.getElem?_drop];congr 1;simp;omega
  ·have p:((⟨g.w,g.h,g.cs.take (Y*g.w)++l++g.cs.drop (Y*g.w+g.w)⟩:Gr).row y)[x]?=none:=List.getElem?_eq_none (by rw[f.row_len i];show g.w≤x;omega);rw[p];split
   ·exact List.getElem?_eq_none O
   ·exact List.getElem?_eq_none (by rw[a.row_len i];omega)
theorem Scm.setCur_obj(M:Scm)(G:Gr)(a:G.w=M.S.cur.w)(b:G.h=M.S.cur.h)(c:G.cs.length=M.S.cur.cs.length):(M.setCur G M.cb M.cc M.cp).obj=M.obj:=by
 unfold Scm.setCur Scm.cb Scm.cc Scm.cp;unfold Scr.cur at a b c;rcases Bool.eq_false_or_eq_true M.S.alt with d|d
 ·rw[d] at a b c ⊢;simp only[cond_true] at a b c ⊢;unfold Scm.obj Scm.cells;simp only[a,b,c,Scm.end]
 ·rw[d] at a b c ⊢;simp only[cond_false] at a b c ⊢;unfold Scm.obj Scm.cells;simp only[a,b,c,Scm.end]
theorem SAt.wrote{w:World}{s:Nat}{M:Scm}(h:SAt w s M){G:Gr}(a:G.w=M.S.cur.w)(c:G.h=M.S.cur.h)(d:G.cs.length=M.S.cur.cs.length):
  Did w s M (Ab w M.cb (.cells (G.cs.flatMap Cel.cells++M.cp).toArray 60)) (M.S.setCur G):=by
 have f:=h.s_ne;have g:=M.setCur_obj G a c d;have i:=h.b_own;have j:M.cb=M.b0∨M.cb=M.b1:=by unfold Scm.cb;cases M.S.alt<;>simp
 have k:Chg [M.cb] w (Ab w M.cb (.cells (G.cs.flatMap Cel.cells++M.cp).toArray 60)):=(sg _ _).set _ _ Z;have l:(Ab w M.cb (.cells (G.cs.flatMap Cel.cells++M.cp).toArray 60)).heap[M.cb]?=some (.cells (G.cs.flatMap Cel.cells++M.cp).toArray 60):=Aw _ _ _ _ rfl (Aa h.cur_blk);generalize Ab w M.cb _=w2 at k l ⊢;have m:=h.cur_cap;have n:=k.keep h.hb (by simp;rcases j with e|e<;>rw[e]<;>omega);rw[←g] at n;have p:=h.own.chg k (λb q t=>by
  simp at t;rcases j with e|e
  ·rw[t,e] at q;exact i.1 (by simp [←q])
  ·rw[t,e] at q;exact i.2 (by simp [←q]))
 have u:∀r∈M.rows,SxC w2 (some 60) r.a r.cs:=λr v=>(h.rows r v).chg k λb o x y=>by
  have:=h.far r v b o x y;simp;rcases j with e|e<;>rw[e]<;>omega
 refine⟨M.setCur G M.cb M.cc M.cp,?_,M.setCur_S _ _ _ _,k.mono (by simp [Scm.blk];rcases j with e|e<;>simp [e]),?_⟩
 ·have y:=h.ne;rcases Bool.eq_false_or_eq_true M.S.alt with x|x
  ·have e:M.setCur G M.cb M.cc M.cp={ M with S:={ M.S with g1:=G } }:=by unfold Scm.setCur Scm.cb Scm.cc Scm.cp;rw[x];rfl
   have z:M.cb=M.b1∧M.cp=M.p1∧M.S.cur=M.S.g1:=by unfold Scm.cb Scm.cp Scr.cur;rw[x];exact⟨rfl,rfl,rfl⟩
   rw[z.1,z.2.1] at l;rw[z.2.2] at d;rw[e] at n ⊢;rw[z.1] at k;exact⟨n,k.keep h.h0 (by simp;omega),h.k0,l,by show G.cs.length≤M.c1;have:=h.k1;omega,h.ne,h.tl,p,u,h.far,h.gone⟩
  ·have e:M.setCur G M.cb M.cc M.cp={ M with S:={ M.S with g0:=G } }:=by unfold Scm.setCur Scm.cb Scm.cc Scm.cp;rw[x];rfl
   have z:M.cb=M.b0∧M.cp=M.p0∧M.S.cur=M.S.g0:=by unfold Scm.cb Scm.cp Scr.cur;rw[x];exact⟨rfl,rfl,rfl⟩
   rw[z.1,z.2.1] at l;rw[z.2.2] at d;rw[e] at n ⊢;rw[z.1] at k;exact⟨n,l,by show G.cs.length≤M.c0;have:=h.k0;omega,k.keep h.h1 (by simp;omega),h.k1,h.ne,h.tl,p,u,h.far,h.gone⟩
 ·intro b q;left;unfold Scm.setCur Scm.blk Scm.cb at q;unfold Scm.blk;rcases Bool.eq_false_or_eq_true M.S.alt with x|x<;>rw[x] at q<;>exact q
def J8(a:Value)(w:World)(s:Nat)(M:Scm)(f:Gr→Gr):Prop:=
 ∀(c:World) (g:Gr) (b o d:Nat),Chg [] w c→g.fit M.S.w 1→g.cs.length≤d→SxC c (some 60) (some ⟨b,o,none⟩) g.cs →
  Bm prog a [g.val (some ⟨b,o,none⟩) d] (λv w2=>GAt c.heap.size w2 v (f g)∧Chg [] c w2) c
theorem IG{w:World}{s:Nat}{M:Scm}(h:SAt w s M)(ok:M.S.ok){a:Value}{f:Gr→Gr}(b:J8 a w s M f)(c:Kw M.S.w f):
  Calls prog 208 #[.pointer (some ⟨s,0,none⟩),a] w (Ac λ_ d=>Did w s M d (M.S.line f)):=by
 have g:=h.hb;have i:=h.tl;have k:=ok.cur;have n:=k.w;have o:=k.h;have p:=k.ok.le;have q:=k.ok.len;have r:=h.cur_cap;have t:=ok.w1;have x:=ok.h1;have z:=ok.ny;have B:=CN M.S.alt;have C:=k.ok.row_lt (y:=M.S.now.y) O;apply gS;intro K D;unfold Nl;rw[n] at C;have E:(M.S.now.y:Int)*(M.S.w:Int)=((M.S.now.y*M.S.w:Nat):Int):=Z;have H:((M.S.now.y*M.S.w:Nat):Int)+(M.S.w:Int)=((M.S.now.y*M.S.w+M.S.w:Nat):Int):=Z;refine LX3 g E H ?_;have I:=k.ok.row_len (y:=M.S.now.y) O;rw[n] at I;obtain⟨A,hA⟩:∃A,A=M.S.now.y*M.S.w:=⟨_,rfl⟩;have w0:=ok.w0;have J:slo 0 (A+M.S.w) A 4=0+A*4:=by unfold slo;rw[rF O]
 have L:A+M.S.w-A=M.S.w:=O;simp only[Int.toNat_natCast];rw[←hA,J,L];have N:SxC w.drew.drew (some 60) (some ⟨M.cb,0+A*4,none⟩) (M.S.cur.row M.S.now.y):=by
  have:=Sx.sub (h.cur_s.chg0 (sg _ _).drew.drew) Cel.len A M.S.w _ (.inr (.inr rfl));rw[Gr.row,n,←hA];exact this
 have P:=b w.drew.drew ⟨M.S.w,1,M.S.cur.row M.S.now.y⟩ M.cb (0+A*4) M.S.w (sg _ _).drew.drew (k.row1 z) (by show(M.S.cur.row M.S.now.y).length≤_;omega) N;simp only[Gr.val,I] at P;have Q:=(c ⟨M.S.w,1,M.S.cur.row M.S.now.y⟩ (k.row1 z));refine P.use ?_;rintro v w2 ⟨⟨R,S,T,rfl,U,V,W⟩,X⟩;have a:Chg [] w w2:=(sg _ _).drew.drew.trans0 X;have d:=h.chg0 a;have i:=Q.cs1.1;generalize p:f ⟨M.S.w,1,M.S.cur.row M.S.now.y⟩=F at U W Q i ⊢;simp -dsimp (disch:=first|omega|(simp only[go_sem,seval];try omega))only[go_sem,seval,Gr.val];have q:=Ar w2 (.cells #[.int .i64 F.w,.int .i64 F.h,.slice (some ⟨R,0,none⟩) F.cs.length S] 50);generalize w2.alloc _=w3 at q ⊢;have r:=d.chg0 q;have t:=q.keep W Z;have x:M.S.cur.cs=M.S.cur.cs.take A++M.S.cur.row M.S.now.y++M.S.cur.cs.drop (A+M.S.w):=by
  rw[Gr.row,n,←hA,rJ,←List.drop_drop,List.take_append_drop,List.take_append_drop]
 have B:=Gr.of_set k.ok (Y:=M.S.now.y) O (l:=F.cs) O;rw[n,o,←hA] at B;have C:F.cs.length=(M.S.cur.row M.S.now.y).length:=O;refine Fl (m:=4) (pre:=(M.S.cur.cs.take A).flatMap Cel.cells) (old:=(M.S.cur.row M.S.now.y).flatMap Cel.cells) (new:=F.cs.flatMap Cel.cells) (post:=(M.S.cur.cs.drop (A+M.S.w)).flatMap Cel.cells++M.cp) (e:=60) DC ?_ ?_ ?_ ?_ ?_ ?_ ?_
 ·rw[r.cur_blk]
  conv=>lhs;rw[x]
  simp
 ·rw[AH Cel.len];simp;omega
 ·rw[AH Cel.len,AH Cel.len,C]
 ·rw[AH Cel.len];omega
 ·exact C7 Cel.ok _
 ·intro j u E;rw[t,Cp,List.getElem?_toArray,Nat.zero_add,rL (by have:=(rO.1 E).1;omega)];exact E
 ·have H:=r.wrote (G:=Gr.of M.S.w M.S.h λy=>if y=M.S.now.y then F.cs else M.S.cur.row y) (by rw[n];rfl) (by rw[o];rfl) (by rw[B];simp;omega);rw[B] at H;simp only[List.flatMap_append,rJ] at H ⊢;refine D _ _ (Did.trans ((a.trans0 q).mono Z) (λb g=>.inl g) ?_);have J:(λy=>if y=M.S.now.y then(f ⟨M.S.w,1,M.S.cur.row y⟩).cs else M.S.cur.row y)=λy=>if y=M.S.now.y then F.cs else M.S.cur.row y:=by
   funext y;by_cases L:y=M.S.now.y
   ·rw[rG L,rG L,L,p]
   ·rw[rF L,rF L]
  unfold Scr.line;rw[J];exact H
theorem Ii{w:World}{s:Nat}{M:Scm}(h:SAt w s M)(ok:M.S.ok)(x n:Int)(hx:-9223372036854775808≤x∧x≤9223372036854775807)(hn:n≤9223372036854775807):
  Calls prog 246 #[.pointer (some ⟨s,0,none⟩),.int .i64 x,.int .i64 n] w (Ac λ_ w'=>Did w s M w' (M.S.erase x n)):=by
 apply fF;intro K hK;unfold MX;refine sn ?_;refine OpX.gen λw1 hw1=>?_;have hc1:Chg [] w w1:=by rw[hw1];exact Fo _ _ _ _
 have hx1:w1.heap[w.heap.size+1]?=some (.cells #[.int .i64 x] 3):=by rw[hw1];exact so
 have hn1:w1.heap[w.heap.size+2]?=some (.cells #[.int .i64 n] 3):=by rw[hw1];exact so
 have hp1:w1.heap[w.heap.size]?=some (.cells #[.pointer (some ⟨s,0,none⟩)] 200):=by rw[hw1];exact so
 clear hw1;have hA1:=h.chg0 hc1;refine td Ix rfl (IG (f:=λg=>g.fill x 0 n 1 M.S.free) hA1 ok ?_ λ_ hg=>hg.fill) ?_
 ·intro w2 g b o cap hc2 hg hcap hs;refine Bm.of (us:=[]) (cs:=[_,_,_]) Ya ?_;have hx2:=hc2.keep hx1 Z;have hn2:=hc2.keep hn1 Z;have hp2:=hc2.keep hp1 Z;have hA2:=hA1.chg0 hc2;have w1b:=hg.ok.w1;have h1b:=hg.ok.h1;apply W4;intro K hK;unfold MW;simp -dsimp (disch:=first|omega|(simp only[go_sem,seval];try omega))only[go_sem,seval,Gr.val];have hc3:Chg [] w2 (((w2.alloc (.cells #[.int .i64 g.w,.int .i64 g.h,.slice (some ⟨b,o,none⟩) g.cs.length cap] 50)).alloc (.cells #[.int .i64 0,.int .i64 0,.slice none 0 0] 50)).drew):=(By _ _ _).drew;have hg3:(((w2.alloc (.cells #[.int .i64 g.w,.int .i64 g.h,.slice (some ⟨b,o,none⟩) g.cs.length cap] 50)).alloc (.cells #[.int .i64 0,.int .i64 0,.slice none 0 0] 50)).drew).heap[w2.heap.size]?=some (.cells #[.int .i64 g.w,.int .i64 g.h,.slice (some ⟨b,o,none⟩) g.cs.length cap] 50):=by exact so
  have ho3:(((w2.alloc (.cells #[.int .i64 g.w,.int .i64 g.h,.slice (some ⟨b,o,none⟩) g.cs.length cap] 50)).alloc (.cells #[.int .i64 0,.int .i64 0,.slice none 0 0] 50)).drew).heap[w2.heap.size+1]?=some (.cells #[.int .i64 0,.int .i64 0,.slice none 0 0] 50):=by exact so
  have hz3:(w2.alloc (.cells #[.int .i64 g.w,.int .i64 g.h,.slice (some ⟨b,o,none⟩) g.cs.length cap] 50)).heap.size=w2.heap.size+1:=by exact so
  rw[hz3];generalize (World.alloc _ _).drew=w3 at hc3 hg3 ho3 ⊢;have hx3:=hc3.keep hx2 Z;have hn3:=hc3.keep hn2 Z;have hp3:=hc3.keep hp2 Z;have hA3:=hA2.chg0 hc3;have hs3:=hs.chg0 hc3;have hl2:=hc3.size;refine si (λw'=>Chg [] w2 w'∧∃nb cap' sp,w'.heap[w2.heap.size+1]?=some (.cells #[.int .i64 g.w,.int .i64 g.h,.slice (some ⟨nb,0,none⟩) (g.fill x 0 n 1 M.S.free).cs.length cap'] 50)∧(g.fill x 0 n 1 M.S.free).cs.length≤cap'∧w2.heap.size≤nb∧w'.heap[nb]?=some (.cells ((g.fill x 0 n 1 M.S.free).cs.flatMap Cel.cells++sp).toArray 60)) ?_ ?_
  ·have hlo3:=Aa ho3;refine LX4 hg3 hx3 hn3 hp3 ?_;refine⟨?_,?_⟩
   all_goals
    refine td Iq rfl (GK hA3) ?_;rintro v w4 ⟨rfl,hc4⟩;have hx4:=hc4.keep hx3 Z;have hn4:=hc4.keep hn3 Z;have hp4:=hc4.keep hp3 Z;have hg4:=hc4.keep hg3 Z;refine LX4 hg4 hx4 hn4 hp4 ?_;refine td Jj rfl (II (X:=x) (Y:=0) (W:=n) (H:=1) hg.ok hg.r (hs3.chg0 hc4) cap hcap (C6 _) hx O hn O) ?_;rintro v w5 ⟨⟨nb,cap',sp,rfl,q1,q2,q3⟩,hc5⟩;have ho5:=(hc4.trans0 hc5).keep ho3 Z;have hlo5:=Aa ho5;have hl4:=hc4.size;have hnb:=Aa q3;simp -dsimp (disch:=first|omega|(simp only[go_sem,seval];try omega))only[go_sem,seval,Gr.val,ho5];refine⟨((hc3.trans0 hc4).trans0 hc5).set _ _ (.inr O),nb,cap',sp,rfl,q1,O,?_⟩;refine sn ?_;exact q3
  ·rintro w4 ⟨hc4,nb,cap',sp,k1,k2,k3,k4⟩;refine sq k1 ?_;exact hK _ _ ⟨⟨nb,cap',sp,rfl,k2,k3,k4⟩,hc4⟩
 ·rintro v w2 hd;exact hK _ _ (Did.trans (hc1.mono Z) (λb hb=>.inl hb) hd)
end Go.Proofs.YtnpkidnbhlepkaaGreat
namespace Lyc
open Go
section
variable {P:Program}
theorem X8{t a e:TypeId}{m d g n cap b o k c:Nat}{news:List Value}{x':Obj}{K:Value→World→Prop}{w:World}(f:BO P t=some (e,m,d))(h:news.length=k*m)(l:n+k≤cap)(p:∀j u,news[j]?=some u→As w.heap[b]? (o+j)=some u)(q:AV news=true)(r:Ao w.heap[g]? (n*m) news=some x')(s:K (.slice (some ⟨g,0,none⟩) (n+k) cap) (Ab w g x')):
  OpX P (.call { callee:=.builtin .append,args:=#[.const (.slice (some ⟨g,0,none⟩) n cap),.const (.slice (some ⟨b,o,none⟩) k c)],argTypes:=#[t,t] }) a K w:=by
 obtain⟨x,i,z,y,A,B,-,-,-⟩:=EA f;have C:=run_firstCells_some (P:=P) w m k ⟨b,o,none⟩ k c news h (λj u D=>by rw[CF,cell?_at];exact p j u D);have E:=Ik (P:=P) r q;rw[Bc (v:=.slice (some ⟨g,0,none⟩) (n+k) cap) (w':=Ab w g x') λρ F=>?_]
 ·exact s
 ·have G:(⟨g,0,none⟩:Addr).add (n*m)=⟨g,n*m,none⟩:=by rw[CF,Nat.zero_add]
  simp [execOp,Ap,resolve,invoke,builtin,F.1,Builtin.append_,run_underlying x,Go.sizeOf,typeInfo,y,B,Builtin.lenOf,C,l,G,E]
theorem ky{t a e:TypeId}{m b o n c:Nat}{zs:List Value}{x':Obj}{K:Value→World→Prop}{w:World}(d:tbs P t=some (e,m,zs))(f:0<n)(g:AV (Bq zs n)=true)(h:Ao w.heap[b]? o (Bq zs n)=some x')(j:K (.tuple #[]) (Ab w b x')):OpX P (.call { callee:=.builtin .clear,args:=#[.const (.slice (some ⟨b,o,none⟩) n c)],argTypes:=#[t] }) a K w:=by
 obtain⟨k,i,z,l,p,q,r,s,u⟩:=Hi d;have x:=Ik (P:=P) h g;have y:(Builtin.zeroCells z.cells n).toList=Bq zs n:=by
  unfold Builtin.zeroCells;rw[JC z.cells n z.cells.size rfl O,r]
 rw[Bc (v:=.tuple #[]) (w':=Ab w b x') λρ A=>?_]
 ·exact j
 ·obtain⟨B,rfl⟩:∃B,n=B+1:=⟨n-1,O⟩;simp [execOp,Ap,resolve,invoke,builtin,A.1,Builtin.clear_,run_underlying k,zeroValue,typeInfo,l,p,y,x]
theorem Vd(t a:TypeId)(n:Nat)(h:AM P t=some n):PureRun P (.slice t (.const (.slice none 0 0)) (some (.const (.int .i64 0))) (some (.const (.int .i64 0))) (some (.const (.int .i64 0)))) a (.slice none 0 0):=by
 obtain⟨e,b,c⟩:=Dx h;refine⟨λρ d w=>?_⟩;simp [execOp,Ap,d.1,Instr.sliceAt,Instr.slice,Instr.sliceBounds,Instr.sliceBound,asIntOf,run_underlying b,Bw c]
@[go_sem] theorem nr(t a:TypeId)(K:rD)(w:World):OpX P (.slice t (.const (.slice none 0 0)) (some (.const (.int .i64 0))) (some (.const (.int .i64 0))) (some (.const (.int .i64 0)))) a K w=OrK (AM P t) (λ_=>K (.slice none 0 0) w) (OpX P (.slice t (.const (.slice none 0 0)) (some (.const (.int .i64 0))) (some (.const (.int .i64 0))) (some (.const (.int .i64 0)))) a K w) ():=
 AK (λ_ h=>(Vd t a _ h).op K w) rfl
end
end Lyc
namespace Go.Proofs.YtnpkidnbhlepkaaGreat
open Lyc Go Go.Proofs.Tryz
theorem aw{w:World}{base:Nat}{v:Value}{rows:List Rw}(ho:Ox base w 48 1 Rw.f v rows){k:Nat}(hk:k≤rows.length)(hl:rows.length≤100000):Calls prog 257 #[v,.int .i64 0,.int .i64 k] w
  (Ac λv' w'=>Ox base w' 48 1 Rw.f v' (rows.drop k)∧Chg v.ownBlock.toList w w'∧v'.ownBlock=v.ownBlock):=by
 apply V9;intro K hK;unfold Oo;obtain⟨hfl,hform⟩:=ho;rcases hform with ⟨rfl,hn⟩|⟨g,cap,cur,rfl,hb,hg,h1,h2,h3,h4⟩
 ·have hk0:k=0:=O;subst hk0;have hr:rows=[]:=rQ hn;subst hr;have e0:((0:Nat):Int)=0:=rfl;rw[e0];refine sn ?_;exact hK _ _ ⟨⟨hfl,.inl ⟨rfl,rfl⟩⟩,sg _ _,rfl⟩
 ·have hml:cap≤maxLen:=h2;unfold maxLen at hml;refine sn ?_;refine sd (λh5=>?_) (λh5=>?_)
  ·have hk0:k=0:=O;subst hk0;exact hK _ _ ⟨⟨hfl,.inr ⟨g,cap,cur,rfl,hb,hg,h1,h2,h3,h4⟩⟩,sg _ _,rfl⟩
  ·refine sn ?_;have hfd:∀l:List Rw,(l.flatMap Rw.f).length=l.length:=λl=>by rw[AH (m:=1) Rw.len];omega
   have hsz:cur.size=cap:=O;have hdl:(rows.drop k).length=rows.length-k:=List.length_drop;refine X8 (news:=(rows.drop k).flatMap Rw.f) (x':=.cells ((rows.drop k).flatMap Rw.f++cur.toList.drop (rows.length-k)).toArray 48) Gp (by rw[hfd,hdl];omega) O ?_ (C7 Rw.ok _) ?_ ?_
   ·intro j u hj;have hj':=(rO.1 hj).1;rw[hfd,hdl] at hj';have e5:slo 0 cap k 1=k:=by unfold slo;rw[rF O];omega
    rw[Hr,hg,e5,Cp,←Array.getElem?_toList];have e6:cur.toList[k+j]?=(cur.toList.take rows.length)[k+j]?:=by rw[List.getElem?_take_of_lt O]
    have e7:rows.flatMap Rw.f=(rows.take k).flatMap Rw.f++(rows.drop k).flatMap Rw.f:=by rw[←List.flatMap_append,List.take_append_drop]
    rw[e6,show cur.toList.take rows.length=rows.flatMap Rw.f by simpa using h4,e7,rK (by rw[hfd];simp;omega)];rw[←hj];congr 1;rw[hfd];simp;omega
   ·rw[Hr,hg,EX,rG (by rw[hfd,hdl];omega)];simp only[spl,Nat.zero_mul,List.take_zero,List.nil_append,Nat.zero_add];rw[hfd,hdl]
   ·have hlg:=Aa hg;have e8:0+(rows.length-k)=rows.length-k:=O;rw[e8];refine sn ?_;have e9:slo 0 cap (rows.length-k) 1=rows.length-k:=by unfold slo;rw[rF O];omega
    have e10:rows.length-(rows.length-k)=k:=O;rw[e9,e10];have hzk:(Bq [Value.slice none 0 0] k).length=k:=by rw[Jc];simp
    refine ky (zs:=[Value.slice none 0 0]) (x':=.cells ((rows.drop k).flatMap Rw.f++(Bq [Value.slice none 0 0] k++cur.toList.drop rows.length)).toArray 48) ZO.2.2.2.2.1 O ?_ ?_ ?_
    ·have:∀n,AV (Bq [Value.slice none 0 0] n)=true:=by
      intro n
      induction n with
      | zero=>rfl
      | succ n ih=>rw[Hb];simp only[AV,List.all_append,Bool.and_eq_true];exact⟨rfl,ih⟩
     exact this k
    ·rw[Hr,Aw _ _ _ _ rfl hlg,EX,rG (by rw[hzk];simp [hfd];omega),J6,hzk];have hN:((rows.drop k).flatMap Rw.f).length=rows.length-k:=by rw[hfd,hdl]
     generalize (rows.drop k).flatMap Rw.f=N at hN ⊢;rw[←hN,List.take_left,rJ,←List.drop_drop,List.drop_left,List.drop_drop,hN];rw[show rows.length-k+k=rows.length by omega]
    ·have hN:((rows.drop k).flatMap Rw.f).length=rows.length-k:=by rw[hfd,hdl]
     have hcc:Chg [g] w (Ab (Ab w g (.cells ((rows.drop k).flatMap Rw.f++cur.toList.drop (rows.length-k)).toArray 48)).drew g (.cells ((rows.drop k).flatMap Rw.f++(Bq [Value.slice none 0 0] k++cur.toList.drop rows.length)).toArray 48)):=((sg _ _).set _ _ (.inl Z)).drew.set _ _ (.inl Z);refine hK _ _ ⟨⟨by rw[hfd,Nat.mul_one],.inr ⟨g,cap,_,by rw[hdl],hb,Aw _ _ _ _ rfl (by rw[World.size_drew,EP];exact hlg),by rw[hdl];omega,h2,?_,?_⟩⟩,?_,rfl⟩
     ·simp [hfd,hzk];omega
     ·rw[hdl,Nat.mul_one];show((rows.drop k).flatMap Rw.f++_).take _=_;rw[←hN,List.take_left]
     ·exact hcc
theorem M9{w:World}{g:Gr}(c:g.ok){e:Option TypeId}{a:Option Addr}(d:SxC w e a g.cs)(cap:Nat)(f:g.cs.length≤cap){y:Nat}(h:y<g.h):Calls prog 189 #[g.val a cap,.int .i64 y] w
  (Ac λv i=>Ox w.heap.size i 60 4 Cel.cells v (g.row y)∧Chg [] w i):=by
 have j:=c.h1;have k:=c.w1;have l:=c.row_len h;obtain⟨b,o,_,_,_,_,_,rfl,m,_⟩:=d.at_ c.ne;clear m;apply cd;intro K n;unfold Ra;simp -dsimp (disch:=first|omega|(simp only[go_sem,seval];try omega))only[go_sem,seval,Gr.val];have p:=Ar w (.cells #[.int .i64 g.w,.int .i64 g.h,.slice (some ⟨b,o,none⟩) g.cs.length cap] 50);have q:(w.alloc (.cells #[.int .i64 g.w,.int .i64 g.h,.slice (some ⟨b,o,none⟩) g.cs.length cap] 50)).heap[w.heap.size]?=some (.cells #[.int .i64 g.w,.int .i64 g.h,.slice (some ⟨b,o,none⟩) g.cs.length cap] 50):=by exact so
 generalize w.alloc (.cells #[.int .i64 g.w,.int .i64 g.h,.slice (some ⟨b,o,none⟩) g.cs.length cap] 50)=w0 at p q ⊢;refine sh (λv i=>v=.bool false∧Chg [] w0 i) ?_ ?_
 ·refine sq q ?_;refine td NS rfl (SQ c (some ⟨b,o,none⟩) cap) ?_;rintro v r ⟨rfl,s⟩;have t:=s.keep q Z;refine sn ?_;refine sd (λh=>O) (λ_=>?_);refine sq t ?_;exact⟨by simp;omega,s⟩
 ·rintro v r ⟨rfl,s⟩;have t:=s.keep q Z;refine sq t ?_;refine td F1 rfl (Ge (w:=r) c b o cap f y h) ?_;rintro v w2 ⟨rfl,u⟩;have x:=(p.trans0 s).trans0 u;have z:SxC w2 e (some ⟨b,o+y*g.w*4,none⟩) (g.row y):=Sx.sub (d.chg0 x) Cel.len (y*g.w) g.w _ (.inr (.inr rfl));have A:=I5 z g.w O;rw[l] at A;refine td I8 rfl (A) ?_;rintro v B ⟨C,D⟩;exact n _ _ ⟨C.base_le x.size,x.trans0 D⟩
theorem SAt.setGv{w w':World}{s:Nat}{M:Scm}(h:SAt w s M)(a:Chg M.gv.ownBlock.toList w w'){c:Value}{d:List Rw}(e:Ox 0 w' 48 1 Rw.f c d)(f:∀r∈d,SxC w' (some 60) r.a r.cs)(g:∀r∈d,∀b o,r.a=some ⟨b,o,none⟩→r.cs≠[]→b≠M.b0∧b≠M.b1)(i:∀b∈c.ownBlock.toList,b∈M.gv.ownBlock.toList∨w.heap.size≤b):
  Did w s M (Ab w' s ({ M with S:={ M.S with gone:=d.map Rw.cs },gv:=c,rows:=d }:Scm).obj) { M.S with gone:=d.map Rw.cs }:=by
 have j:=h.s_ne;have k:=a.keep h.hb h.s_own;have l:=a.keep h.h0 h.b_own.1;have m:=a.keep h.h1 h.b_own.2;have n:=Aa k;have p:=k;unfold Scm.obj at p;have q:Chg [s] w' (Ab w' s ({ M with S:={ M.S with gone:=d.map Rw.cs },gv:=c,rows:=d }:Scm).obj):=(sg _ _).set _ _ Z;refine⟨_,⟨Aw _ _ _ _ rfl n,q.keep l (by simp;omega),h.k0,q.keep m (by simp;omega),h.k1,h.ne,h.tl,?_,?_,g,rfl⟩,rfl,(a.mono (λx t=>.inl (by simp [Scm.blk] at t ⊢;simp [t]))).trans q Z,?_⟩
 ·exact e.chg q λb u v=>by
   simp at v;subst v;exact e.off p rfl u.symm
 ·exact λr x=>(f r x).chg q λb o y z=>by
   simp;exact(f r x).ne y z p rfl
 ·intro b u;simp only[Scm.blk,rM] at u ⊢;rcases u with rfl|rfl|u
  ·exact .inl (.inl rfl)
  ·exact .inl (.inr (.inl rfl))
  ·exact(i b u).imp (λh=>.inr (.inr h)) id
theorem LU{w:World}{s:Nat}{M:Scm}(h:SAt w s M)(ok:M.S.ok)(n:Int):Calls prog 241 #[.pointer (some ⟨s,0,none⟩),.int .i64 n] w (Ac λ_ w'=>Did w s M w' (M.S.up n)):=by
 have hb:=h.hb;have tl:=h.tl;have hwi:=CN M.S.alt;have fh:=ok.fh;have h1:=ok.h1;have hg0:=ok.g0;apply Yk;intro K hK;unfold QZ;refine si (λw'=>Did w s M w' (M.S.keep n)) ?_ ?_
 ·refine sh (λv w'=>v=.bool (decide (M.S.top=0∧M.S.alt=false))∧w=w') ?_ ?_
  ·refine sq hb ?_;refine sd (λh2=>?_) (λh2=>?_)
   ·refine sq hb ?_;refine sw ?_;have hw0:Bu M.S.alt=0↔M.S.alt=false:=by cases M.S.alt<;>decide
    rw[hw0];exact⟨λh3=>⟨O,h3⟩,λh3=>h3.2⟩
   ·exact⟨sv O,rfl⟩
  ·rintro v w1 ⟨rfl,rfl⟩;unfold Scr.keep;by_cases hk:M.S.top=0∧M.S.alt=false
   ·rw[decide_eq_true hk,rG hk];refine sq hb ?_;have ha:=hk.2;have hrl:=λ(y:Nat) (hy:y<M.S.fin)=>hg0.ok.row_len (y:=y) (by rw[hg0.h];omega);have hgw:=hg0.ok.w1;obtain⟨m,hm⟩:∃m,m=(min n (M.S.fin:Int)).toNat:=⟨_,rfl⟩;rw[←hm];refine Loop1.st (λst:Nat × Scm=>.int .i64 st.1) (λst w'=>st.1≤m∧SAt w' s st.2∧st.2.S={ M.S with gone:=M.S.gone++(List.range st.1).map M.S.g0.row }∧Chg (s::M.blk) w w'∧∀b∈st.2.blk,b∈M.blk∨w.heap.size≤b) (λst=>m-st.1) (0,M) rfl ⟨Z,h,Z,sg _ _,λb hb=>.inl hb⟩ ?_;rintro next ⟨y,M1⟩ w2 hn ⟨hy,hA,hS,hc,hbl⟩
    dsimp only at hy hA hS hbl ⊢;have hb2:=hA.hb;have hl2:=Aa hb2;have tl2:=hA.tl;have hrn:M1.rows.length=M.S.gone.length+y:=by
     have:=hA.gone;rw[hS] at this;have:=congrArg List.length this;simp at this;omega
    have hgl:=ok.gl;refine sn ?_;refine sd (λh2=>?_) (λh2=>?_)
    ·have hyf:y<M.S.fin:=O;have hg1:M1.S.g0=M.S.g0:=by rw[hS]
     refine sq hb2 ?_;have hs0:SxC w2.drew (some 60) (some ⟨M1.b0,0,none⟩) M1.S.g0.cs:=⟨λ_=>⟨M1.b0,0,_,_,_,[],M1.p0,rfl,(show w2.drew.heap[M1.b0]?=_ from hA.h0),by simp [Bz],Z,rfl⟩⟩;have hgr:=M9 (w:=w2.drew) (g:=M1.S.g0) (by rw[hg1];exact hg0.ok) hs0 M1.c0 hA.k0 (y:=y) (by rw[hg1,hg0.h];omega);refine td N0 rfl (hgr) ?_;rintro v w3 ⟨ho3,hc3⟩;have hA3:=(hA.chg0 (sg _ _).drew).chg0 hc3;have hb3:=hA3.hb;have hz3:=hc3.size;have hrl1:(M1.S.g0.row y).length≤200:=by rw[hg1,hrl y hyf];exact hgw
     obtain⟨a3,cap3,rfl,-,hs3,hblk3,hfm3⟩:=ho3.form;obtain⟨ga,gc,hgv,-⟩:=hA.own.form;refine sq hb3 ?_;have hs4:Sx (w3.alloc (.cells #[.slice a3 (M1.S.g0.row y).length cap3] 48)) (some 48) Rw.f (some ⟨w3.heap.size,0,none⟩) [⟨a3,cap3,M1.S.g0.row y⟩]:=Sx.built (c:=[.slice a3 (M1.S.g0.row y).length cap3]) (by exact so) rfl;have hc4:=Ar w3 (.cells #[.slice a3 (M1.S.g0.row y).length cap3] 48);have hb4:=(hA3.chg0 hc4).hb;have hl4:=Aa hb4;refine sq hb4 ?_;generalize w3.alloc _=w4 at hs4 hc4 hb4 hl4 ⊢;have hA4:=hA3.chg0 hc4;have hc24:Chg [] w2 w4:=((sg _ _).drew.trans0 hc3).trans0 hc4;refine Bd (f:=Rw.f) (l2:=[⟨a3,cap3,M1.S.g0.row y⟩]) Gp Rw.len Rw.ok hA4.own hs4 rfl (by simp;omega) O O ?_;intro v' w5 ho5 hc5 hat;have hb5:=hc5.keep hb4 hA4.s_own;have hl5:=Aa hb5;obtain⟨a5,c5,rfl,-⟩:=ho5.form;have hp:=M1.wGv (.slice a5 (M1.rows++[(⟨a3,cap3,M1.S.g0.row y⟩:Rw)]).length c5) (M1.rows++[⟨a3,cap3,M1.S.g0.row y⟩]) ((M1.rows++[(⟨a3,cap3,M1.S.g0.row y⟩:Rw)]).map Rw.cs) tl2;refine sr hb5 hp ?_;have hown:∀b o,a3=some ⟨b,o,none⟩→M1.S.g0.row y≠[]→w2.heap.size≤b:=by
      intro b o hab hne;obtain⟨g',hg',hge,-⟩:=hfm3 hne;rw[hab] at hg';simp at hg';have:w2.drew.heap.size=w2.heap.size:=rfl;omega
     have hlt2:=hA.lt;have hs5:SxC w5 (some 60) a3 (M1.S.g0.row y):=(hs3.chg0 hc4).chg hc5 λb o hab hne hm=>by
      have:=hown b o hab hne;have:=hlt2 b (by simp only[rM,Scm.blk];exact .inr (.inr (.inr hm)));omega
     obtain⟨M2,hA',hS',hc',hbl'⟩:=hA4.setGv hc5 ho5 (by
      intro r hr;rcases List.mem_append.1 hr with hr|hr
      ·exact(hA4.rows r hr).chg hc5 λb o hab hne=>(hA4.row_ne r hr b o hab hne).2
      ·simp at hr;subst hr;exact hs5) (by
      intro r hr b o hab hne;rcases List.mem_append.1 hr with hr|hr
      ·exact hA4.far r hr b o hab hne
      ·simp at hr;subst hr;have h9:=hown b o hab hne;have h10:=hlt2 M1.b0 (by simp [Scm.blk]);have h11:=hlt2 M1.b1 (by simp [Scm.blk]);omega) (by
      intro b hb';rcases hat with h9|h9
      ·rw[h9] at hb';exact .inl hb'
      ·rw[h9] at hb';simp at hb';exact .inr O)
     refine hn (y+1,M2) _ ⟨by dsimp only;omega,hA',?_,?_,?_⟩ (by dsimp only;omega)
     ·dsimp only;rw[hS',hS];have hgr':M1.rows.map Rw.cs=M.S.gone++(List.range y).map M.S.g0.row:=by rw[←hA.gone,hS]
      simp only[List.map_append,List.map_cons,List.map_nil,hgr',List.range_succ,rJ]
     ·have h12:Chg (s::M.blk) w w4:=hc.trans0 hc24;exact h12.trans hc' λx hx=>by
       rcases rM.1 hx with rfl|hx
       ·exact .inl Z
       ·exact(hbl x hx).imp (λh=>by simp [h]) id
     ·intro b hb';rcases hbl' b hb' with h9|h9
      ·exact hbl b h9
      ·have:=hc.size;have:=hc24.size;exact .inr O
    ·have hym:y=m:=O;subst hym;obtain⟨ga,gc,hgv,-⟩:=hA.own.form;have e5:max ((M1.rows.length:Int)-500) 0=((M1.rows.length-500:Nat):Int):=O;have hm60:y≤60:=O;refine LX3 hb2 hgv e5 ?_;have hA3:=hA.chg0 (sg _ _).drew;have hsd:=aw hA3.own (k:=M1.rows.length-500) O O;rw[hgv] at hsd;refine td dg rfl (hsd) ?_;rintro v' w4 ⟨ho4,hc4,hown4⟩;rw[←hgv] at hc4 hown4;have hb4:=hc4.keep hA3.hb hA3.s_own;have hl4:=Aa hb4;obtain⟨a5,c5,rfl,-⟩:=ho4.form;have hp:=M1.wGv (.slice a5 (M1.rows.drop (M1.rows.length-500)).length c5) (M1.rows.drop (M1.rows.length-500)) ((M1.rows.drop (M1.rows.length-500)).map Rw.cs) tl2;refine sr hb4 hp ?_;have hd:=hA3.setGv hc4 ho4 (by
      intro r hr;have hr:=List.mem_of_mem_drop hr;exact(hA3.rows r hr).chg hc4 λb o hab hne=>(hA3.row_ne r hr b o hab hne).2) (λr hr=>hA3.far r (List.mem_of_mem_drop hr)) (by
      intro b hb';rw[hown4] at hb';exact .inl hb')
     have hgr':M1.rows.map Rw.cs=M.S.gone++(List.range y).map M.S.g0.row:=by rw[←hA.gone,hS]
     have hlat:(M1.rows.drop (M1.rows.length-500)).map Rw.cs=DX (M.S.gone++(List.range y).map M.S.g0.row):=by
      unfold DX;rw[←hgr',List.length_map,List.map_drop]
     obtain⟨M2,x1,x2,x3,x4⟩:=hd;rw[hlat] at x1 x2 x3 ⊢;have hc2:Chg (s::M1.blk) w2 w2.drew:=(sg _ _).drew;exact Did.trans hc hbl (Did.trans hc2 (λb hb=>.inl hb) ⟨M2,x1,by rw[x2,hS],x3,x4⟩)
   ·rw[decide_eq_false hk,rF hk];refine sn ?_;exact Did.refl h
 ·rintro w1 ⟨M1,hA1,hS1,hc1,hbl1⟩;have ok1:=(ok.keep (n:=n)).ok;rw[←hS1] at ok1;have ht:M1.S.top=M.S.top:=by rw[hS1];unfold Scr.keep;split<;>rfl
  have hb1:=hA1.hb;refine sq hb1 ?_;refine td HY rfl (Hh hA1 ok1 M1.S.top n) ?_;rintro v w2 hd;rw[ht,hS1] at hd;exact hK _ _ (Did.trans hc1 hbl1 hd)
theorem GQ{w:World}{s:Nat}{M:Scm}(h:SAt w s M)(ok:M.S.ok):Calls prog 207 #[.pointer (some ⟨s,0,none⟩)] w (Ac λ_ a=>Did w s M a M.S.below):=by
 have b:=h.hb;have c:=Aa b;have d:=h.tl;have f:=ok.fh;have g:=ok.h1;have i:=ok.tf;have j:=ok.ny;apply VX;intro K k;unfold Mm;unfold Scr.below at k;refine sq b ?_;refine sd (λh2=>?_) (λh2=>?_)
 ·rw[rG O] at k;refine td PZ rfl (LU (h.chg0 (sg _ _).drew) ok 1) ?_;rintro v l m;exact k _ _ (Did.trans (M1:=M) (sg _ _).drew (λb b=>.inl b) m)
 ·rw[rF O] at k;refine sq b ?_;refine sd (λh3=>?_) (λh3=>?_)
  ·rw[rG O] at k;have e:(M.S.now.y:Int)+1=((M.S.now.y+1:Nat):Int):=O;refine sr b e ?_;exact k _ _ (Did.trans0 (Did.set h (sg _ _) (λb b=>.inl b) _ rfl rfl d rfl) (sg _ _).drew.drew)
  ·rw[rF O] at k;exact k _ _ (Did.trans0 (Did.refl h) (sg _ _).drew.drew)
theorem jG{w:World}{s:Nat}{M:Scm}(h:SAt w s M)(ok:M.S.ok):Calls prog 212 #[.pointer (some ⟨s,0,none⟩)] w (Ac λ_ a=>Did w s M a M.S.above):=by
 have b:=h.hb;have c:=Aa b;have d:=h.tl;have f:=ok.fh;have g:=ok.h1;have i:=ok.tf;have j:=ok.ny;apply XD;intro K k;unfold R1;unfold Scr.above at k;refine sq b ?_;refine sd (λh2=>?_) (λh2=>?_)
 ·rw[rG O] at k;refine sq b ?_;refine td HY rfl (Hh (h.chg0 (sg _ _).drew) ok M.S.top (-1)) ?_;rintro v l m;exact k _ _ (Did.trans (M1:=M) (sg _ _).drew (λb b=>.inl b) m)
 ·rw[rF O] at k;refine sq b ?_;refine sd (λh3=>?_) (λh3=>?_)
  ·rw[rG O] at k;have e:(M.S.now.y:Int)-1=((M.S.now.y-1:Nat):Int):=O;refine sr b e ?_;exact k _ _ (Did.trans0 (Did.set h (sg _ _) (λb b=>.inl b) _ rfl rfl d rfl) (sg _ _).drew)
  ·rw[rF O] at k;exact k _ _ (Did.trans0 (Did.refl h) (sg _ _).drew)
theorem hZ(x:BitVec 8):((x &&& 63#8 ||| 64#8) &&& 191#8) ||| 128#8=(x &&& 63#8) ||| 128#8:=by
 apply BitVec.eq_of_getLsbD_eq;intro i a;have:i=0∨i=1∨i=2∨i=3∨i=4∨i=5∨i=6∨i=7:=O;rcases this with rfl|rfl|rfl|rfl|rfl|rfl|rfl|rfl<;>simp
theorem bs(w:World)(r:Int)(p:Cel):Calls prog 210 #[.int .i32 r,p.val] w (Ac λv w'=>Ox w.heap.size w' 60 4 Cel.cells v (A8 r p)∧Chg [] w w'):=by
 apply ZZ;intro K hK;unfold PT;refine sn ?_;have hc1:=((sg [] w).alloc (.cells p.cells.toArray 60)).alloc (.cells #[.int .i32 r,.int .u8 p.fg.toNat,.int .u8 p.bg.toNat,.int .u8 (p.a &&& 63#8).toNat] 60);have hh:((w.alloc (.cells p.cells.toArray 60)).alloc (.cells #[.int .i32 r,.int .u8 p.fg.toNat,.int .u8 p.bg.toNat,.int .u8 (p.a &&& 63#8).toNat] 60)).heap[w.heap.size+1]?=some (.cells #[.int .i32 r,.int .u8 p.fg.toNat,.int .u8 p.bg.toNat,.int .u8 (p.a &&& 63#8).toNat] 60):=by exact so
 refine OpX.gen λw1 hw1=>?_;have hz:(w.alloc (.cells #[.int .i32 p.r,.int .u8 p.fg.toNat,.int .u8 p.bg.toNat,.int .u8 p.a.toNat] 60)).heap.size=w.heap.size+1:=by exact so
 rw[hz]
 replace hw1:=hw1.symm
 simp only[Cel.cells] at hh hc1;rw[hw1] at hh hc1;clear hw1;refine td G3 rfl (HH _ r) ?_;rintro v w2 ⟨rfl,hc2⟩;have hh2:=hc2.keep hh Z;have hc3:=hc1.trans0 hc2;clear hh hc1 hc2;have hl:=Aa hh2;refine sq hh2 ?_;refine sd (λh4=>?_) (λh4=>?_)
 ·refine sq hh2 ?_;refine hK _ _ ⟨?_,hc3.alloc _⟩;have e:A8 r p=[⟨r,p.fg,p.bg,p.a &&& 63#8⟩]:=by simp [A8,h4]
  rw[e];exact Ox.built (c:=[.int .i32 r,.int .u8 p.fg.toNat,.int .u8 p.bg.toNat,.int .u8 (p.a &&& 63#8).toNat]) (by exact so) Cel.len hc3.size rfl rfl O rfl
 ·refine sn ?_;refine sd (λh5=>?_) (λh5=>?_)
  ·refine sq hh2 ?_;have hc4:=(hc3.set (w.heap.size+1) (.cells #[.int .i32 r,.int .u8 p.fg.toNat,.int .u8 p.bg.toNat,.int .u8 ((p.a &&& 63#8) ||| 64#8).toNat] 60) (.inr O)).drew;have hh4:(Ab w2 (w.heap.size+1) (.cells #[.int .i32 r,.int .u8 p.fg.toNat,.int .u8 p.bg.toNat,.int .u8 ((p.a &&& 63#8) ||| 64#8).toNat] 60)).drew.heap[w.heap.size+1]?=some (.cells #[.int .i32 r,.int .u8 p.fg.toNat,.int .u8 p.bg.toNat,.int .u8 ((p.a &&& 63#8) ||| 64#8).toNat] 60):=by exact so
   refine OpX.gen λw3 hw3=>?_;rw[←hw3] at hc4 hh4;refine td Sw rfl (ND _ ⟨r,p.fg,p.bg,(p.a &&& 63#8) ||| 64#8⟩) ?_;rintro v w4 ⟨rfl,hc5⟩;have hh5:=hc5.keep hh4 Z;have hc6:=hc4.trans0 hc5;refine sq hh5 ?_;refine hK _ _ ⟨?_,hc6.alloc _⟩;have e:A8 r p=[⟨r,p.fg,p.bg,(p.a &&& 63#8) ||| 64#8⟩,⟨0,p.fg,p.bg,(p.a &&& 63#8) ||| 128#8⟩]:=by simp [A8,h5]
   rw[e];exact Ox.built (c:=[.int .i32 r,.int .u8 p.fg.toNat,.int .u8 p.bg.toNat,.int .u8 ((p.a &&& 63#8) ||| 64#8).toNat,.int .i32 0,.int .u8 p.fg.toNat,.int .u8 p.bg.toNat,.int .u8 ((p.a &&& 63#8) ||| 128#8).toNat]) (by simp -dsimp (disch:=first|omega|(simp only[go_sem,seval];try omega))only[go_sem,seval,Cel.tailOf,hZ]) Cel.len hc6.size rfl rfl O rfl
  ·refine hK _ _ ⟨?_,hc3⟩;have e:A8 r p=[]:=by simp [A8,h4,h5]
   rw[e];exact Ox.nil _ _ _ _ _
theorem Did.keep{w w':World}{s:Nat}{M:Scm}{T:Scr}(h:Did w s M w' T){b:Nat}{o:Obj}(a:w.heap[b]?=some o)(c:b∉s::M.blk):w'.heap[b]?=some o:=by
 obtain⟨d,e,f,g,i⟩:=h;exact g.keep a c
theorem Hk{s x n:Nat}{M M':Scm}(hb:∀b∈M'.blk,b∈M.blk∨n≤b)(hn:x∉s::M.blk)(hx:x<n):x∉s::M'.blk:=λhm=>by
 rcases rM.1 hm with e|hm
 ·exact hn (by rw[e];simp)
 ·rcases hb _ hm with hm|hm
  ·exact hn (List.mem_cons_of_mem _ hm)
  ·omega
theorem dW(r:Int)(p:Cel):(A8 r p).length≤2:=by unfold A8;split<;>(try split)<;>simp
theorem UG{w:World}{s:Nat}{M:Scm}(h:SAt w s M)(ok:M.S.ok){c d:Nat}{r:Int}(e:w.heap[c]?=some (.cells #[.pointer (some ⟨s,0,none⟩)] 200))(f:w.heap[d]?=some (.cells #[.int .i32 r] 21)):
  J8 (.func (.func 209) #[] #[.pointer (some ⟨c,0,none⟩),.pointer (some ⟨d,0,none⟩)]) w s M (λg=>g.put M.S.now.x 0 (A8 r M.S.now.pen)):=by
 intro w2 g b o i j k l m;refine Bm.of (us:=[]) (cs:=[_,_]) ZY ?_;have n:=j.keep e Z;have p:=j.keep f Z;have q:=h.chg0 j;have t:=q.hb;have u:=Aa n;have x:=Aa p;have y:=Aa t;have z:=ok.nx;have A:=ok.w1;have B:=k.ok.w1;have C:=k.ok.h1;apply dL;intro K D;unfold RY;simp -dsimp (disch:=first|omega|(simp only[go_sem,seval];try omega))only[go_sem,seval,Gr.val,t,n,p];have E:Chg [] w2 (((w2.alloc (.cells #[.int .i64 g.w,.int .i64 g.h,.slice (some ⟨b,o,none⟩) g.cs.length i] 50)).alloc (.cells #[.int .i64 0,.int .i64 0,.slice none 0 0] 50)).drew):=(By _ _ _).drew;have F:(((w2.alloc (.cells #[.int .i64 g.w,.int .i64 g.h,.slice (some ⟨b,o,none⟩) g.cs.length i] 50)).alloc (.cells #[.int .i64 0,.int .i64 0,.slice none 0 0] 50)).drew).heap[w2.heap.size]?=some (.cells #[.int .i64 g.w,.int .i64 g.h,.slice (some ⟨b,o,none⟩) g.cs.length i] 50):=by exact so
 have G:(((w2.alloc (.cells #[.int .i64 g.w,.int .i64 g.h,.slice (some ⟨b,o,none⟩) g.cs.length i] 50)).alloc (.cells #[.int .i64 0,.int .i64 0,.slice none 0 0] 50)).drew).heap[w2.heap.size+1]?=some (.cells #[.int .i64 0,.int .i64 0,.slice none 0 0] 50):=by exact so
 have H:(w2.alloc (.cells #[.int .i64 g.w,.int .i64 g.h,.slice (some ⟨b,o,none⟩) g.cs.length i] 50)).heap.size=w2.heap.size+1:=by exact so
 rw[H];generalize (World.alloc _ _).drew=w3 at E F G ⊢;have I:=Aa G;refine td bN rfl (bs _ r M.S.now.pen) ?_;rintro v J ⟨L,N⟩;obtain⟨a,P,rfl,Q,R,S,T⟩:=L.form;have U:=E.trans0 N;have V:=U.keep n Z;have W:=U.keep t Z;have c:=N.keep F Z;have d:=N.keep G Z;refine LX3 V W c ?_;refine td KY rfl (My (X:=M.S.now.x) (Y:=0) k.ok k.r (m.chg0 U) i l R P (by have:=dW r M.S.now.pen;omega) O O) ?_;rintro v e ⟨⟨f,j,q,rfl,u,x,y⟩,z⟩;have A:=z.keep d Z;have B:=U.trans0 z;have C:=U.size;have p:=N.size;have H:=Aa A;have I:=Aa y;simp -dsimp (disch:=first|omega|(simp only[go_sem,seval];try omega))only[go_sem,seval,Gr.val,A];refine D _ _ ⟨⟨f,j,q,rfl,u,O,?_⟩,B.set _ _ (.inr O)⟩;refine sn ?_;exact y
theorem ee{w:World}{s:Nat}{M:Scm}(h:SAt w s M)(ok:M.S.ok)(r:Int):Calls prog 164 #[.pointer (some ⟨s,0,none⟩),.int .i32 r] w (Ac λ_ w'=>Did w s M w' (M.S.print r)):=by
 have hlt:=h.lt;apply bY;intro K hK;unfold Pj;refine sn ?_;refine OpX.gen λw1 hw1=>?_;have hz:(w.alloc (.cells #[.pointer (some ⟨s,0,none⟩)] 200)).heap.size=w.heap.size+1:=by exact so
 rw[hz];have hc1:Chg [] w w1:=by rw[hw1];exact By _ _ _
 have hp1:w1.heap[w.heap.size]?=some (.cells #[.pointer (some ⟨s,0,none⟩)] 200):=by rw[hw1];exact so
 have hr1:w1.heap[w.heap.size+1]?=some (.cells #[.int .i32 r] 21):=by rw[hw1];exact so
 clear hw1;refine td G3 rfl (HH _ r) ?_;rintro v w2 ⟨rfl,hc2⟩
 replace hp1:=hc2.keep hp1 Z
 replace hr1:=hc2.keep hr1 Z
 replace hc1:=hc1.trans0 hc2
 clear hc2;have hA:=h.chg0 hc1;have hn1:w.heap.size∉s::M.blk:=λhm=>by have:=hlt _ hm;omega
 have hn2:w.heap.size+1∉s::M.blk:=λhm=>by have:=hlt _ hm;omega
 have hb:=hA.hb;have hwd:=HD r;have w1b:=ok.w1;have nx:=ok.nx;have tl:=ok.tl;have hls:=Aa h.hb;have hlp:=Aa hp1;have hlr:=Aa hr1;refine sh (λv w'=>v=.bool (decide (AN r=0∨(M.S.w:Int)<AN r))∧w2=w') ?_ ?_
 ·refine sn ?_;refine sd (λh2=>?_) (λh2=>?_)
  ·exact⟨by simp [h2],rfl⟩
  ·refine sr hp1 hb ?_;simp [h2]
 ·rintro v w3 ⟨rfl,rfl⟩;unfold Scr.print at hK;refine sd (λh2=>?_) (λh2=>?_)
  ·rw[rG h2] at hK;exact hK _ _ (Did.trans (hc1.mono Z) (λb hb=>.inl hb) (Did.refl hA))
  ·rw[rF h2] at hK;obtain⟨n,hn⟩:∃n,n=(AN r).toNat:=⟨_,rfl⟩;have hnw:AN r=(n:Int):=O;rw[←hn] at hK;rw[hnw] at h2 hwd ⊢;clear hn hnw;refine si (λw'=>Did w2 s M w' M.S.wrapped) ?_ ?_
   ·unfold Scr.wrapped;refine sr hp1 hb ?_;refine BrW.by (λhw=>?_) (λhw=>?_)
    ·rw[rG hw];refine sr hp1 hb ?_;refine td Gv rfl (GQ (hA.set (M.S.at 0 M.S.now.y) rfl rfl tl rfl) (ok.at ok.w0 ok.ny).ok) ?_;rintro v w3 hd;exact Did.trans (M1:={ M with S:=M.S.at 0 M.S.now.y }) ((sg _ _).set _ _ (.inl Z)) (λb hb=>.inl hb) hd
    ·rw[rF (by simp [hw])];exact Did.refl hA
   ·intro w3 hd3
    replace hp1:=hd3.keep hp1 hn1
    replace hr1:=hd3.keep hr1 hn2
    obtain⟨M3,hA3,hS3,hc3,hbl3⟩:=hd3;have ok3:M3.S.ok:=by rw[hS3];exact ok.wrapped.ok
    have hw3:M3.S.w=M.S.w:=by rw[hS3];exact ok.wrapped.w
    have hb3:=hA3.hb;have tl3:=hA3.tl;have nx3:=ok3.nx;have hz3:=hc3.size;refine si (λw'=>Did w3 s M3 w' (M3.S.roomFor n)) ?_ ?_
    ·unfold Scr.roomFor;have e1:(M3.S.now.x:Int)+(n:Int)=((M3.S.now.x+n:Nat):Int):=O;refine LX3 hp1 hb3 e1 ?_;refine sd (λh4=>?_) (λh4=>?_)
     ·rw[rG O];refine sr hp1 hb3 ?_;refine BrW.by (λhw=>?_) (λhw=>?_)
      ·rw[rG hw];refine sr hp1 hb3 ?_;refine td Gv rfl (GQ ((hA3.chg0 (sg _ _).drew).set (M3.S.at 0 M3.S.now.y) rfl rfl tl3 rfl) (ok3.at ok3.w0 ok3.ny).ok) ?_;rintro v w4 hd;exact Did.trans (M1:={ M3 with S:=M3.S.at 0 M3.S.now.y }) ((sg _ _).drew.set _ _ (.inl Z)) (λb hb=>.inl hb) hd
      ·rw[rF (by simp [hw])];have e2:(M3.S.w:Int)-(n:Int)=((M3.S.w-n:Nat):Int):=O;refine LX3 hp1 hb3 e2 ?_;exact Did.set (hA3.chg0 (sg _ _).drew.drew) (sg _ _).drew.drew (λb hb=>.inl hb) (M3.S.at (M3.S.w-n) M3.S.now.y) rfl rfl tl3 rfl
     ·rw[rF O];exact Did.trans0 (Did.refl hA3) (sg _ _).drew
    ·intro w4 hd4;have hn1':=Hk hbl3 hn1 O;have hn2':=Hk hbl3 hn2 O
     replace hp1:=hd4.keep hp1 hn1'
     replace hr1:=hd4.keep hr1 hn2'
     have hn4:0<n:=O;have hrf:=ok3.roomFor (n:=n) hn4 O;obtain⟨M4,hA4,hS4,hc4,hbl4⟩:=hd4;have ok4:M4.S.ok:=by rw[hS4];exact hrf.1.ok
     have hfit:M4.S.now.x+n≤M4.S.w:=by rw[hS4,hrf.1.w];exact hrf.2
     have hn1':=Hk hbl4 hn1' O;rw[←hS3,←hS4] at hK;have hb4:=hA4.hb;refine sr hp1 hb4 ?_;refine td Ix rfl (IG hA4 ok4 (UG hA4 ok4 hp1 hr1) (λ_ hg=>hg.put)) ?_;rintro v w5 hd5
     replace hp1:=hd5.keep hp1 hn1'
     obtain⟨M5,hA5,hS5,hc5,hbl5⟩:=hd5;have hb5:=hA5.hb;have tl5:=hA5.tl;have hz4:=hc4.size;have hz5:=hc5.size;have hx5:M5.S.now=M4.S.now:=by rw[hS5];exact Dy _
     have hw5:M5.S.w=M4.S.w:=by rw[hS5];exact(ok4.line λ_ hg=>hg.put).w
     have hr5:M5.S.wraps=M4.S.wraps:=by rw[hS5];unfold Scr.line Scr.setCur;cases M4.S.alt<;>rfl
     have e1:(M5.S.now.x:Int)+(n:Int)=((M5.S.now.x+n:Nat):Int):=O;have hx200:M5.S.now.x+n≤M5.S.w∧M5.S.w≤200:=by rw[hx5,hw5];exact⟨hfit,ok4.w1⟩
     refine LX3 hp1 hb5 e1 ?_;refine sd (λh6=>?_) (λh6=>?_)
     ·have e2:(M5.S.w:Int)-1=((M5.S.w-1:Nat):Int):=by have:=ok4.w0;omega
      refine LX3 hp1 hb5 e2 ?_;have e:M4.S.lay r n={ M5.S.at (M5.S.w-1) M5.S.now.y with waits:=M5.S.wraps }:=by
       unfold Scr.lay;rw[rG (by rw[←hx5,←hw5];omega),hx5,hw5,hr5,hS5]
      rw[e] at hK;exact hK _ _ (Did.trans (hc1.mono Z) (λb hb=>.inl hb) (Did.trans hc3 hbl3 (Did.trans hc4 hbl4 (Did.trans hc5 hbl5 (Did.trans0 (Did.set hA5 (sg _ _) (λb hb=>.inl hb) _ rfl rfl tl5 rfl) (sg _ _).drew.drew.drew)))))
     ·have e:M4.S.lay r n={ M5.S.at (M5.S.now.x+n) M5.S.now.y with waits:=false }:=by
       unfold Scr.lay;rw[rF (by rw[←hx5,←hw5];omega),hx5,hS5]
      rw[e] at hK;exact hK _ _ (Did.trans (hc1.mono Z) (λb hb=>.inl hb) (Did.trans hc3 hbl3 (Did.trans hc4 hbl4 (Did.trans hc5 hbl5 (Did.trans0 (Did.set hA5 (sg _ _) (λb hb=>.inl hb) _ rfl rfl tl5 rfl) (sg _ _).drew)))))
def De(k:Nat):List Bool:=(List.range 200).map λx=>decide (x % 8=0∧8≤x∧x<8*k+8)
theorem Fj(k:Nat):(De k).length=200:=by unfold De;rw[List.length_map,List.length_range]
theorem GL(k i:Nat)(h:i<(De k).length):(De k)[i]=decide (i % 8=0∧8≤i∧i<8*k+8):=by simp only[De,List.getElem_map,List.getElem_range]
theorem Zn:De 0=List.replicate 200 false:=by
 apply List.ext_getElem
 ·rw[Fj,List.length_replicate]
 ·intro i a b;rw[GL,List.getElem_replicate];exact decide_eq_false O
theorem S7:De 24=DO:=by
 apply List.ext_getElem
 ·rw[Fj,IZ]
 ·intro i a b;rw[Fj] at a;rw[GL];simp only[DO,List.getElem_map,List.getElem_range];exact decide_eq_decide.2 ⟨λh=>⟨h.1,h.2.1⟩,λh=>⟨h.1,h.2,O⟩⟩
theorem Zt{k:Nat}(a:k<24):(De k).set (8*k+8) true=De (k+1):=by
 apply List.ext_getElem
 ·rw[List.length_set,Fj,Fj]
 ·intro i b c;rw[GL,List.getElem_set];split
  ·exact(decide_eq_true O).symm
  ·rw[GL];exact decide_eq_decide.2 O
def Scr.bare(W H:Nat)(k:Nat)(g:List (List Cel)):Scr:=⟨W,H,Gr.plain W H Cel.blank,Gr.plain W H Cel.blank,.zero,.zero,false,.zero,0,H,De k,true,false,true,g⟩
def Bx(W H:Nat)(a b:List Value)(gv:Value):List Value:=
 [(.int .i64 W:Value),.int .i64 H]++a++b++[(.int .i64 0:Value),.int .i64 0,.int .i32 0,.int .u8 0,.int .u8 0,.int .u8 0,.int .i64 0,.int .i64 0,.int .i32 0,.int .u8 0,.int .u8 0,.int .u8 0,.int .i64 0,.int .i64 0,.int .i64 0,.int .i32 0,.int .u8 0,.int .u8 0,.int .u8 0,.int .i64 0,.int .i64 H]++List.replicate 200 (.bool false)++[.bool true,.bool false,.bool true,gv]
def Bt:List Value:=[.int .i64 0,.int .i64 0,.slice none 0 0]
theorem bV(W H:Nat)(gv:Value){a b:List Value}(c:a.length=3)(d:b.length=3):(Bx W H a b gv).length=233:=by unfold Bx;simp only[rS,List.length_replicate,List.length_cons,List.length_nil,c,d]
theorem Xa(W H a b c d:Nat)(e f:List Value)(gv:Value)(rows:List Rw)(g:List (List Cel)):
  (⟨Scr.bare W H 0 g,a,b,e,c,d,f,gv,rows⟩:Scm).cells=Bx W H [.int .i64 W,.int .i64 H,.slice (some ⟨a,0,none⟩) (Gr.plain W H Cel.blank).cs.length b] [.int .i64 W,.int .i64 H,.slice (some ⟨c,0,none⟩) (Gr.plain W H Cel.blank).cs.length d] gv:=by
 unfold Scm.cells Scm.end Scr.bare;dsimp only;rw[Zn,List.map_replicate];rfl
@[go_sem] theorem qJ(W H:Nat)(a b:List Value)(gv:Value):(Bx W H a b gv)[0]?=some (.int .i64 W):=rfl
@[go_sem] theorem pk(W H:Nat)(a b:List Value)(gv:Value):(Bx W H a b gv)[1]?=some (.int .i64 H):=rfl
theorem Yf(W H:Nat){a b vs:List Value}(gv:Value)(T:TypeId)(ha:a.length=3)(hv:vs.length=3):Ao (some (.cells (Bx W H a b gv).toArray T)) 2 vs=some (.cells (Bx W H vs b gv).toArray T):=by
 have:=λpost=>Cw [(.int .i64 W:Value),.int .i64 H] a vs post T 2 rfl O;unfold Bx;rw[rJ ([(.int .i64 W:Value),.int .i64 H]++a),rJ ([(.int .i64 W:Value),.int .i64 H]++a),rJ ([(.int .i64 W:Value),.int .i64 H]++a),rJ ([(.int .i64 W:Value),.int .i64 H]++vs),rJ ([(.int .i64 W:Value),.int .i64 H]++vs),rJ ([(.int .i64 W:Value),.int .i64 H]++vs)];exact this _
theorem fS(W H:Nat){a b vs:List Value}(gv:Value)(T:TypeId)(ha:a.length=3)(hb:b.length=3)(hv:vs.length=3):Ao (some (.cells (Bx W H a b gv).toArray T)) 5 vs=some (.cells (Bx W H a vs gv).toArray T):=by
 have:=λpost=>Cw ([(.int .i64 W:Value),.int .i64 H]++a) b vs post T 5 (by simp [ha]) O;unfold Bx;rw[rJ ([(.int .i64 W:Value),.int .i64 H]++a++b),rJ ([(.int .i64 W:Value),.int .i64 H]++a++b),rJ ([(.int .i64 W:Value),.int .i64 H]++a++vs),rJ ([(.int .i64 W:Value),.int .i64 H]++a++vs)];exact this _
theorem Fc(W H:Nat)(c:Cel):(Gr.plain W H c).w=W:=rfl
theorem Ew(W H:Nat)(c:Cel):(Gr.plain W H c).h=H:=rfl
theorem Tn{c vs:List Value}{T:TypeId}(h:vs.length=c.length):Ao (some (.cells c.toArray T)) 0 vs=some (.cells vs.toArray T):=by
 have:=Cw [] c vs [] T 0 rfl h;simpa using this
section
attribute [-go_sem] E0 Et
theorem L7{w:World}{s:Nat}{c:List Value}{gv:Value}{rows:List Rw}{W H:Nat}(d:w.heap[s]?=some (.cells c.toArray 256))(e:c.length=233)(f:c[0]?=some (.int .i64 W))(g:c[1]?=some (.int .i64 H))(h:c[232]?=some gv)(i:0<W)(j:W≤200)(l:0<H)(m:H≤60)(own:Ox 0 w 48 1 Rw.f gv rows)(n:∀r∈rows,SxC w (some 60) r.a r.cs):
  Calls prog 201 #[.pointer (some ⟨s,0,none⟩)] w (Ac λ_ p=>∃q:Scm,SAt p s q∧q.S=Scr.bare W H 24 (rows.map Rw.cs)∧q.gv=gv∧Chg [s] w p∧w.heap.size≤q.b0∧w.heap.size≤q.b1):=by
 have t:=Aa d;have u:As (some (.cells c.toArray 256)) 0=some (.int .i64 W):=by rw[←f];simp [As]
 have x:As (some (.cells c.toArray 256)) 1=some (.int .i64 H):=by rw[←g];simp [As]
 have y:As (some (.cells c.toArray 256)) 232=some gv:=by rw[←h];simp [As]
 obtain⟨z,A,rfl,-,-,-,-⟩:=own.form;apply UM;intro K B;unfold SV;refine LX4 d u x y ?_;refine OpX.build (c:=(Bx W H Bt Bt (.slice z rows.length A)).toArray) (by kernel_rfl) ?_;have C:Ao (some (.cells c.toArray 256)) 0 (Bx W H Bt Bt (.slice z rows.length A))=some (.cells (Bx W H Bt Bt (.slice z rows.length A)).toArray 256):=Tn (by rw[bV _ _ _ rfl rfl,e]);refine sn ?_;rw[D5 _ _ _ _ _ _ _ (by kernel_rfl) (by kernel_rfl)];change StX _ _ _ _ _ _ (Ao w.heap[s]? 0 (Bx W H Bt Bt (.slice z rows.length A))) _ _;rw[d,C,D6];refine Loop1.st (λk:Nat=>.int .i64 k) (λk p=>(k=0∧p=Ab w.drew s (.cells (Bx W H Bt Bt (.slice z rows.length A)).toArray 256))∨(k=1∧Chg [s] w p∧∃D E F,p.heap[s]?=some (.cells (Bx W H [.int .i64 W,.int .i64 H,.slice (some ⟨D,0,none⟩) (Gr.plain W H Cel.blank).cs.length E] Bt (.slice z rows.length A)).toArray 256)∧(Gr.plain W H Cel.blank).cs.length≤E∧w.heap.size≤D∧p.heap[D]?=some (.cells ((Gr.plain W H Cel.blank).cs.flatMap Cel.cells++F).toArray 60))∨(k=2∧Chg [s] w p∧∃q,SAt p s q∧q.S=Scr.bare W H 0 (rows.map Rw.cs)∧q.gv=(.slice z rows.length A)∧w.heap.size≤q.b0∧w.heap.size≤q.b1)) (λk=>2-k) 0 rfl (.inl ⟨rfl,rfl⟩) ?_;rintro next k G I J
 rcases J with ⟨rfl,rfl⟩|⟨rfl,L,D,E,F,M,N,P,Q⟩|⟨rfl,L,R,S,T,U,M,N⟩
 ·refine sn ?_;refine td E8 rfl (Ft _ W H i j l m) ?_;rintro v w2 ⟨⟨D,E,F,rfl,M,N,P⟩,V⟩;have X:((Ab w s (.cells (Bx W H Bt Bt (.slice z rows.length A)).toArray 256)).drew.drew).heap[s]?=some (.cells (Bx W H Bt Bt (.slice z rows.length A)).toArray 256):=by exact so
  have Y:Chg [s] w ((Ab w s (.cells (Bx W H Bt Bt (.slice z rows.length A)).toArray 256)).drew.drew):=((sg _ _).set _ _ Z).drew.drew;have t:=Y.size;have f:=V.keep X Z;have g:=Aa f;have h:=Yf W H (a:=Bt) (b:=Bt) (vs:=[.int .i64 W,.int .i64 H,.slice (some ⟨D,0,none⟩) (Gr.plain W H Cel.blank).cs.length E]) (.slice z rows.length A) 256 rfl rfl;simp -dsimp (disch:=first|omega|(simp only[go_sem,seval];try omega))only[go_sem,seval,Gr.val,f,Fc,Ew,h];refine I 1 _ (.inr (.inl ⟨rfl,(Y.trans0 V).set _ _ Z,D,E,F,?_,M,O,?_⟩)) O
  ·exact so
  ·refine sn ?_;exact P
 ·have u:=Aa M;refine sq M ?_;refine td E8 rfl (Ft _ W H i j l m) ?_;rintro v w2 ⟨⟨e,C,J,rfl,x,y,h⟩,V⟩;have Y:Chg [s] w G.drew:=L.drew;have t:=Y.size;have f:=V.keep (show G.drew.heap[s]?=_ from M) Z;have i:=V.keep (show G.drew.heap[D]?=_ from Q) Z;have g:=Aa f;have j:=Aa Q;have l:=fS W H (a:=[.int .i64 W,.int .i64 H,.slice (some ⟨D,0,none⟩) (Gr.plain W H Cel.blank).cs.length E]) (b:=Bt) (vs:=[.int .i64 W,.int .i64 H,.slice (some ⟨e,0,none⟩) (Gr.plain W H Cel.blank).cs.length C]) (.slice z rows.length A) 256 rfl rfl rfl;simp -dsimp (disch:=first|omega|(simp only[go_sem,seval];try omega))only[go_sem,seval,Gr.val,f,Fc,Ew,l];have m:=(Y.trans0 V).set s (.cells (Bx W H [.int .i64 W,.int .i64 H,.slice (some ⟨D,0,none⟩) (Gr.plain W H Cel.blank).cs.length E] [.int .i64 W,.int .i64 H,.slice (some ⟨e,0,none⟩) (Gr.plain W H Cel.blank).cs.length C] (.slice z rows.length A)).toArray 256) Z;refine I 2 _ (.inr (.inr ⟨rfl,m,⟨Scr.bare W H 0 (rows.map Rw.cs),D,E,F,e,C,J,.slice z rows.length A,rows⟩,⟨?_,?_,N,?_,x,?_,Fj 0,?_,?_,?_,rfl⟩,rfl,rfl,P,by show _≤e;simp at y;omega⟩)) O
  ·unfold Scm.obj;rw[Xa];exact so
  ·refine sn ?_;exact i
  ·simp at y;refine sn ?_;exact h
  ·simp at y;show D≠e;omega
  ·exact own.chg m (λb u t=>by
    rw[List.mem_singleton.1 t] at u;exact own.off d rfl u.symm)
  ·exact λr g=>(n r g).chg m (λb o Q j t=>(n r g).ne Q j d rfl (List.mem_singleton.1 t))
  ·intro r g b o Q j;have:=(n r g).lt j Q;simp at y;exact⟨by show b≠D;omega,by show b≠e;omega⟩
 ·refine sn ?_;refine Loop1.st (λk:Nat=>.int .i64 ((8*k+8:Nat):Int)) (λk p=>k≤24∧Chg [s] w p∧∃q,SAt p s q∧q.S=Scr.bare W H k (rows.map Rw.cs)∧q.gv=(.slice z rows.length A)∧w.heap.size≤q.b0∧w.heap.size≤q.b1) (λk=>24-k) 0 rfl ⟨O,L,R,S,T,U,M,N⟩ ?_;clear L S T U M N I R G;rintro next k G I ⟨f,L,R,S,T,U,M,N⟩
  have X:=S.hb;have l:=S.tl;refine sq X ?_;refine sd (λh4=>?_) (λh4=>?_)
  ·have x:((8*k+8:Nat):Int)+8=((8*(k+1)+8:Nat):Int):=O;have E:(((8*k+8:Nat):Int)).toNat=8*k+8:=O;refine LX3 X x E ?_;refine I (k+1) _ ⟨O,L.set _ _ Z,_,S.set { R.S with tabs:=R.S.tabs.set (8*k+8) true } rfl rfl (by rw[List.length_set];exact l) rfl,?_,U,M,N⟩ O;show({ R.S with tabs:=R.S.tabs.set (8*k+8) true }:Scr)=_;rw[T];unfold Scr.bare;dsimp only;rw[Zt O]
  ·have F:k=24:=O;subst F;exact B _ _ ⟨R,S,T,U,L,M,N⟩
end
theorem Us(S:Scr):S.renew=Scr.bare S.w S.h 24 S.gone:=by unfold Scr.renew Scr.bare;rw[S7]
theorem eT(W H:Nat):Scr.new W H=Scr.bare W H 24 []:=by unfold Scr.new Scr.bare;rw[S7]
theorem ka{w:World}{s:Nat}{M:Scm}(h:SAt w s M)(ok:M.S.ok):Calls prog 201 #[.pointer (some ⟨s,0,none⟩)] w (Ac λ_ a=>Did w s M a M.S.renew):=by
 refine Calls.mono (L7 (c:=M.cells) (gv:=M.gv) (rows:=M.rows) h.hb (M.cells_len h.tl) rfl rfl ?_ ok.w0 ok.w1 ok.h0 ok.h1 h.own h.rows) ?_
 ·have:=M.rTail 203;have e:=M.r232 h.tl;simpa [Scm.obj,As] using e
 ·intro v a d;cases v with
  | returned v=>?_
  | _=>exact d
  obtain⟨f,g,i,j,k,l,m⟩:=d;refine⟨f,g,?_,k.mono Z,?_⟩
  ·rw[i,Us,h.gone]
  ·intro b n;simp only[Scm.blk,rM] at n ⊢;rcases n with rfl|rfl|n
   ·exact .inr l
   ·exact .inr m
   ·rw[j] at n;exact .inl (.inr (.inr n))
theorem Did.calm{w w1:World}{s:Nat}{M:Scm}{T:Scr}(h:Did w s M w1 T):∃a:Scm,w1.heap[s]?=some a.obj∧a.S=T∧a.S.tabs.length=200∧Did w s M (Ab w1 s ({ a with S:={ a.S with waits:=false } }:Scm).obj) T.calm:=by
 obtain⟨a,b,c,d,e⟩:=h;refine⟨a,b.hb,c,b.tl,?_⟩;have:=Did.set b d e a.S.calm rfl rfl b.tl rfl;rw[c] at this;rw[←c] at this ⊢;exact this
theorem Vi{w:World}{s:Nat}{M:Scm}(h:SAt w s M)(ok:M.S.ok)(r:Int):Calls prog 165 #[.pointer (some ⟨s,0,none⟩),.int .i32 r] w (Ac λ_ w'=>Did w s M w' (M.S.ctl r)):=by
 have hb:=h.hb;have hl:=Aa hb;have tl:=h.tl;have w1b:=ok.w1;have w0:=ok.w0;have nx:=ok.nx;apply iS;intro K hK;unfold PB;refine si (λw'=>∃T,Did w s M w' T∧M.S.ctl r=T.calm) ?_ ?_
 ·refine sn ?_;unfold Scr.ctl;unfold Scr.ctl at hK;refine sd (λh2=>?_) (λh2=>?_)
  ·subst h2;have e1:max ((M.S.now.x:Int)-1) 0=((M.S.now.x-1:Nat):Int):=O;refine sr hb e1 ?_;exact⟨_,Did.set h (sg _ _) (λb hb=>.inl hb) (M.S.at (M.S.now.x-1) M.S.now.y) rfl rfl tl rfl,rfl⟩
  ·rw[rF h2];rw[rF h2] at hK;refine sn ?_;refine sd (λh3=>?_) (λh3=>?_)
   ·rw[rG h3];have e1:(M.S.now.x:Int)+1=((M.S.now.x+1:Nat):Int):=O;refine sr hb e1 ?_;refine Loop1.st (λx:Nat=>.int .i64 (x:Int)) (λx w'=>Chg [] w w'∧M.S.now.x+1≤x∧x≤M.S.w∧Co M.S.tabs M.S.w (M.S.w-x) x=Co M.S.tabs M.S.w (M.S.w-(M.S.now.x+1)) (M.S.now.x+1)) (λx=>M.S.w-x) (M.S.now.x+1) rfl ⟨sg _ _,O,O,rfl⟩ ?_;rintro next x w1 hn ⟨hc,k1,k2,k3⟩
    have hb1:=hc.keep hb Z;have hA1:=h.chg0 hc;refine sh (λv w'=>v=.bool (decide (x<M.S.w∧M.S.tabs.getD x false=false))∧w1=w') ?_ ?_
    ·refine sq hb1 ?_;refine sd (λh4=>?_) (λh4=>?_)
     ·refine sq hb1 ?_;refine congrArg Value.bool ?_;have:x<M.S.w:=O;simp [this]
     ·exact⟨sv O,rfl⟩
    ·rintro v w2 ⟨rfl,rfl⟩;refine sd (λh4=>?_) (λh4=>?_)
     ·have e2:(x:Int)+1=((x+1:Nat):Int):=O;refine sq e2 ?_;refine hn (x+1) _ ⟨hc,O,O,?_⟩ O;rw[←k3];obtain⟨k,hk⟩:∃k,M.S.w-x=k+1:=⟨M.S.w-x-1,O⟩;rw[hk]
      conv=>rhs;unfold Co
      rw[rG h4];congr 1;omega
     ·have k4:Co M.S.tabs M.S.w (M.S.w-x) x=x:=by
       rcases Nat.eq_zero_or_pos (M.S.w-x) with hk|hk
       ·rw[hk];rfl
       ·obtain⟨k,hk⟩:∃k,M.S.w-x=k+1:=⟨M.S.w-x-1,O⟩;rw[hk];unfold Co;rw[rF h4]
      have e2:min (x:Int) ((M.S.w:Int)-1)=((min x (M.S.w-1):Nat):Int):=O;refine sr hb1 e2 ?_;refine⟨_,Did.set hA1 (hc.mono Z) (λb hb=>.inl hb) (M.S.at (min x (M.S.w-1)) M.S.now.y) rfl rfl tl rfl,?_⟩;unfold Scr.tab;rw[←k3,k4]
   ·rw[rF h3];rw[rF h3] at hK;refine sh (λv w'=>v=.bool (decide (r=10∨r=11∨r=12))∧w=w') ?_ ?_
    ·refine sn ?_;refine sd (λh4=>?_) (λh4=>?_)
     ·exact⟨su (.inl h4),rfl⟩
     ·refine sn ?_;refine sd (λh5=>?_) (λh5=>?_)
      ·exact⟨su (.inr (.inl h5)),rfl⟩
      ·refine sn ?_;simp [h4,h5]
    ·rintro v w2 ⟨rfl,rfl⟩;refine sd (λh4=>?_) (λh4=>?_)
     ·rw[rG h4];refine td Gv rfl (GQ h ok) ?_;rintro v w1 hd;exact⟨_,hd,rfl⟩
     ·rw[rF h4];rw[rF h4] at hK;refine sn ?_;refine sd (λh5=>?_) (λh5=>?_)
      ·rw[rG h5];refine sq hb ?_;exact⟨_,Did.set h (sg _ _) (λb hb=>.inl hb) (M.S.at 0 M.S.now.y) rfl rfl tl rfl,rfl⟩
      ·rw[rF h5] at hK;exact hK _ _ (Did.refl h)
 ·rintro w1 ⟨T,hd,e⟩;obtain⟨M1,hb1,hS,tl1,hd⟩:=hd.calm;rw[e] at hK;refine sq hb1 ?_;exact hK _ _ hd
theorem TZ{w:World}{s:Nat}{M:Scm}(h:SAt w s M)(ok:M.S.ok)(r:Int):Calls prog 166 #[.pointer (some ⟨s,0,none⟩),.int .i32 r] w (Ac λ_ w'=>Did w s M w' (M.S.esc r)):=by
 have hb:=h.hb;have hl:=Aa hb;have tl:=h.tl;have w1b:=ok.w1;have w0:=ok.w0;have nx:=ok.nx;apply fJ;intro K hK;unfold Rk;refine si (λw'=>∃T,Did w s M w' T∧M.S.esc r=T.calm) ?_ ?_
 ·unfold Scr.esc;unfold Scr.esc at hK;refine si (λw'=>∃M1:Scm,SAt w' s M1∧M1.S.ok∧Chg (s::M.blk) w w'∧M1.blk=M.blk∧M.S.esc r=M1.S.below.calm) ?_ ?_
  ·refine sn ?_;refine sd (λh1=>?_) (λh1=>?_)
   ·rw[rG h1] at hK;refine sn ?_;refine td Jy rfl (IW h) ?_;rintro v w1 hd;exact hK _ _ hd
   rw[rF h1] at hK ⊢;refine sn ?_;refine sd (λh2=>?_) (λh2=>?_)
   ·rw[rG h2] at hK;refine sq hb ?_;exact hK _ _ (Did.trans0 (Did.set h (sg _ _) (λb hb=>.inl hb) { M.S with tabs:=M.S.tabs.set M.S.now.x true } rfl rfl (by rw[List.length_set];exact tl) rfl) (sg _ _).drew)
   rw[rF h2] at hK ⊢;refine sn ?_;refine sd (λh3=>?_) (λh3=>?_)
   ·refine sq hb ?_;refine⟨_,h.set (M.S.at 0 M.S.now.y) rfl rfl tl rfl,(ok.at w0 ok.ny).ok,(sg _ _).set _ _ Z,rfl,?_⟩;unfold Scr.esc;rw[rF h1,rF h2,rG h3]
   rw[rF h3] at hK ⊢;refine sn ?_;refine sd (λh4=>?_) (λh4=>?_)
   ·refine⟨_,h,ok,sg _ _,rfl,?_⟩;unfold Scr.esc;rw[rF h1,rF h2,rF h3,rG h4]
   rw[rF h4] at hK ⊢;refine sn ?_;refine sd (λh5=>?_) (λh5=>?_)
   ·rw[rG h5];refine sn ?_;refine td gF rfl (jG h ok) ?_;rintro v w1 hd;exact⟨_,hd,rfl⟩
   rw[rF h5] at hK ⊢;refine sn ?_;refine sd (λh6=>?_) (λh6=>?_)
   ·rw[rG h6];refine sn ?_;refine td Iw rfl (I7 h) ?_;rintro v w1 hd;exact⟨_,hd,rfl⟩
   rw[rF h6] at hK ⊢;refine sn ?_;refine sd (λh7=>?_) (λh7=>?_)
   ·rw[rG h7];refine sn ?_;refine td QB rfl (ka h ok) ?_;rintro v w1 hd;exact⟨_,hd,rfl⟩
   rw[rF h7] at hK;exact hK _ _ (Did.refl h)
  ·rintro w1 ⟨M1,hA,ok1,hc,hbl,e⟩;refine td Gv rfl (GQ hA ok1) ?_;rintro v w2 hd;refine⟨_,Did.trans hc (λb hb=>.inl (by rw[←hbl];exact hb)) hd,?_⟩;rw[←e];rfl
 ·rintro w1 ⟨T,hd,e⟩;obtain⟨M1,hb1,hS,tl1,hd⟩:=hd.calm;rw[e] at hK;refine sq hb1 ?_;exact hK _ _ hd
theorem WI(b:Bool):(Bu b=0)=(b=false):=by cases b<;>simp [Bu]
theorem kh(b:Bool):(Bu b=1)=(b=true):=by cases b<;>simp [Bu]
theorem VK{w:World}{s:Nat}{M:Scm}(h:SAt w s M)(ok:M.S.ok)(n:Int)(on:Bool):Calls prog 214 #[.pointer (some ⟨s,0,none⟩),.int .i64 n,.bool on] w (Ac λ_ w'=>Did w s M w' (M.S.mode n on)):=by
 have hb:=h.hb;have hl:=Aa hb;have tl:=h.tl;apply jn;intro K hK;unfold Q5;unfold Scr.mode at hK;refine sn ?_;refine sd (λh1=>?_) (λh1=>?_)
 ·rw[rG h1] at hK;refine sq hb ?_;refine Join0.inl ?_;refine sq hb ?_;refine BrW.by (λh2=>?_) (λh2=>?_)
  ·refine sq hb ?_;rw[h2] at hK;exact hK _ _ (Did.set h (sg _ _) (λb hb=>.inl hb) { M.S with wraps:=on,waits:=true && on } rfl rfl tl rfl)
  ·refine sq hb ?_;rw[h2] at hK;exact hK _ _ (Did.set h (sg _ _) (λb hb=>.inl hb) { M.S with wraps:=on,waits:=false } rfl rfl tl rfl)
 rw[rF h1] at hK;refine sn ?_;refine sd (λh2=>?_) (λh2=>?_)
 ·rw[rG h2] at hK;refine sq hb ?_;exact hK _ _ (Did.set h (sg _ _) (λb hb=>.inl hb) { M.S with shown:=on } rfl rfl tl rfl)
 rw[rF h2] at hK;refine sh (λv w'=>v=.bool (decide (n=47∨n=1047∨n=1049))∧w=w') ?_ ?_
 ·refine sn ?_;refine sd (λh4=>?_) (λh4=>?_)
  ·exact⟨su (.inl h4),rfl⟩
  ·refine sn ?_;refine sd (λh5=>?_) (λh5=>?_)
   ·exact⟨su (.inr (.inl h5)),rfl⟩
   ·refine sn ?_;simp [h4,h5]
 rintro v w1 ⟨rfl,rfl⟩;refine sd (λh3=>?_) (λh3=>?_)
 rotate_left
 ·rw[rF h3] at hK;exact hK _ _ (Did.refl h)
 rw[rG h3] at hK;refine sh (λv w'=>v=.bool (decide (on=true∧M.S.alt=false))∧w=w') ?_ ?_
 ·refine sn ?_;refine BrW.by (λh4=>?_) (λh4=>?_)
  ·simp -dsimp (disch:=first|omega|(simp only[go_sem,seval];try omega))only[go_sem,seval,hb,WI];simp [h4]
  ·simp [h4]
 rintro v w1 ⟨rfl,rfl⟩;refine sd (λh4=>?_) (λh4=>?_)
 ·rw[rG h4] at hK;refine sn ?_;refine td Jy rfl (IW h) ?_;rintro v w1 ⟨M1,hA1,hS1,hc1,hbl1⟩;have hb1:=hA1.hb;have hl1:=Aa hb1;have tl1:=hA1.tl;have ok1:M1.S.ok:=by rw[hS1];exact ok.save.ok
  rw[←hS1] at hK;have hsz:M1.S.w=M.S.w∧M1.S.h=M.S.h:=by rw[hS1];exact⟨ok.save.w,ok.save.h⟩
  rw[←hsz.1,←hsz.2] at hK;refine sq hb1 ?_;have hA2:=(hA1.set { M1.S with alt:=true } rfl rfl tl1 rfl).chg0 (sg _ _).drew;refine td E8 rfl (Ft _ M1.S.w M1.S.h ok1.w0 ok1.w1 ok1.h0 ok1.h1) ?_;rintro v w2 ⟨⟨nb,cap,sp,rfl,q1,q2,q3⟩,hc2⟩;obtain⟨hA3,hc3,hbl3⟩:=hA2.newCur1 hc2 q1 q2 q3;have hb2:=(hA2.chg0 hc2).hb;have hl2:=Aa hb2;have hp:=Scm.wG1 { M1 with S:={ M1.S with alt:=true } } (Gr.plain M1.S.w M1.S.h Cel.blank) nb cap sp tl1;simp -dsimp (disch:=first|omega|(simp only[go_sem,seval];try omega))only[go_sem,seval,Gr.val,hb2,hp];have hd4:=Did.set hA3 hc3 hbl3 { M1.S with g1:=Gr.plain M1.S.w M1.S.h Cel.blank,alt:=true,waits:=false } rfl rfl tl1 rfl;have hd5:=Did.trans hc1 hbl1 (Did.trans (M1:={ M1 with S:={ M1.S with alt:=true } }) ((sg _ _).set _ _ (.inl Z)).drew (λb hb=>.inl hb) hd4);rw[ZM] at hd5;exact hK _ _ hd5
 rw[rF h4] at hK;refine sh (λv w'=>v=.bool (decide (on=false∧M.S.alt=true))∧w=w') ?_ ?_
 ·refine sn ?_;refine BrW.by (λh5=>?_) (λh5=>?_)
  ·simp -dsimp (disch:=first|omega|(simp only[go_sem,seval];try omega))only[go_sem,seval,hb,kh];simp at h5;simp [h5]
  ·simp at h5;simp [h5]
 rintro v w1 ⟨rfl,rfl⟩;refine sd (λh5=>?_) (λh5=>?_)
 ·rw[rG h5] at hK;refine sq hb ?_;refine td Iw rfl (I7 (h.set { M.S with alt:=false } rfl rfl tl rfl)) ?_;rintro v w1 hd;exact hK _ _ (Did.trans (M1:={ M with S:={ M.S with alt:=false } }) ((sg _ _).set _ _ (.inl Z)) (λb hb=>.inl hb) hd)
 ·rw[rF h5] at hK;exact hK _ _ (Did.refl h)
theorem Xv{w:World}{s:Nat}{M:Scm}(h:SAt w s M)(ok:M.S.ok)(t f:Int)(t0:0≤t)(t1:t≤1000000)(f0:0≤f)(f1:f≤9223372036854775807):Calls prog 250 #[.pointer (some ⟨s,0,none⟩),.int .i64 t,.int .i64 f] w (Ac λ_ w'=>Did w s M w' (M.S.region t f)):=by
 have hb:=h.hb;have hl:=Aa hb;have tl:=h.tl;have h0:=ok.h0;have h1:=ok.h1;apply Va;intro K hK;unfold SW;unfold Scr.region at hK;dsimp only at hK;refine sh (λv w'=>v=.int .i64 (if f=0∨(M.S.h:Int)<f then(M.S.h:Int) else f)∧w=w') ?_ ?_
 ·refine sh (λv w'=>v=.bool (decide (f=0∨(M.S.h:Int)<f))∧w=w') ?_ ?_
  ·refine sn ?_;refine sd (λh4=>?_) (λh4=>?_)
   ·exact⟨su (.inl h4),rfl⟩
   ·refine sq hb ?_;simp [h4]
  ·rintro v w1 ⟨rfl,rfl⟩;refine sd (λh4=>?_) (λh4=>?_)
   ·refine sq hb ?_;rw[rG h4]
   ·rw[rF h4];exact⟨rfl,rfl⟩
 ·rintro v w1 ⟨rfl,rfl⟩;obtain⟨F,hF⟩:∃F:Int,F=if f=0∨(M.S.h:Int)<f then(M.S.h:Int) else f:=⟨_,rfl⟩
  rw[←hF] at hK ⊢;have hF1:1≤F∧F≤M.S.h:=by rw[hF];split<;>omega
  clear hF;refine sn ?_;refine sd (λh2=>?_) (λh2=>?_)
  ·rw[rG h2] at hK;obtain⟨T,rfl⟩:∃T:Nat,t=(T:Int):=⟨t.toNat,O⟩;obtain⟨E,rfl⟩:∃E:Nat,F=(E:Int):=⟨F.toNat,O⟩;refine sq hb ?_;have ok2:({ M.S with top:=T,fin:=E }:Scr).ok:=by
    refine { ok with tf:=?_,fh:=?_ }
    ·show T<E;omega
    ·show E≤M.S.h;omega
   refine td D7 rfl (EE (h.set { M.S with top:=T,fin:=E } rfl rfl tl rfl) ok2 0 0) ?_;rintro v w1 hd;exact hK _ _ (Did.trans (M1:={ M with S:={ M.S with top:=T,fin:=E } }) ((sg _ _).set _ _ (.inl Z)) (λb hb=>.inl hb) hd)
  ·rw[rF h2] at hK;exact hK _ _ (Did.refl h)
theorem iO{a:Act'}(b:a.fits){i:Nat}(c:i<8):Bn (a.nums.getD i 0):=by
 refine b.nums _ ?_;have d:a.nums.length=8:=rfl;rw[rN,rI O];exact rR _
theorem Lw{a:Act'}(b:a.fits){i:Nat}{AS:Int}(c:Bn AS):Bn (a.num i AS):=by
 unfold Act'.num;split
 ·exact c
 ·have:=iO b (i:=i) O;unfold Bn at *;omega
theorem Ee(w:World)(a:Act')(i:Nat)(AS:Int):Calls prog 244 #[a.val,.int .i64 i,.int .i64 AS] w (Ac λv w'=>v=.int .i64 (a.num i AS)∧Chg [] w w'):=by
 apply aK;intro K hK;unfold Qx;refine sn ?_;have hc:Chg [] w (w.alloc (.cells a.cells.toArray 89)):=(sg _ _).alloc _;refine sh (λv w'=>v=.bool (decide (8≤i∨a.n≤i))∧w'=(w.alloc (.cells a.cells.toArray 89))) ?_ ?_
 ·refine sn ?_;refine sd (λh2=>?_) (λh2=>?_)
  ·omega
  refine sn ?_;refine sd (λh3=>?_) (λh3=>?_)
  ·exact⟨su (.inl O),rfl⟩
  refine sn ?_;exact sw O
 rintro v w1 ⟨rfl,rfl⟩;unfold Act'.num at hK;refine sd (λh2=>?_) (λh2=>?_)
 ·rw[rG h2] at hK;exact hK _ _ ⟨rfl,hc⟩
 ·rw[rF h2] at hK;have hi:i=0∨i=1∨i=2∨i=3∨i=4∨i=5∨i=6∨i=7:=O;clear h2;rcases hi with rfl|rfl|rfl|rfl|rfl|rfl|rfl|rfl<;>(refine sn ?_;exact hK _ _ ⟨rfl,hc⟩)
def Gk(S:Scr)(n:Int):Scr:=S.at S.now.x (max ((S.now.y:Int)-n) (if S.top≤S.now.y then(S.top:Int) else 0)).toNat
def FD(S:Scr)(n:Int):Scr:=S.at S.now.x (min ((S.now.y:Int)+n) (if S.now.y+1≤S.fin then(S.fin:Int)-1 else(S.h:Int)-1)).toNat
theorem Wx{w:World}{s:Nat}{M:Scm}(h:SAt w s M)(ok:M.S.ok)(a:Act')(hf:a.fits):Calls prog 216 #[.pointer (some ⟨s,0,none⟩),a.val] w
  (Ac λv w'=>v=.bool (M.S.moved a).isSome∧Did w s M w' ((M.S.moved a).getD M.S)):=by
 have hls:=Aa h.hb;have hlt:=h.lt;have tl:=h.tl;have w0:=ok.w0;have w1b:=ok.w1;have h0:=ok.h0;have h1b:=ok.h1;have nx:=ok.nx;have ny:=ok.ny;have tf:=ok.tf;have fh:=ok.fh;have n1:=Em a 0 1;have n2:=Em a 1 1;have n3:=Lw hf (i:=1) (AS:=1) (by unfold Bn;omega);unfold Bn at n3;apply XO;intro K hK;unfold R3;refine sn ?_;have hc1:Chg [] w (w.alloc (.cells a.cells.toArray 89)):=(sg _ _).alloc _;have ha1:(w.alloc (.cells a.cells.toArray 89)).heap[w.heap.size]?=some (.cells a.cells.toArray 89):=by exact so
 refine OpX.gen λw1 hw1=>?_
 replace hw1:w1=(w.alloc (.cells a.cells.toArray 89)):=hw1
 rw[←hw1] at hc1 ha1;clear hw1;refine td D3 rfl (Ee _ a 0 1) ?_;rintro v w2 ⟨rfl,hc2⟩
 replace ha1:=hc2.keep ha1 Z
 replace hc1:=hc1.trans0 hc2
 clear hc2;have hla:=Aa ha1;have hA:=h.chg0 hc1;have hb:=hA.hb;have hs2:=hc1.size;obtain⟨n,hn⟩:∃n,n=min (a.num 0 1) 9999:=⟨_,rfl⟩;have hn1:1≤n∧n≤9999:=O;refine sq ha1 ?_;rw[←hn];have hna:w.heap.size∉s::M.blk:=λhm=>by have:=hlt _ hm;omega
 refine si (λw'=>∃T,Did w2 s M w' T∧M.S.moved a=some T) ?_ ?_
 ·refine si (λw'=>∃M1:Scm,SAt w' s M1∧M1.S.ok∧Chg (s::M.blk) w2 w'∧M1.blk=M.blk∧M.S.moved a=some (FD M1.S n)) ?_ ?_
  ·refine si (λw'=>∃M1:Scm,SAt w' s M1∧M1.S.ok∧Chg (s::M.blk) w2 w'∧M1.blk=M.blk∧M.S.moved a=some (Gk M1.S n)) ?_ ?_
   ·refine sn ?_;refine sd (λc1=>?_) (λc1=>?_)
    ·refine sq hb ?_;refine⟨_,hA.set (M.S.at 0 M.S.now.y) rfl rfl tl rfl,(ok.at w0 ny).ok,(sg _ _).set _ _ Z,rfl,?_⟩;unfold Scr.moved;dsimp only;rw[←hn,rG c1];rfl
    refine sn ?_;refine sd (λc2=>?_) (λc2=>?_)
    ·refine⟨_,hA,ok,sg _ _,rfl,?_⟩;unfold Scr.moved;dsimp only;rw[←hn,rF c1,rG c2];rfl
    refine sn ?_;refine sd (λc3=>?_) (λc3=>?_)
    ·refine sq hb ?_;refine⟨_,hA.set (M.S.at 0 M.S.now.y) rfl rfl tl rfl,(ok.at w0 ny).ok,(sg _ _).set _ _ Z,rfl,?_⟩;unfold Scr.moved;dsimp only;rw[←hn,rF c1,rF c2,rG c3];rfl
    refine sn ?_;refine sd (λc4=>?_) (λc4=>?_)
    ·refine⟨_,hA,ok,sg _ _,rfl,?_⟩;unfold Scr.moved;dsimp only;rw[←hn,rF c1,rF c2,rF c3,rG c4];rfl
    refine sn ?_;refine sd (λc5=>?_) (λc5=>?_)
    ·refine sq hb ?_;refine td D7 rfl (EE (hA.chg0 (sg _ _).drew) ok (M.S.now.x+n) M.S.now.y) ?_;rintro v w3 hd;refine⟨_,Did.trans (M1:=M) (sg _ _).drew (λb hb=>.inl hb) hd,?_⟩;unfold Scr.moved;dsimp only;rw[←hn,rF c1,rF c2,rF c3,rF c4,rG c5]
    refine sn ?_;refine sd (λc6=>?_) (λc6=>?_)
    ·refine sq hb ?_;refine td D7 rfl (EE (hA.chg0 (sg _ _).drew) ok (M.S.now.x-n) M.S.now.y) ?_;rintro v w3 hd;refine⟨_,Did.trans (M1:=M) (sg _ _).drew (λb hb=>.inl hb) hd,?_⟩;unfold Scr.moved;dsimp only;rw[←hn,rF c1,rF c2,rF c3,rF c4,rF c5,rG c6]
    refine sh (λv w'=>v=.bool (decide (a.r=71∨a.r=96))∧w2=w') ?_ ?_
    ·refine sn ?_;refine sd (λh4=>?_) (λh4=>?_)
     ·exact⟨su (.inl h4),rfl⟩
     ·refine sn ?_;simp [h4]
    rintro v w3 ⟨rfl,rfl⟩;refine sd (λc7=>?_) (λc7=>?_)
    ·refine sq hb ?_;refine td D7 rfl (EE hA ok (n-1) M.S.now.y) ?_;rintro v w3 hd;refine⟨_,hd,?_⟩;unfold Scr.moved;dsimp only;rw[←hn,rF c1,rF c2,rF c3,rF c4,rF c5,rF c6,rG c7]
    refine sn ?_;refine sd (λc8=>?_) (λc8=>?_)
    ·refine sq hb ?_;refine td D7 rfl (EE hA ok M.S.now.x (n-1)) ?_;rintro v w3 hd;refine⟨_,hd,?_⟩;unfold Scr.moved;dsimp only;rw[←hn,rF c1,rF c2,rF c3,rF c4,rF c5,rF c6,rF c7,rG c8]
    refine sh (λv w'=>v=.bool (decide (a.r=72∨a.r=102))∧w2=w') ?_ ?_
    ·refine sn ?_;refine sd (λh4=>?_) (λh4=>?_)
     ·exact⟨su (.inl h4),rfl⟩
     ·refine sn ?_;simp [h4]
    rintro v w3 ⟨rfl,rfl⟩;refine sd (λc9=>?_) (λc9=>?_)
    ·refine sq ha1 ?_;refine td D3 rfl (Ee _ a 1 1) ?_;rintro v w3 ⟨rfl,hc2⟩;refine sn ?_;refine td D7 rfl (EE (hA.chg0 hc2) ok (a.num 1 1-1) (n-1)) ?_;rintro v w4 hd;refine⟨_,Did.trans (M1:=M) (hc2.mono Z) (λb hb=>.inl hb) hd,?_⟩;unfold Scr.moved;dsimp only;rw[←hn,rF c1,rF c2,rF c3,rF c4,rF c5,rF c6,rF c7,rF c8,rG c9]
    refine sn ?_;refine sd (λc10=>?_) (λc10=>?_)
    ·refine sq hb ?_;refine td Iw rfl (I7 hA) ?_;rintro v w3 hd;refine⟨_,hd,?_⟩;unfold Scr.moved;dsimp only;rw[←hn,rF c1,rF c2,rF c3,rF c4,rF c5,rF c6,rF c7,rF c8,rF c9,rG c10]
    have e:M.S.moved a=none:=by
     unfold Scr.moved;dsimp only;rw[rF c1,rF c2,rF c3,rF c4,rF c5,rF c6,rF c7,rF c8,rF c9,rF c10]
    rw[e] at hK;exact hK _ _ ⟨rfl,Did.trans (M1:=M) (hc1.mono Z) (λb hb=>.inl hb) (Did.refl hA)⟩
   ·rintro w3 ⟨M1,hA1,ok1,hcc,hbl,e⟩;have hb1:=hA1.hb;have tl1:=hA1.tl;have ny1:=ok1.ny;have h1c:=ok1.h1;have tf1:=ok1.tf;have fh1:=ok1.fh;have hl1:=Aa hb1;obtain⟨L,hL⟩:∃L:Nat,L=if M1.S.top≤M1.S.now.y then M1.S.top else 0:=⟨_,rfl⟩
    have hL2:(L:Int)=if M1.S.top≤M1.S.now.y then(M1.S.top:Int) else 0:=by rw[hL];split<;>rfl
    have hL3:L<M1.S.h:=by rw[hL];split<;>omega
    have hd:∀w4:World,Chg [] w3 w4→∃w5:World,w5=Ab w4 s ({ M1 with S:={ M1.S with now:={ M1.S.now with y:=(max ((M1.S.now.y:Int)-n) (L:Int)).toNat } } }:Scm).obj∧Did w2 s M w5 (Gk M1.S n):=by
     intro w4 hc4;refine⟨_,rfl,Did.trans hcc (λb hb=>.inl (by rw[←hbl];exact hb)) (Did.trans (M1:=M1) (hc4.mono Z) (λb hb=>.inl hb) ?_)⟩;have:=Did.set (hA1.chg0 hc4) (sg _ _) (λb hb=>.inl hb) (Gk M1.S n) rfl rfl tl1 rfl;unfold Gk at this;rw[←hL2] at this;unfold Gk;rw[←hL2];exact this
    refine sh (λv w'=>v=.int .i64 (L:Int)∧Chg [] w3 w') ?_ ?_
    ·refine sq hb1 ?_;refine sd (λh4=>?_) (λh4=>?_)
     ·rw[rG O] at hL;refine sq hb1 ?_;exact⟨by rw[hL],(sg _ _).drew⟩
     ·rw[rF O] at hL;exact⟨by rw[hL];rfl,(sg _ _).drew⟩
    ·rintro v w4 ⟨rfl,hc4⟩;obtain⟨w5,e5,hd5⟩:=hd w4 hc4;have hb4:=(hA1.chg0 hc4).hb;have hl4:=Aa hb4;have e1:max ((M1.S.now.y:Int)-n) (L:Int)=(((max ((M1.S.now.y:Int)-n) (L:Int)).toNat:Nat):Int):=O;refine sq hb4 ?_;rw[e1];refine sq hb4 ?_;rw[←e5];exact⟨_,hd5,e⟩
  ·rintro w3 ⟨M1,hA1,ok1,hcc,hbl,e⟩;have hb1:=hA1.hb;have tl1:=hA1.tl;have ny1:=ok1.ny;have h1c:=ok1.h1;have h0c:=ok1.h0;have tf1:=ok1.tf;have fh1:=ok1.fh;have hl1:=Aa hb1;obtain⟨L,hL⟩:∃L:Nat,L=if M1.S.now.y+1≤M1.S.fin then M1.S.fin-1 else M1.S.h-1:=⟨_,rfl⟩
   have hL2:(L:Int)=if M1.S.now.y+1≤M1.S.fin then(M1.S.fin:Int)-1 else(M1.S.h:Int)-1:=by rw[hL];split<;>omega
   have hL3:L<M1.S.h:=by rw[hL];split<;>omega
   have hd:∀w4:World,Chg [] w3 w4→∃w5:World,w5=Ab w4 s ({ M1 with S:={ M1.S with now:={ M1.S.now with y:=(min ((M1.S.now.y:Int)+n) (L:Int)).toNat } } }:Scm).obj∧Did w2 s M w5 (FD M1.S n):=by
    intro w4 hc4;refine⟨_,rfl,Did.trans hcc (λb hb=>.inl (by rw[←hbl];exact hb)) (Did.trans (M1:=M1) (hc4.mono Z) (λb hb=>.inl hb) ?_)⟩;have:=Did.set (hA1.chg0 hc4) (sg _ _) (λb hb=>.inl hb) (FD M1.S n) rfl rfl tl1 rfl;unfold FD at this;rw[←hL2] at this;unfold FD;rw[←hL2];exact this
   refine sq hb1 ?_;refine sh (λv w'=>v=.int .i64 (L:Int)∧Chg [] w3 w') ?_ ?_
   ·refine sq hb1 ?_;refine sd (λh4=>?_) (λh4=>?_)
    ·rw[rG O] at hL;refine sq hb1 ?_;exact⟨congrArg (Value.int .i64) O,(sg _ _).drew⟩
    ·rw[rF O] at hL;exact⟨congrArg (Value.int .i64) (by rw[F3 _ O O];omega),(sg _ _).drew⟩
   ·rintro v w4 ⟨rfl,hc4⟩;obtain⟨w5,e5,hd5⟩:=hd w4 hc4;have hb4:=(hA1.chg0 hc4).hb;have hl4:=Aa hb4;have e1:min ((M1.S.now.y:Int)+n) (L:Int)=(((min ((M1.S.now.y:Int)+n) (L:Int)).toNat:Nat):Int):=O;refine sq hb4 ?_;rw[e1];refine sq hb4 ?_;rw[←e5];exact⟨_,hd5,e⟩
 ·rintro w3 ⟨T,hd,e⟩;rw[e] at hK;exact hK _ _ ⟨rfl,Did.trans (M1:=M) (hc1.mono Z) (λb hb=>.inl hb) hd⟩
theorem U9(S:Scr)(k:Int):(S.wipeRows k).now=S.now:=by
 unfold Scr.wipeRows Scr.clear;split
 ·exact Dy _
 ·split
  ·exact Dy _
  ·split
   ·exact Dy _
   ·rfl
theorem kf{w:World}{s:Nat}{M:Scm}(h:SAt w s M)(ok:M.S.ok){a c d:Nat}{k:Int}(e:w.heap[a]?=some (.cells #[.pointer (some ⟨s,0,none⟩)] 200))(f:w.heap[c]?=some (.cells #[.int .i64 M.S.now.x] 3))(i:w.heap[d]?=some (.cells #[.int .i64 k] 3)):
  J8 (.func (.func 247) #[] #[.pointer (some ⟨c,0,none⟩),.pointer (some ⟨d,0,none⟩),.pointer (some ⟨a,0,none⟩)]) w s M (λg=>g.shift M.S.now.x 0 k M.S.free):=by
 intro w2 g b o j l m n p;refine Bm.of (us:=[]) (cs:=[_,_,_]) jM ?_;have q:=l.keep e Z;have r:=l.keep f Z;have t:=l.keep i Z;have u:=h.chg0 l;have x:=u.hb;have y:=Aa q;have z:=Aa r;have A:=Aa t;have B:=ok.nx;have C:=ok.w1;have D:=m.ok.w1;have E:=m.ok.h1;apply bU;intro K F;unfold MC;simp -dsimp (disch:=first|omega|(simp only[go_sem,seval];try omega))only[go_sem,seval,Gr.val,r,q,t];have G:Chg [] w2 (((w2.alloc (.cells #[.int .i64 g.w,.int .i64 g.h,.slice (some ⟨b,o,none⟩) g.cs.length j] 50)).alloc (.cells #[.int .i64 0,.int .i64 0,.slice none 0 0] 50)).drew):=(By _ _ _).drew;have H:(((w2.alloc (.cells #[.int .i64 g.w,.int .i64 g.h,.slice (some ⟨b,o,none⟩) g.cs.length j] 50)).alloc (.cells #[.int .i64 0,.int .i64 0,.slice none 0 0] 50)).drew).heap[w2.heap.size]?=some (.cells #[.int .i64 g.w,.int .i64 g.h,.slice (some ⟨b,o,none⟩) g.cs.length j] 50):=by exact so
 have I:(((w2.alloc (.cells #[.int .i64 g.w,.int .i64 g.h,.slice (some ⟨b,o,none⟩) g.cs.length j] 50)).alloc (.cells #[.int .i64 0,.int .i64 0,.slice none 0 0] 50)).drew).heap[w2.heap.size+1]?=some (.cells #[.int .i64 0,.int .i64 0,.slice none 0 0] 50):=by exact so
 have J:(w2.alloc (.cells #[.int .i64 g.w,.int .i64 g.h,.slice (some ⟨b,o,none⟩) g.cs.length j] 50)).heap.size=w2.heap.size+1:=by exact so
 rw[J];generalize (World.alloc _ _).drew=w3 at G H I ⊢;have L:=Aa I;refine td Iq rfl (GK (u.chg0 G)) ?_;rintro v P ⟨rfl,Q⟩;have R:=G.trans0 Q;have S:=R.keep t Z;have T:=R.keep r Z;have U:=Q.keep H Z;have V:=Q.keep I Z;refine LX3 S T U ?_;refine td gf rfl (Vl (X:=M.S.now.x) (Y:=0) (N:=k) m.ok m.r (p.chg0 R) j n (C6 _) O O) ?_;rintro v W ⟨⟨a,c,d,rfl,e,f,i⟩,l⟩;have x:=l.keep V Z;have y:=R.trans0 l;have z:=R.size;have A:=Q.size;have B:=Aa x;have C:=Aa i;simp -dsimp (disch:=first|omega|(simp only[go_sem,seval];try omega))only[go_sem,seval,Gr.val,x];refine F _ _ ⟨⟨a,c,d,rfl,e,O,?_⟩,y.set _ _ (.inr O)⟩;refine sn ?_;exact i
theorem dR{w:World}{s:Nat}{M:Scm}(h:SAt w s M)(ok:M.S.ok)(a:Act')(hf:a.fits):Calls prog 217 #[.pointer (some ⟨s,0,none⟩),a.val] w
  (Ac λv w'=>v=.bool (M.S.changed a).isSome∧Did w s M w' ((M.S.changed a).getD M.S)):=by
 have hls:=Aa h.hb;have hlt:=h.lt;have tl:=h.tl;have w0:=ok.w0;have w1b:=ok.w1;have h0:=ok.h0;have h1b:=ok.h1;have nx:=ok.nx;have ny:=ok.ny;have tf:=ok.tf;have fh:=ok.fh;have n1:=Em a 0 1;have n4:=Em a 1 0;have n3:=Lw hf (i:=1) (AS:=0) (by unfold Bn;omega);unfold Bn at n3;apply Zf;intro K hK;unfold Me;refine sn ?_;have hz:(w.alloc (.cells #[.pointer (some ⟨s,0,none⟩)] 200)).heap.size=w.heap.size+1:=by exact so
 rw[hz];refine OpX.gen λw1 hw1=>?_;have hc1:Chg [] w w1:=by rw[hw1];exact By _ _ _
 have hp1:w1.heap[w.heap.size]?=some (.cells #[.pointer (some ⟨s,0,none⟩)] 200):=by rw[hw1];exact so
 have ha1:w1.heap[w.heap.size+1]?=some (.cells a.cells.toArray 89):=by rw[hw1];exact so
 clear hw1 hz;refine td D3 rfl (Ee _ a 0 1) ?_;rintro v w2 ⟨rfl,hc2⟩
 replace ha1:=hc2.keep ha1 Z
 replace hp1:=hc2.keep hp1 Z
 replace hc1:=hc1.trans0 hc2
 clear hc2;have hla:=Aa ha1;have hlp:=Aa hp1;have hA:=h.chg0 hc1;have hb:=hA.hb;have hs2:=hc1.size;obtain⟨n,hn⟩:∃n,n=min (a.num 0 1) 9999:=⟨_,rfl⟩;have hn1:1≤n∧n≤9999:=O;refine LX3 ha1 hp1 hb ?_;rw[←hn];have hz:(w2.alloc (.cells #[.int .i64 n] 3)).drew.heap.size=w2.heap.size+1:=by exact so
 rw[hz];obtain⟨w3,hw3⟩:∃w3,w3=((w2.alloc (.cells #[.int .i64 n] 3)).alloc (.cells #[.int .i64 M.S.now.x] 3)).drew:=⟨_,rfl⟩;rw[←hw3];have hc3:Chg [] w2 w3:=by rw[hw3];exact(By _ _ _).drew
 have hn3:w3.heap[w2.heap.size]?=some (.cells #[.int .i64 n] 3):=by rw[hw3];exact so
 have hx3:w3.heap[w2.heap.size+1]?=some (.cells #[.int .i64 M.S.now.x] 3):=by rw[hw3];exact so
 clear hw3 hz
 replace hp1:=hc3.keep hp1 Z
 replace ha1:=hc3.keep ha1 Z
 replace hA:=hA.chg0 hc3
 replace hb:=hA.hb
 replace hc1:=hc1.trans0 hc3
 have hop:w.heap.size∉s::M.blk:=λhm=>by have:=hlt _ hm;omega
 have hoa:w.heap.size+1∉s::M.blk:=λhm=>by have:=hlt _ hm;omega
 have hon:w2.heap.size∉s::M.blk:=λhm=>by have:=hlt _ hm;omega
 have hox:w2.heap.size+1∉s::M.blk:=λhm=>by have:=hlt _ hm;omega
 have hlx:=Aa hx3;clear hc3;have hAn:∀w',Chg [w2.heap.size] w3 w'→SAt w' s M:=λw' hc=>hA.chg hc (λx hx hm=>hon (by rw[←List.mem_singleton.1 hm];exact hx)) (λr hr b o hb' hne hm=>by
  have h9:=h.row_lt r hr b o hb' hne;have h8:=List.mem_singleton.1 hm;omega)
 have base:∀w' T,Did w3 s M w' T→Did w s M w' T:=λw' T hd=>Did.trans (M1:=M) (hc1.mono Z) (λb hb=>.inl hb) hd;refine si (λw'=>∃T,Did w s M w' T∧M.S.changed a=some T) ?_ ?_
 ·refine si (λw'=>∃k:Int,(-9999≤k∧k≤9999)∧Chg [w2.heap.size] w3 w'∧w'.heap[w2.heap.size]?=some (.cells #[.int .i64 k] 3)∧M.S.changed a=some (M.S.line λg=>g.shift M.S.now.x 0 k M.S.free)) ?_ ?_
  ·refine si (λw'=>∃k:Int,(-9999≤k∧k≤9999)∧Chg [w2.heap.size] w3 w'∧w'.heap[w2.heap.size]?=some (.cells #[.int .i64 k] 3)∧M.S.changed a=some (M.S.shiftRows k)) ?_ ?_
   ·refine si (λw'=>∃T:Scr,Did w3 s M w' T∧T.now=M.S.now∧T.ok∧M.S.changed a=some (T.wipeLine (a.num 0 0))) ?_ ?_
    ·refine sn ?_;refine sd (λc1=>?_) (λc1=>?_)
     ·refine sq ha1 ?_;have e:M.S.changed a=some ((M.S.wipeRows (a.num 0 0)).wipeLine (a.num 0 0)):=by unfold Scr.changed;dsimp only;rw[rG c1]
      refine td D3 rfl (Ee _ a 0 0) ?_;rintro v w4 ⟨rfl,hc4⟩;have hp4:=hc4.keep hp1 Z;have hA4:=hA.chg0 hc4;have hb4:=hA4.hb;have fin:∀w',Did w4 s M w' (M.S.wipeRows (a.num 0 0))→∃T:Scr,Did w3 s M w' T∧T.now=M.S.now∧T.ok∧M.S.changed a=some (T.wipeLine (a.num 0 0)):=λw' hd=>⟨_,Did.trans (M1:=M) (hc4.mono Z) (λb hb=>.inl hb) hd,U9 _ _,ok.wipeRows.ok,e⟩;unfold Scr.wipeRows at fin;refine sn ?_;refine sd (λd1=>?_) (λd1=>?_)
      ·rw[rG d1] at fin;refine sr hp4 hb4 ?_;refine td Jx rfl (Jp (hA4.chg0 (sg _ _).drew) ok (M.S.now.y+1) M.S.h O O) ?_;rintro v w5 hd;exact fin _ (Did.trans (M1:=M) (sg _ _).drew (λb hb=>.inl hb) hd)
      rw[rF d1] at fin;refine sn ?_;refine sd (λd2=>?_) (λd2=>?_)
      ·rw[rG d2] at fin;refine sr hp4 hb4 ?_;refine td Jx rfl (Jp hA4 ok 0 M.S.now.y O O) ?_;rintro v w5 hd;exact fin _ hd
      rw[rF d2] at fin;refine sn ?_;refine sd (λd3=>?_) (λd3=>?_)
      ·rw[rG d3] at fin;refine sr hp4 hb4 ?_;refine td Jx rfl (Jp (hA4.chg0 (sg _ _).drew) ok 0 M.S.h O O) ?_;rintro v w5 hd;exact fin _ (Did.trans (M1:=M) (sg _ _).drew (λb hb=>.inl hb) hd)
      rw[rF d3] at fin;exact fin _ (Did.refl hA4)
     refine sn ?_;refine sd (λc2=>?_) (λc2=>?_)
     ·exact⟨_,Did.refl hA,rfl,ok,by unfold Scr.changed;dsimp only;rw[rF c1,rG c2]⟩
     refine sn ?_;refine sd (λc3=>?_) (λc3=>?_)
     ·refine sq hn3 ?_;exact⟨-n,O,(sg _ _).set _ _ Z,(by exact so),by unfold Scr.changed;dsimp only;rw[rF c1,rF c2,rG c3,hn]⟩
     refine sn ?_;refine sd (λc4=>?_) (λc4=>?_)
     ·exact⟨n,O,sg _ _,hn3,by unfold Scr.changed;dsimp only;rw[rF c1,rF c2,rF c3,rG c4,hn]⟩
     refine sn ?_;refine sd (λc5=>?_) (λc5=>?_)
     ·refine sq hn3 ?_;exact⟨-n,O,(sg _ _).set _ _ Z,(by exact so),by unfold Scr.changed;dsimp only;rw[rF c1,rF c2,rF c3,rF c4,rG c5,hn]⟩
     refine sn ?_;refine sd (λc6=>?_) (λc6=>?_)
     ·exact⟨n,O,sg _ _,hn3,by unfold Scr.changed;dsimp only;rw[rF c1,rF c2,rF c3,rF c4,rF c5,rG c6,hn]⟩
     refine sn ?_;refine sd (λc7=>?_) (λc7=>?_)
     ·refine LX3 hp1 hx3 hn3 ?_;refine td G9 rfl (Ii hA ok M.S.now.x n O O) ?_;rintro v w4 hd;exact⟨_,base _ _ hd,by unfold Scr.changed;dsimp only;rw[rF c1,rF c2,rF c3,rF c4,rF c5,rF c6,rG c7,hn]⟩
     refine sn ?_;refine sd (λc8=>?_) (λc8=>?_)
     ·refine sr hp1 hn3 ?_;refine td PZ rfl (LU hA ok n) ?_;rintro v w4 hd;exact⟨_,base _ _ hd,by unfold Scr.changed;dsimp only;rw[rF c1,rF c2,rF c3,rF c4,rF c5,rF c6,rF c7,rG c8,hn]⟩
     refine sn ?_;refine sd (λc9=>?_) (λc9=>?_)
     ·refine LX3 hp1 hn3 hb ?_;refine td HY rfl (Hh (hA.chg0 (sg _ _).drew) ok M.S.top (-n)) ?_;rintro v w4 hd;exact⟨_,base _ _ (Did.trans (M1:=M) (sg _ _).drew (λb hb=>.inl hb) hd),by unfold Scr.changed;dsimp only;rw[rF c1,rF c2,rF c3,rF c4,rF c5,rF c6,rF c7,rF c8,rG c9,hn]⟩
     refine sn ?_;refine sd (λc10=>?_) (λc10=>?_)
     ·refine LX3 hp1 hn3 ha1 ?_;refine td D3 rfl (Ee _ a 1 0) ?_;rintro v w4 ⟨rfl,hc4⟩;have hc5:Chg [] w3 w4:=(sg _ _).drew.trans0 hc4;have hp4:=hc5.keep hp1 Z;have hn4:=hc5.keep hn3 Z;refine sr hp4 hn4 ?_;refine td dy rfl (Xv (hA.chg0 hc5) ok (n-1) (a.num 1 0) O O O O) ?_;rintro v w5 hd;exact⟨_,base _ _ (Did.trans (M1:=M) (hc5.mono Z) (λb hb=>.inl hb) hd),by unfold Scr.changed;dsimp only;rw[rF c1,rF c2,rF c3,rF c4,rF c5,rF c6,rF c7,rF c8,rF c9,rG c10,hn]⟩
     have e:M.S.changed a=none:=by
      unfold Scr.changed;dsimp only;rw[rF c1,rF c2,rF c3,rF c4,rF c5,rF c6,rF c7,rF c8,rF c9,rF c10]
     rw[e] at hK;exact hK _ _ ⟨rfl,Did.trans (M1:=M) (hc1.mono Z) (λb hb=>.inl hb) (Did.refl hA)⟩
    ·rintro w4 ⟨T,hd,hnw,ok4,e⟩;have hp4:=hd.keep hp1 hop;have ha4:=hd.keep ha1 hoa;have hx4:=hd.keep hx3 hox;obtain⟨M4,hA4,rfl,hc4,hbl4⟩:=hd;refine sq ha4 ?_;refine td D3 rfl (Ee _ a 0 0) ?_;rintro v w5 ⟨rfl,hc5⟩;have hp5:=hc5.keep hp4 Z;have hx5:=hc5.keep hx4 Z;have hA5:=hA4.chg0 hc5;have hb5:=hA5.hb;have w15:=ok4.w1;have nx5:=ok4.nx;rw[hnw] at nx5;have fin:∀w',Did w5 s M4 w' (M4.S.wipeLine (a.num 0 0))→∃T,Did w s M w' T∧M.S.changed a=some T:=λw' hd=>⟨_,base _ _ (Did.trans hc4 hbl4 (Did.trans (M1:=M4) (hc5.mono Z) (λb hb=>.inl hb) hd)),e⟩;unfold Scr.wipeLine at fin;rw[hnw] at fin;refine sn ?_;refine sd (λd1=>?_) (λd1=>?_)
     ·rw[rG d1] at fin;refine LX3 hp5 hb5 hx5 ?_;refine td G9 rfl (Ii (hA5.chg0 (sg _ _).drew) ok4 M.S.now.x M4.S.w O O) ?_;rintro v w6 hd;exact fin _ (Did.trans (M1:=M4) (sg _ _).drew (λb hb=>.inl hb) hd)
     rw[rF d1] at fin;refine sn ?_;refine sd (λd2=>?_) (λd2=>?_)
     ·rw[rG d2] at fin;refine LX3 hp5 hb5 hx5 ?_;refine td G9 rfl (Ii hA5 ok4 0 (M.S.now.x+1) O O) ?_;rintro v w6 hd;exact fin _ hd
     rw[rF d2] at fin;refine sn ?_;refine sd (λd3=>?_) (λd3=>?_)
     ·rw[rG d3] at fin;refine LX3 hp5 hb5 hx5 ?_;refine td G9 rfl (Ii (hA5.chg0 (sg _ _).drew) ok4 0 M4.S.w O O) ?_;rintro v w6 hd;exact fin _ (Did.trans (M1:=M4) (sg _ _).drew (λb hb=>.inl hb) hd)
     rw[rF d3] at fin;exact fin _ (Did.refl hA5)
   ·rintro w4 ⟨k,hk,hc4,hn4,e⟩;have hp4:=hc4.keep hp1 (by simp;omega);have hA4:=hAn w4 hc4;have hb4:=hA4.hb;have hl4:=Aa hb4;have hc5:Chg [] w w4:=hc1.trans hc4 (by simp;omega);unfold Scr.shiftRows at e;refine sh (λv w'=>v=.bool (decide (M.S.top≤M.S.now.y∧M.S.now.y<M.S.fin))∧w4=w') ?_ ?_
    ·refine sr hp4 hb4 ?_;refine sd (λd1=>?_) (λd1=>?_)
     ·refine sr hp4 hb4 ?_;exact sw O
     ·exact⟨sv O,rfl⟩
    ·rintro v w5 ⟨rfl,rfl⟩;refine sd (λd1=>?_) (λd1=>?_)
     ·rw[rG d1] at e;refine sr hp4 hn4 ?_;refine td HY rfl (Hh hA4 ok M.S.now.y (-k)) ?_;rintro v w5 hd;have hp5:=hd.keep hp4 hop;obtain⟨M5,hA5,hS5,hc6,hbl5⟩:=hd;have hb5:=hA5.hb;have tl5:=hA5.tl;have hl5:=Aa hb5;refine sr hp5 hb5 ?_;have hx5:M5.S.now=M.S.now:=by rw[hS5];exact Dy _
      rw[←hS5,←hx5] at e;exact⟨_,Did.trans (M1:=M) (hc5.mono Z) (λb hb=>.inl hb) (Did.trans hc6 hbl5 (Did.set hA5 (sg _ _) (λb hb=>.inl hb) _ rfl rfl tl5 rfl)),e⟩
     ·rw[rF d1] at e;exact⟨_,Did.trans (M1:=M) (hc5.mono Z) (λb hb=>.inl hb) (Did.refl hA4),e⟩
  ·rintro w4 ⟨k,hk,hc4,hn4,e⟩;have hp4:=hc4.keep hp1 (by simp;omega);have hx4:=hc4.keep hx3 Z;have hA4:=hAn w4 hc4;refine sq hp4 ?_;refine td Ix rfl (IG hA4 ok (kf hA4 ok hp4 hx4 hn4) (λ_ hg=>hg.shift)) ?_;rintro v w5 hd;have hc5:Chg [] w w4:=hc1.trans hc4 (by simp;omega);exact⟨_,Did.trans (M1:=M) (hc5.mono Z) (λb hb=>.inl hb) hd,e⟩
 ·rintro w4 ⟨T,hd,e⟩;rw[e] at hK;exact hK _ _ ⟨rfl,hd⟩
end Go.Proofs.YtnpkidnbhlepkaaGreat
namespace Lyc
open Go
section
variable {P:Program}
theorem Zb{t:TypeId}{q:Nat × Nat}(h:Bk P t=some q):∃e,P.underlying t=some (.array q.1 e)∧Ak P e=some q.2:=by
 unfold Bk at h;cases a:P.underlying t with
 | none=>rw[a] at h;simp at h
 | some d =>
  rw[a] at h;cases d<;>simp at h;obtain⟨m,b,rfl⟩:=h;exact⟨_,rfl,b⟩
theorem XM(t a:TypeId)(b o:Nat)(q:Nat × Nat)(k:IntKind)(i:Int)(h:Bk P t=some q)(c:0≤i)(d:i≤q.1):PureRun P (.slice t (.const (.pointer (some ⟨b,o,none⟩))) none (some (.const (.int k i))) none) a (.slice (some ⟨b,o,none⟩) i.toNat q.1):=by
 obtain⟨e,f,g⟩:=Zb h;refine⟨λρ j w=>?_⟩;simp [execOp,Ap,j.1,Instr.sliceAt,Instr.sureAddr,Instr.sliceBounds,Instr.sliceBound,asIntOf,run_underlying f,Bw g,c,d,Addr.add]
@[go_sem] theorem pb(t a:TypeId)(b o:Nat)(k:IntKind)(i:Int)(K:rD)(w:World)(c:0≤i)(d:i≤((Bk P t).getD (0,0)).1):OpX P (.slice t (.const (.pointer (some ⟨b,o,none⟩))) none (some (.const (.int k i))) none) a K w=OrK (Bk P t) (λq=>K (.slice (some ⟨b,o,none⟩) i.toNat q.1) w) (OpX P (.slice t (.const (.pointer (some ⟨b,o,none⟩))) none (some (.const (.int k i))) none) a K w) ():=
 AK (λq h=>(XM t a b o q k i h c (by rw[h] at d;exact d)).op K w) rfl
theorem Yg(t c:TypeId)(a:Option Addr)(len cap n:Nat)(k k':IntKind)(i q:Int)(h:AM P t=some n)(d:0≤i)(f:i≤q)(g:q≤cap):PureRun P (.slice t (.const (.slice a len cap)) none (some (.const (.int k i))) (some (.const (.int k' q)))) c (.slice a i.toNat q.toNat):=by
 obtain⟨e,j,l⟩:=Dx h;refine⟨λρ m w=>?_⟩;have p:0≤q:=O;have r:i≤max q 0:=O;cases a with
 | none =>
  simp [execOp,Ap,m.1,Instr.sliceAt,Instr.slice,Instr.sliceBounds,Instr.sliceBound,asIntOf,run_underlying j,Bw l,d,g,p];intro s;omega
 | some a =>
  obtain⟨b,o,u⟩:=a;simp [execOp,Ap,m.1,Instr.sliceAt,Instr.slice,Instr.sliceBounds,Instr.sliceBound,asIntOf,run_underlying j,Bw l,d,g,p,Addr.add];intro s;omega
@[go_sem] theorem nV(t b:TypeId)(a:Option Addr)(len cap:Nat)(k k':IntKind)(i q:Int)(K:rD)(w:World)(c:0≤i)(d:i≤q)(e:q≤cap):OpX P (.slice t (.const (.slice a len cap)) none (some (.const (.int k i))) (some (.const (.int k' q)))) b K w=OrK (AM P t) (λ_=>K (.slice a i.toNat q.toNat) w) (OpX P (.slice t (.const (.slice a len cap)) none (some (.const (.int k i))) (some (.const (.int k' q)))) b K w) ():=
 AK (λn h=>(Yg t b a len cap n k k' i q h c d e).op K w) rfl
end
theorem Jz(x:Int):IntKind.u8.wrap x=((BitVec.ofInt 8 x).toNat:Int):=by
 rw[BitVec.toNat_ofInt];show x % 256=_;omega
end Lyc
namespace Go.Proofs.YtnpkidnbhlepkaaGreat
open Lyc Go Go.Proofs.Tryz
theorem FG(w:World)(n:Int):Calls prog 266 #[.int .i64 n] w (Ac λv a=>v=.int .u8 (hue n).toNat∧w=a):=by
 apply ez;intro K b;unfold Lo;refine sn ?_;refine b _ _ ⟨?_,rfl⟩;rw[Jz];rfl
theorem Kb(w:World)(n:Int):Calls prog 269 #[.int .i64 n] w (Ac λv a=>v=.int .i64 (BP n)∧w=a):=by
 apply Xk;intro K b;unfold ON;refine sn ?_;have e:(min (max n 0) 255).tdiv 43=BP n:=by unfold BP;rw[Int.tdiv_eq_ediv_of_nonneg O]
 have c:0≤BP n∧BP n≤255:=by unfold BP;omega
 rw[e,F3 _ O O];exact b _ _ ⟨rfl,rfl⟩
theorem EM(n:Int):0≤BP n∧BP n≤5:=by unfold BP;omega
theorem dT(w:World)(r g b:Int):Calls prog 267 #[.int .i64 r,.int .i64 g,.int .i64 b] w (Ac λv a=>v=.int .u8 (rgb r g b).toNat∧w=a):=by
 have c:=EM r;have d:=EM g;have e:=EM b;apply Z6;intro K f;unfold Nc;refine OpX.callV (us:=[]) (cs:=[]) JQ rfl (se (Kb w r) ?_);rintro v h ⟨rfl,rfl⟩;refine sn ?_;refine OpX.callV (us:=[]) (cs:=[]) JQ rfl (se (Kb w g) ?_);rintro v h ⟨rfl,rfl⟩;refine sn ?_;refine OpX.callV (us:=[]) (cs:=[]) JQ rfl (se (Kb w b) ?_);rintro v h ⟨rfl,rfl⟩;refine sn ?_;refine f _ _ ⟨congrArg (Value.int .u8) ?_,rfl⟩;unfold rgb;rw[←Jz,Eu _ O O]
section
attribute [-go_sem] E0 Et
theorem Wv(w:World):Calls prog 268 #[] w (Ac λv a=>v=.agg #[.int .u8 0,.int .u8 1,.int .u8 2,.int .u8 4,.int .u8 8,.int .u8 16,.int .u8 0,.int .u8 32]∧Chg [] w a):=by
 apply fu;intro K b;unfold OZ;refine sn ?_;refine OpX.build (c:=#[.int .u8 0,.int .u8 1,.int .u8 2,.int .u8 4,.int .u8 8,.int .u8 16,.int .u8 0,.int .u8 32]) (by kernel_rfl) ?_;refine sn ?_;exact b _ _ ⟨rfl,(sg _ _).alloc _⟩
end
def fI(n:Int):List Value:=[.int .i64 n]
def Cs(w:World)(a:Nat)(l:List Int):Prop:=∃g o b,w.heap[a]?=some (.cells #[.slice (some ⟨g,o,none⟩) l.length b] 117)∧l.length≤b∧l.length≤8∧g≠a∧∃e,(e=89∨e=3)∧Sx w (some e) fI (some ⟨g,o,none⟩) l
theorem Cs.chg0{w w':World}{a:Nat}{l:List Int}(h:Cs w a l)(b:Chg [] w w'):Cs w' a l:=by
 obtain⟨g,o,c,d,f,i,j,e,k,m⟩:=h;exact⟨g,o,c,b.keep d Z,f,i,j,e,k,m.chg0 b⟩
theorem Cs.low{w w':World}{b a:Nat}{l:List Int}(h:Cs w a l)(d:Chg [b] w w')(f:b≠a){c:Array Value}{i:Nat × Nat}(j:w.heap[b]?=some (.cells c 60 i)):Cs w' a l:=by
 obtain⟨g,o,k,m,n,p,q,e,r,s⟩:=h;refine⟨g,o,k,d.keep m (by simp;omega),n,p,q,e,r,s.chg d ?_⟩;intro t u v x y;rw[List.mem_singleton.1 y] at v;rcases r with rfl|rfl
 ·exact s.ne v x j rfl rfl
 ·exact s.ne v x j rfl rfl
theorem FM{w:World}{a:Nat}{l:List Int}(b:Cs w a l)(k:Nat)(c:k≤8):Calls prog 259 #[.int .i64 k,.pointer (some ⟨a,0,none⟩)] w
  (Ac λv d=>(∃g o f,v=.slice (some ⟨g,o,none⟩) (l.take k).length f∧g≠a∧Sx d none fI (some ⟨g,o,none⟩) (l.take k))∧Cs d a (l.drop k)∧Chg [a] w d):=by
 obtain⟨g,o,f,h,i,j,n,p,q,r⟩:=b;have s:=Aa h;apply ku;intro K t;unfold Ol;have e:min (k:Int) (l.length:Int)=((min k l.length:Nat):Int):=O;refine sr h e ?_;have u:Chg [a] w (Ab w a (.cells #[.slice (some ⟨g,slo o f (min k l.length) 1,none⟩) (l.length-min k l.length) (f-min k l.length)] 117)):=(sg _ _).set _ _ Z;have x:=r.chg u (λb y z A B=>by cases z;exact n (List.mem_singleton.1 B));have C:l.take k=(l.drop 0).take (min k l.length):=by rw[List.drop_zero];exact(List.take_eq_take_min ..).trans (by rfl)
 have D:l.drop k=(l.drop (min k l.length)).take (l.length-min k l.length):=by
  rcases Nat.le_total k l.length with E|E
  ·rw[Nat.min_eq_left E,List.take_of_length_le Z]
  ·rw[Nat.min_eq_right E,List.drop_eq_nil_of_le E,List.drop_eq_nil_of_le (rH _)];simp
 refine t _ _ ⟨⟨g,o,min k l.length,by rw[List.length_take],n,?_⟩,⟨g,slo o f (min k l.length) 1,f-min k l.length,?_,?_,?_,n,p,q,?_⟩,u⟩
 ·rw[C];exact(x.sub (m:=1) (λ_=>rfl) 0 _ _ (.inr (.inr Z))).untag
 ·have:(l.drop k).length=l.length-min k l.length:=by rw[List.length_drop];omega
  rw[this];exact so
 ·rw[List.length_drop];omega
 ·rw[List.length_drop];omega
 ·rw[D];refine x.sub (m:=1) (λ_=>rfl) (min k l.length) _ _ ?_;unfold slo;split
  ·left;omega
  ·right;right;rfl
theorem CX{w:World}{g o:Nat}{l:List Int}(h:Sx w none fI (some ⟨g,o,none⟩) l){i:Nat}{n:Int}(a:l[i]?=some n):As w.heap[g]? (o+i)=some (.int .i64 n):=by
 obtain⟨b,c,d,e,f⟩:=h.get1 (g:=λn=>Value.int .i64 n) (λ_=>rfl) a;cases d;exact f
def Tf(a:Nat):Value:=.func (.func 259) #[] #[.pointer (some ⟨a,0,none⟩)]
theorem aZ{w:World}{b5:Nat}{l:List Int}(hL:Cs w b5 l):Calls prog 260 #[Tf b5] w
  (Ac λv w'=>v=.tuple #[.int .u8 ((AI l).1.getD 0).toNat,.bool (AI l).1.isSome]∧Cs w' b5 (AI l).2∧Chg [b5] w w'):=by
 apply Vy;intro K hK;unfold Mr;refine OpX.callV (us:=[]) (cs:=[_]) FP rfl (se (FM hL 1 O) ?_);rintro v w1 ⟨⟨g,o,cap,rfl,hg,hs⟩,hL1,hc1⟩;have last:∀(w2:World) (l2:List Int),Chg [b5] w w2→Cs w2 b5 l2→AI l=(none,[])→OpX prog (.call { callee:=.value (.const (Tf b5)),args:=#[.const (.int .i64 8)],argTypes:=#[3] }) 117 (λ_=>K (.tuple #[(.int .u8 0),(.bool false)])) w2:=by
  intro w2 l2 hc2 hL2 e;have hl2:l2.length≤8:=by obtain⟨_,_,_,_,_,h3,_⟩:=hL2;exact h3
  refine OpX.callV (us:=[]) (cs:=[_]) FP rfl (se (FM hL2 8 O) ?_);rintro v w3 ⟨-,hL3,hc3⟩;rw[List.drop_eq_nil_of_le hl2] at hL3;refine hK _ _ ⟨by rw[e];rfl,by rw[e];exact hL3,hc2.trans hc3 Z⟩
 rcases l with _|⟨n,l⟩
 ·refine si (λw'=>w1=w') ?_ ?_
  ·refine sh (λv w'=>v=.bool false∧w1=w') ?_ ?_
   ·refine sn ?_;exact sd (λh=>by simp at h) (λ_=>⟨rfl,rfl⟩)
   ·rintro v w2 ⟨rfl,rfl⟩;exact so
  ·rintro w2 rfl;refine si (λw'=>w1=w') ?_ ?_
   ·refine sh (λv w'=>v=.bool false∧w1=w') ?_ ?_
    ·refine sn ?_;exact sd (λh=>by simp at h) (λ_=>⟨rfl,rfl⟩)
    ·rintro v w2 ⟨rfl,rfl⟩;exact so
   ·rintro w2 rfl;exact last _ _ hc1 hL1 rfl
 ·have e1:(n::l).take 1=[n]:=rfl;have e2:(n::l).drop 1=l:=rfl;rw[e1] at hs ⊢;rw[e2] at hL1;have hcell:=CX hs (i:=0) rfl;simp only[Nat.add_zero] at hcell;refine si (λw'=>(∃l2,Cs w' b5 l2∧(n≠5→l2=l))∧(n=5→AI (n::l)=(none,[]))∧Chg [b5] w w'∧Sx w' none fI (some ⟨g,o,none⟩) [n]) ?_ ?_
  ·refine sh (λv w'=>v=.bool (decide (n=5))∧w1=w') ?_ ?_
   ·exact LC1 hcell
   ·rintro v w2 ⟨rfl,rfl⟩;refine sd (λh5=>?_) (λh5=>?_)
    ·subst h5;refine OpX.callV (us:=[]) (cs:=[_]) FP rfl (se (FM hL1 1 O) ?_);rintro v w2 ⟨⟨g2,o2,cap2,rfl,hg2,hs2⟩,hL2,hc2⟩;have hs':=hs.chg hc2 (λb o' ha hne hm=>by cases ha;exact hg (List.mem_singleton.1 hm));have hc3:=hc1.trans hc2 Z;rcases l with _|⟨m,l⟩
     ·refine sn ?_;refine sd (λh=>by simp at h) (λ_=>?_);exact⟨⟨_,hL2,λh=>absurd rfl h⟩,λ_=>rfl,hc3,hs'⟩
     ·have e3:(m::l).take 1=[m]:=rfl;have e4:(m::l).drop 1=l:=rfl;rw[e3] at hs2 ⊢;rw[e4] at hL2;have hcell2:=CX hs2 (i:=0) rfl;simp only[Nat.add_zero] at hcell2;refine sq hcell2 ?_;refine sh (λv w'=>v=.bool (decide (m<0∨255<m))∧w2=w') ?_ ?_
      ·refine sn ?_;refine sd (λd1=>?_) (λd1=>?_)
       ·exact⟨su (.inl d1),rfl⟩
       ·refine sn ?_;exact sw O
      ·rintro v w3 ⟨rfl,rfl⟩;refine sd (λd1=>?_) (λd1=>?_)
       ·have e:AI (5::m::l)=(none,l):=by unfold AI;simp;omega
        rw[e] at hK;exact hK _ _ ⟨rfl,hL2,hc3⟩
       ·have e:AI (5::m::l)=(some (hue m),l):=by unfold AI;simp;omega
        rw[e] at hK;refine td Gg rfl (FG w2 m) ?_;rintro v w3 ⟨rfl,rfl⟩;exact hK _ _ ⟨rfl,hL2,hc3⟩
    ·exact⟨⟨_,hL1,λ_=>rfl⟩,λh=>absurd h h5,hc1,hs⟩
  ·rintro w2 ⟨⟨l2,hL2,hl2⟩,h5,hc2,hs2⟩;have hcell2:=CX hs2 (i:=0) rfl;simp only[Nat.add_zero] at hcell2;refine si (λw'=>(∃l2,Cs w' b5 l2)∧AI (n::l)=(none,[])∧Chg [b5] w w') ?_ ?_
   ·refine sh (λv w'=>v=.bool (decide (n=2))∧w2=w') ?_ ?_
    ·exact LC1 hcell2
    ·rintro v w3 ⟨rfl,rfl⟩;refine sd (λd1=>?_) (λd1=>?_)
     ·subst d1;have:=hl2 rC;subst this;refine OpX.callV (us:=[]) (cs:=[_]) FP rfl (se (FM hL2 3 O) ?_);rintro v w3 ⟨⟨g3,o3,cap3,rfl,hg3,hs3⟩,hL3,hc3⟩;have hc4:=hc2.trans hc3 Z;refine sn ?_;refine sd (λh=>?_) (λh=>?_)
      ·rcases l2 with _|⟨r,_|⟨gg,_|⟨bb,l3⟩⟩⟩
       ·simp at h
       ·simp at h
       ·simp at h
       have e3:(r::gg::bb::l3).take 3=[r,gg,bb]:=rfl;rw[e3] at hs3 ⊢;have q0:=CX hs3 (i:=0) rfl;have q1:=CX hs3 (i:=1) rfl;have q2:=CX hs3 (i:=2) rfl;simp only[Nat.add_zero] at q0;have e:AI (2::r::gg::bb::l3)=(some (rgb r gg bb),l3):=rfl;rw[e] at hK;refine LX3 q0 q1 q2 ?_;refine td kj rfl (dT _ r gg bb) ?_;rintro v w4 ⟨rfl,rfl⟩;exact hK _ _ ⟨rfl,hL3.chg0 (sg _ _).drew,hc4.drew⟩
      ·refine⟨⟨_,hL3⟩,?_,hc4⟩;rcases l2 with _|⟨r,_|⟨gg,_|⟨bb,l3⟩⟩⟩
       ·rfl
       ·rfl
       ·rfl
       ·simp at h
     ·refine⟨⟨_,hL2⟩,?_,hc2⟩;by_cases h:n=5
      ·exact h5 h
      ·unfold AI;split
       ·simp_all
       ·simp_all
       ·rfl
   ·rintro w3 ⟨⟨l3,hL3⟩,e,hc3⟩;exact last _ _ hc3 hL3 e
def Tu(w:World)(d:Cel)(w':World):Prop:=Chg [] w w'∧w'.heap[w.heap.size]?=some (.cells d.cells.toArray 60)∧w'.heap[w.heap.size+1]?=some (.cells #[.int .i32 0,.int .u8 0,.int .u8 0,.int .u8 0] 60)
theorem VA(w:World)(c:Cel)(n:Int)(n0:Bn n):Calls prog 261 #[c.val,.int .i64 n] w (Ac λv w'=>v=(B8 c n).val∧Chg [] w w'):=by
 unfold Bn at n0;apply Ur;intro K hK;unfold Sv;refine sn ?_;have hc1:Chg [] w ((w.alloc (.cells c.cells.toArray 60)).alloc (.cells #[.int .i32 0,.int .u8 0,.int .u8 0,.int .u8 0] 60)):=By _ _ _;have hz:(w.alloc (.cells #[.int .i32 c.r,.int .u8 c.fg.toNat,.int .u8 c.bg.toNat,.int .u8 c.a.toNat] 60)).heap.size=w.heap.size+1:=by exact so
 rw[hz];obtain⟨w1,hw1⟩:∃w1,w1=((w.alloc (.cells #[.int .i32 c.r,.int .u8 c.fg.toNat,.int .u8 c.bg.toNat,.int .u8 c.a.toNat] 60)).alloc (.cells #[.int .i32 0,.int .u8 0,.int .u8 0,.int .u8 0] 60)):=⟨_,rfl⟩;rw[←hw1];simp only[Cel.cells] at hc1;rw[←hw1] at hc1;have hp1:w1.heap[w.heap.size]?=some (.cells #[.int .i32 c.r,.int .u8 c.fg.toNat,.int .u8 c.bg.toNat,.int .u8 c.a.toNat] 60):=by rw[hw1];exact so
 have ho1:w1.heap[w.heap.size+1]?=some (.cells #[.int .i32 0,.int .u8 0,.int .u8 0,.int .u8 0] 60):=by rw[hw1];exact so
 clear hw1 hz;refine td al rfl (Wv w1) ?_;rintro v w2 ⟨rfl,hc2⟩;have hl1:=Aa (hc2.keep ho1 Z);refine sn ?_;obtain⟨w3,hw3⟩:∃w3,w3=(w2.alloc (.cells #[.int .u8 0,.int .u8 1,.int .u8 2,.int .u8 4,.int .u8 8,.int .u8 16,.int .u8 0,.int .u8 32] 322)):=⟨_,rfl⟩;rw[←hw3];have hc3:Chg [] w w3:=by rw[hw3];exact(hc1.trans0 hc2).alloc _
 have hp:w3.heap[w.heap.size]?=some (.cells #[.int .i32 c.r,.int .u8 c.fg.toNat,.int .u8 c.bg.toNat,.int .u8 c.a.toNat] 60):=by rw[hw3];exact((sg [] _).alloc _).keep (hc2.keep hp1 Z) Z
 have ho:w3.heap[w.heap.size+1]?=some (.cells #[.int .i32 0,.int .u8 0,.int .u8 0,.int .u8 0] 60):=by rw[hw3];exact((sg [] _).alloc _).keep (hc2.keep ho1 Z) Z
 have hq:w3.heap[w2.heap.size]?=some (.cells #[.int .u8 0,.int .u8 1,.int .u8 2,.int .u8 4,.int .u8 8,.int .u8 16,.int .u8 0,.int .u8 32] 322):=by rw[hw3];exact so
 have hl3:=Aa ho;clear hw3 hc1 hc2 hp1 ho1;obtain⟨D,hD⟩:∃D,D=B8 c n:=⟨_,rfl⟩;rw[←hD] at hK;refine si (λw'=>Tu w D w') ?_ ?_
 ·have done:∀(f b a:BitVec 8) (w4:World),(w4=Ab w3 w.heap.size (.cells #[.int .i32 c.r,.int .u8 f.toNat,.int .u8 b.toNat,.int .u8 a.toNat] 60)∨w4=(Ab w3 w.heap.size (.cells #[.int .i32 c.r,.int .u8 f.toNat,.int .u8 b.toNat,.int .u8 a.toNat] 60)).drew)→D=⟨c.r,f,b,a⟩ →
    Tu w D w4:=by
   intro f b a w4 h4 e;rw[e];have hcc:=hc3.set w.heap.size (.cells #[.int .i32 c.r,.int .u8 f.toNat,.int .u8 b.toNat,.int .u8 a.toNat] 60) (.inr (rH _));rcases h4 with rfl|rfl
   ·exact⟨hcc,(by exact so),(by exact LC1 ho)⟩
   ·exact⟨hcc.drew,(by exact so),(by exact LC1 ho)⟩
  unfold B8 at hD;refine sn ?_;refine sd (λd1=>?_) (λd1=>?_)
  ·rw[rG d1] at hD;refine sq hp ?_;exact done 0 0 0 _ (.inl rfl) hD
  rw[rF d1] at hD;refine sh (λv w'=>v=.bool (decide (0<n∧n<8))∧w3=w') ?_ ?_
  ·refine sn ?_;refine sd (λg1=>?_) (λg1=>?_)
   ·refine sn ?_;exact sw O
   ·exact⟨sv O,rfl⟩
  rintro v w4 ⟨rfl,rfl⟩;refine sd (λd2=>?_) (λd2=>?_)
  ·rw[rG d2] at hD;have hn:n=1∨n=2∨n=3∨n=4∨n=5∨n=6∨n=7:=O;rcases hn with rfl|rfl|rfl|rfl|rfl|rfl|rfl<;>(simp -dsimp (disch:=first|omega|(simp only[go_sem,seval];try omega))only[go_sem,seval,hp,hq,Jt];exact done c.fg c.bg _ _ (.inr rfl) hD)
  rw[rF d2] at hD;refine sn ?_;refine sd (λd3=>?_) (λd3=>?_)
  ·rw[rG d3] at hD;simp -dsimp (disch:=first|omega|(simp only[go_sem,seval];try omega))only[go_sem,seval,hp,Hc];exact done c.fg c.bg _ _ (.inl rfl) hD
  rw[rF d3] at hD;refine sh (λv w'=>v=.bool (decide (23≤n∧n≤27))∧w3=w') ?_ ?_
  ·refine sn ?_;refine sd (λg1=>?_) (λg1=>?_)
   ·refine sn ?_;exact sw O
   ·exact⟨sv O,rfl⟩
  rintro v w4 ⟨rfl,rfl⟩;refine sd (λd4=>?_) (λd4=>?_)
  ·rw[rG d4] at hD;have hn:n=23∨n=24∨n=25∨n=26∨n=27:=O;rcases hn with rfl|rfl|rfl|rfl|rfl<;>(simp -dsimp (disch:=first|omega|(simp only[go_sem,seval];try omega))only[go_sem,seval,hp,hq,Hc];exact done c.fg c.bg _ _ (.inr rfl) hD)
  rw[rF d4] at hD;refine sh (λv w'=>v=.bool (decide (30≤n∧n≤37))∧w3=w') ?_ ?_
  ·refine sn ?_;refine sd (λg1=>?_) (λg1=>?_)
   ·refine sn ?_;exact sw O
   ·exact⟨sv O,rfl⟩
  rintro v w4 ⟨rfl,rfl⟩;refine sd (λd5=>?_) (λd5=>?_)
  ·rw[rG d5] at hD;refine sn ?_;refine td Gg rfl (FG _ (n-30)) ?_;rintro v w4 ⟨rfl,rfl⟩;refine sq hp ?_;exact done (hue (n-30)) c.bg c.a _ (.inl rfl) hD
  rw[rF d5] at hD;refine sn ?_;refine sd (λd6=>?_) (λd6=>?_)
  ·rw[rG d6] at hD;refine sq hp ?_;exact done 0 c.bg c.a _ (.inl rfl) hD
  rw[rF d6] at hD;refine sh (λv w'=>v=.bool (decide (40≤n∧n≤47))∧w3=w') ?_ ?_
  ·refine sn ?_;refine sd (λg1=>?_) (λg1=>?_)
   ·refine sn ?_;exact sw O
   ·exact⟨sv O,rfl⟩
  rintro v w4 ⟨rfl,rfl⟩;refine sd (λd7=>?_) (λd7=>?_)
  ·rw[rG d7] at hD;refine sn ?_;refine td Gg rfl (FG _ (n-40)) ?_;rintro v w4 ⟨rfl,rfl⟩;refine sq hp ?_;exact done c.fg (hue (n-40)) c.a _ (.inl rfl) hD
  rw[rF d7] at hD;refine sn ?_;refine sd (λd8=>?_) (λd8=>?_)
  ·rw[rG d8] at hD;refine sq hp ?_;exact done c.fg 0 c.a _ (.inl rfl) hD
  rw[rF d8] at hD;refine sh (λv w'=>v=.bool (decide (90≤n∧n≤97))∧w3=w') ?_ ?_
  ·refine sn ?_;refine sd (λg1=>?_) (λg1=>?_)
   ·refine sn ?_;exact sw O
   ·exact⟨sv O,rfl⟩
  rintro v w4 ⟨rfl,rfl⟩;refine sd (λd9=>?_) (λd9=>?_)
  ·rw[rG d9] at hD;refine sn ?_;refine td Gg rfl (FG _ (n-82)) ?_;rintro v w4 ⟨rfl,rfl⟩;refine sq hp ?_;exact done (hue (n-82)) c.bg c.a _ (.inl rfl) hD
  rw[rF d9] at hD;refine sh (λv w'=>v=.bool (decide (100≤n∧n≤107))∧w3=w') ?_ ?_
  ·refine sn ?_;refine sd (λg1=>?_) (λg1=>?_)
   ·refine sn ?_;exact sw O
   ·exact⟨sv O,rfl⟩
  rintro v w4 ⟨rfl,rfl⟩;refine sd (λd10=>?_) (λd10=>?_)
  ·rw[rG d10] at hD;refine sn ?_;refine td Gg rfl (FG _ (n-92)) ?_;rintro v w4 ⟨rfl,rfl⟩;refine sq hp ?_;exact done c.fg (hue (n-92)) c.a _ (.inl rfl) hD
  rw[rF d10] at hD;subst hD;exact⟨hc3,hp,ho⟩
 ·rintro w4 ⟨hc4,hp4,ho4⟩;have hl4:=Aa ho4;refine sr hp4 ho4 ?_;exact hK _ _ ⟨rfl,hc4.set _ _ (.inr O)⟩
theorem P6{l:List Int}{x:Int}(h:x∈(AI l).2):x∈l:=by
 unfold AI at h;split at h
 ·exact List.mem_cons_of_mem _ (List.mem_cons_of_mem _ h)
 ·exact List.mem_cons_of_mem _ (List.mem_cons_of_mem _ (List.mem_cons_of_mem _ (List.mem_cons_of_mem _ h)))
 ·simp at h
theorem cG{a:Act'}(b:a.fits):∀x∈a.left,Bn x:=by
 intro x c;unfold Act'.left at c;dsimp only at c;split at c
 ·simp at c;subst c;unfold Bn;omega
 ·exact b.nums x (List.mem_of_mem_take c)
def MN(w:World)(b a:Nat)(R:Cel)(l:List Int)(c:Cel)(w':World):Prop:=
 Chg [] w w'∧w'.heap[b]?=some (.cells c.cells.toArray 60)∧w'.heap[b+2]?=some (.cells #[.int .i32 0,.int .u8 0,.int .u8 0,.int .u8 0] 60)∧Cs w' a l∧(∀x∈l,Bn x)∧∃k,l.length≤k∧Cn k l c=R
theorem PN(k:Nat)(c:Cel):Cn k [] c=c:=by cases k<;>rfl
theorem UE (w:World) (c:Cel) (a:Act') (hf:a.fits):Calls prog 243 #[c.val,a.val] w (Ac λv w'=>v=(D2 c a).val∧Chg [] w w'):=by
 apply Uh
 intro K hK
 unfold Ms
 refine sn ?_
 have hz:(w.alloc (.cells #[.int .i32 c.r,.int .u8 c.fg.toNat,.int .u8 c.bg.toNat,.int .u8 c.a.toNat] 60)).heap.size=w.heap.size+1:=by exact so
 have hz2:((w.alloc (.cells #[.int .i32 c.r,.int .u8 c.fg.toNat,.int .u8 c.bg.toNat,.int .u8 c.a.toNat] 60)).alloc (.cells a.cells.toArray 89)).heap.size=w.heap.size+2:=by exact so
 simp only[Act'.cells] at hz2
 rw[hz2,hz]
 obtain⟨w1,hw1⟩:∃w1,w1=(((w.alloc (.cells c.cells.toArray 60)).alloc (.cells a.cells.toArray 89)).alloc (.cells #[.int .i32 0,.int .u8 0,.int .u8 0,.int .u8 0] 60)):=⟨_,rfl⟩
 have hc1:Chg [] w w1:=by rw[hw1];exact Fo _ _ _ _
 have hp1:w1.heap[w.heap.size]?=some (.cells c.cells.toArray 60):=by rw[hw1];exact so
 have ha1:w1.heap[w.heap.size+1]?=some (.cells a.cells.toArray 89):=by rw[hw1];exact so
 have ho1:w1.heap[w.heap.size+2]?=some (.cells #[.int .i32 0,.int .u8 0,.int .u8 0,.int .u8 0] 60):=by rw[hw1];exact so
 have hl1:=Aa ho1
 simp only[Act'.cells,Cel.cells] at hw1
 rw[←hw1]
 clear hw1 hz hz2
 refine Join1.cut (λv w'=>v=.bool (decide (a.kind≠4∨a.r≠109∨a.priv≠0∨a.mid≠0))∧w1=w') ?_ ?_
 ·refine sq ha1 ?_
  refine BrW.dec (λg1=>?_) (λg1=>?_)
  ·exact⟨congrArg Value.bool (decide_eq_true (.inl g1)).symm,rfl⟩
  refine sq ha1 ?_
  refine BrW.dec (λg2=>?_) (λg2=>?_)
  ·exact⟨congrArg Value.bool (decide_eq_true (.inr (.inl g2))).symm,rfl⟩
  refine sq ha1 ?_
  refine BrW.dec (λg3=>?_) (λg3=>?_)
  ·exact⟨congrArg Value.bool (decide_eq_true (.inr (.inr (.inl g3)))).symm,rfl⟩
  refine sq ha1 ?_
  refine congrArg Value.bool (decide_eq_decide.2 ⟨λh=>.inr (.inr (.inr h)),λh=>?_⟩)
  rcases h with h|h|h|h
  ·exact absurd h g1
  ·exact absurd h g2
  ·exact absurd h g3
  ·exact h
 rintro v w2 ⟨rfl,rfl⟩
 unfold D2 at hK
 refine BrW.dec (λd1=>?_) (λd1=>?_)
 ·rw[if_pos d1] at hK
  refine sr hp1 ho1 ?_
  exact hK _ _ ⟨rfl,hc1.set _ _ (.inr (by omega))⟩
 rw[if_neg d1] at hK
 obtain⟨R,hR⟩:∃R,R=Cn 9 a.left c:=⟨_,rfl⟩
 rw[←hR] at hK
 refine sq ha1 ?_
 refine Join0.cut (λw'=>MN w w.heap.size w1.heap.size R a.left c w') ?_ ?_
 ·obtain⟨n,hn⟩:∃n,n=(min (max a.n 0) 8).toNat:=⟨_,rfl⟩
  have hn8:n≤8:=by omega
  rw[←hn]
  obtain⟨w2,hw2⟩:∃w2,w2=w1.alloc (.cells #[.slice (some ⟨w.heap.size+1,5,none⟩) n 8] 117):=⟨_,rfl⟩
  have hc2:Chg [] w1 w2:=by rw[hw2];exact Ar _ _
  have h52:w2.heap[w1.heap.size]?=some (.cells #[.slice (some ⟨w.heap.size+1,5,none⟩) n 8] 117):=by rw[hw2];exact so
  have hl52:=Aa h52
  have ha2:=hc2.keep ha1 (by simp)
  have hsx:Sx w2 (some 89) fI (some ⟨w.heap.size+1,5,none⟩) (a.nums.take n):=by
   have h0:Sx w2 (some 89) fI (some ⟨w.heap.size+1,5,none⟩) a.nums:=⟨λ_=>⟨w.heap.size+1,5,_,_,_,a.cells.take 5,[],rfl,ha2,by simp [Bz],rfl,rfl⟩⟩
   have:=h0.sub (m:=1) (λ_=>rfl) 0 n (some ⟨w.heap.size+1,5,none⟩) (.inr (.inr rfl))
   simpa using this
  have hlen:(a.nums.take n).length=n:=by rw[List.length_take,show a.nums.length=8 from rfl];omega
  rw[←hw2]
  have hp2:=hc2.keep hp1 (by simp)
  have ho2:=hc2.keep ho1 (by simp)
  clear hw2
  refine sq h52 ?_
  refine BrW.dec (λd2=>?_) (λd2=>?_)
  ·have hleft:a.left=[0]:=by
    unfold Act'.left
    dsimp only
    rw[←hn,if_pos (List.eq_nil_of_length_eq_zero (by omega))]
   refine sq h52 ?_
   rw[hleft] at hR ⊢
   refine⟨?_,?_,?_,⟨w2.heap.size,0,1,?_,by simp,by simp,Nat.ne_of_gt hl52,3,.inr rfl,?_⟩,by simp [Bn],9,by simp,hR.symm⟩
   ·exact((hc1.trans0 hc2).set w1.heap.size _ (.inr (by omega))).alloc _
   ·exact LC1 hp2
   ·exact LC1 ho2
   ·exact so
   ·refine Sx.built (c:=[.int .i64 0]) ?_ rfl
    exact so
  ·have hleft:a.left=a.nums.take n:=by
    unfold Act'.left
    dsimp only
    rw[←hn,if_neg (λh=>d2 (by rw[h] at hlen;simp at hlen;omega))]
   refine⟨hc1.trans0 hc2,hp2,ho2,⟨w.heap.size+1,5,8,?_,?_,?_,by omega,89,.inl rfl,?_⟩,cG hf,9,?_,hR.symm⟩
   ·rw[hleft,hlen];exact h52
   ·rw[hleft,hlen];exact hn8
   ·rw[hleft,hlen];exact hn8
   ·rw[hleft];exact hsx
   ·rw[hleft,hlen];omega
 ·intro w2 hI
  refine sn ?_
  refine Loop0.st (λ(st:List Int × Cel) w'=>MN w w.heap.size w1.heap.size R st.1 st.2 w') (λst=>st.1.length) (a.left,c) hI ?_
  clear hI hp1 ha1 ho1 w2
  rintro next ⟨l,c2⟩ w2 hn ⟨hc2,hp2,ho2,hL,hi,k,hk,hR⟩
  dsimp only at hp2 hL hi hk hR
  have hl2:=Aa ho2
  have hL':=hL
  obtain⟨g,o,cap,q1,q2,q3,q4,-⟩:=hL'
  have hl3:=Aa q1
  refine sq q1 ?_
  refine BrW.dec (λd2=>?_) (λd2=>?_)
  ·rcases l with _|⟨n,l⟩
   ·simp at d2
   obtain⟨k,rfl⟩:∃k',k=k'+1:=⟨k-1,by simp at hk;omega⟩
   refine OpX.callV (us:=[]) (cs:=[_]) FP rfl (Calls.ret (FM hL 1 (by omega)) ?_)
   rintro v w3 ⟨⟨g3,o3,cap3,rfl,hg3,hs3⟩,hL3,hc3⟩
   have e1:(n::l).take 1=[n]:=rfl
   have e2:(n::l).drop 1=l:=rfl
   rw[e1] at hs3 ⊢
   rw[e2] at hL3
   have hcell:=CX hs3 (i:=0) rfl
   simp only[Nat.add_zero] at hcell
   have hc4:Chg [] w w3:=hc2.trans hc3 (by simp;omega)
   have hp3:=hc3.keep hp2 (by simp;omega)
   have ho3:=hc3.keep ho2 (by simp;omega)
   have hl4:=Aa ho3
   refine sq hcell ?_
   refine Join1.cut (λv w'=>v=.bool (decide (n=38∨n=48))∧w3=w') ?_ ?_
   ·refine sn ?_
    refine BrW.dec (λg1=>?_) (λg1=>?_)
    ·exact⟨congrArg Value.bool (decide_eq_true (.inl g1)).symm,rfl⟩
    ·refine sn ?_
     simp [g1]
   rintro v w4 ⟨rfl,rfl⟩
   unfold Cn at hR
   refine BrW.dec (λd3=>?_) (λd3=>?_)
   ·refine OpX.call iq rfl (Calls.ret (aZ hL3) ?_)
    rintro v w4 ⟨rfl,hL4,hc5⟩
    have hc6:Chg [] w w4:=hc4.trans hc5 (by simp;omega)
    have hp4:=hc5.keep hp3 (by simp;omega)
    have ho4:=hc5.keep ho3 (by simp;omega)
    have hl5:=Aa ho4
    have hi':∀x∈(AI l).2,Bn x:=λx hx=>hi x (List.mem_cons_of_mem _ (P6 hx))
    have hlen:=Ro l
    have hlk:(AI l).2.length≤k:=by simp at hk;omega
    have hlt:(AI l).2.length<(n::l).length:=by simp;omega
    have hlt4:w.heap.size<w4.heap.size:=by omega
    obtain⟨q,hq⟩:∃q,q=(AI l).1:=⟨_,rfl⟩
    rw[←hq] at hR ⊢
    have nx:∀(f b:BitVec 8) (w5:World),w5=Ab w4 w.heap.size (.cells #[.int .i32 c2.r,.int .u8 f.toNat,.int .u8 b.toNat,.int .u8 c2.a.toNat] 60)→Cn k (AI l).2 ⟨c2.r,f,b,c2.a⟩=R→next w5:=by
     intro f b w5 h5 e
     subst h5
     refine hn ((AI l).2,⟨c2.r,f,b,c2.a⟩) _ ⟨hc6.set _ _ (.inr (Nat.le_refl _)),?_,?_,?_,hi',k,hlk,e⟩ hlt
     ·exact so
     ·exact LC1 ho4
     ·exact hL4.low ((Chg.refl [w.heap.size] w4).set _ _ (by simp)) (by omega) hp4
    refine sn ?_
    rcases q with _|x
    ·refine Join1.cut (λv w'=>v=.bool false∧w4=w') ?_ ?_
     ·exact BrW.by (λh=>by simp at h) (λ_=>⟨rfl,rfl⟩)
     rintro v w5 ⟨rfl,rfl⟩
     refine sn ?_
     refine hn ((AI l).2,c2) _ ⟨hc6,hp4,ho4,hL4,hi',k,hlk,?_⟩ hlt
     rw[←hR]
     split
     ·rfl
     ·split
      ·rfl
      ·omega
    ·refine Join1.cut (λv w'=>v=.bool (decide (n=38))∧w4=w') ?_ ?_
     ·refine BrW.by (λ_=>?_) (λh=>by simp at h)
      exact so
     rintro v w5 ⟨rfl,rfl⟩
     refine BrW.dec (λg1=>?_) (λg1=>?_)
     ·rw[if_pos g1] at hR
      refine sq hp4 ?_
      exact nx x c2.bg _ rfl hR
     ·rw[if_neg g1,if_pos (by omega)] at hR
      refine BrW.by (λ_=>?_) (λh=>by simp at h)
      refine sq hp4 ?_
      exact nx c2.fg x _ rfl hR
   ·rw[if_neg (by omega),if_neg (by omega)] at hR
    refine sq hp3 ?_
    refine OpX.call VB rfl (Calls.ret (VA _ c2 n (hi n (by simp))) ?_)
    rintro v w4 ⟨rfl,hc5⟩
    have hp4:=hc5.keep hp3 (by simp)
    have ho4:=hc5.keep ho3 (by simp)
    have hl5:=Aa ho4
    have hc6:=hc4.trans0 hc5
    refine sq hp4 ?_
    refine hn (l,B8 c2 n) _ ⟨hc6.set _ _ (.inr (Nat.le_refl _)),?_,?_,?_,λx hx=>hi x (List.mem_cons_of_mem _ hx),k,by simp at hk;exact hk,hR⟩ (by simp)
    ·exact so
    ·exact LC1 ho4
    ·exact(hL3.chg0 hc5).low ((Chg.refl [w.heap.size] w4).set _ _ (by simp)) (by omega) hp4
  ·have hl0:l=[]:=by cases l with|nil=>rfl|cons x l=>simp at d2
   subst hl0
   rw[PN] at hR
   refine sr hp2 ho2 ?_
   exact hK _ _ ⟨by rw[hR];rfl,hc2.set _ _ (.inr (by omega))⟩
theorem Scm.wTabs(M:Scm)(h:M.S.tabs.length=200):Ao (some M.obj) 29 (List.replicate 200 (.bool false))=some ({ M with S:={ M.S with tabs:=List.replicate 200 false } }:Scm).obj:=by
 refine M.put _ 29 _ h (by rw[List.length_replicate];omega) ?_;have a:M.cells=M.cells.take 29++(M.S.tabs.map Value.bool++[.bool M.S.wraps,.bool M.S.waits,.bool M.S.shown,M.gv]):=rfl;have b:M.cells.drop (29+(List.replicate 200 (Value.bool false)).length)=[.bool M.S.wraps,.bool M.S.waits,.bool M.S.shown,M.gv]:=by
  rw[List.length_replicate,a,←rJ];exact List.drop_left' (by rw[rS,List.length_map,h];rfl)
 rw[b];unfold Scm.cells Scm.end;dsimp only;rw[List.map_replicate];rfl
section
attribute [-go_sem] E0 Et
theorem dj{w:World}{s:Nat}{M:Scm}(h:SAt w s M)(ok:M.S.ok)(a:Act')(hf:a.fits):Calls prog 215 #[.pointer (some ⟨s,0,none⟩),a.val] w
  (Ac λv w'=>v=.bool (M.S.set a).isSome∧Did w s M w' ((M.S.set a).getD M.S)):=by
 have hls:=Aa h.hb;have tl:=h.tl;have w1b:=ok.w1;have nx:=ok.nx;apply Ul;intro K hK;unfold L8;refine sn ?_;obtain⟨w1,hw1⟩:∃w1,w1=w.alloc (.cells a.cells.toArray 89):=⟨_,rfl⟩;have hc1:Chg [] w w1:=by rw[hw1];exact Ar _ _
 have ha1:w1.heap[w.heap.size]?=some (.cells a.cells.toArray 89):=by rw[hw1];exact so
 simp only[Act'.cells] at hw1;rw[←hw1];clear hw1;have hla:=Aa ha1;have hA:=h.chg0 hc1;have hb:=hA.hb;have base:∀w' T,Did w1 s M w' T→Did w s M w' T:=λw' T hd=>Did.trans (M1:=M) (hc1.mono Z) (λb hb=>.inl hb) hd;refine si (λw'=>∃T,Did w s M w' T∧M.S.set a=some T) ?_ ?_
 ·refine sq ha1 ?_;refine sd (λc1=>?_) (λc1=>?_)
  ·refine sr ha1 hb ?_;refine td Uu rfl (UE _ M.S.now.pen a hf) ?_;rintro v w2 ⟨rfl,hc2⟩;have hc3:Chg [] w1 w2:=(sg _ _).drew.trans0 hc2;have hA2:=hA.chg0 hc3;have hb2:=hA2.hb;have hl2:=Aa hb2;refine sq hb2 ?_;refine⟨_,base _ _ (Did.set hA2 (hc3.mono Z) (λb hb=>.inl hb) { M.S with now:={ M.S.now with pen:=D2 M.S.now.pen a } } rfl rfl tl rfl),?_⟩;unfold Scr.set;rw[rG c1]
  refine sq ha1 ?_;refine sd (λc2=>?_) (λc2=>?_)
  ·refine sq ha1 ?_;refine td D3 rfl (Ee _ a 0 0) ?_;rintro v w2 ⟨rfl,hc2⟩;have hA2:=hA.chg0 hc2;have hb2:=hA2.hb;have hl2:=Aa hb2;have e:M.S.set a=some (if a.num 0 0=0 then { M.S with tabs:=M.S.tabs.set M.S.now.x false } else if a.num 0 0=3 then { M.S with tabs:=List.replicate 200 false } else M.S):=by
    unfold Scr.set;rw[rF c1,rG c2]
   refine sn ?_;refine sd (λd1=>?_) (λd1=>?_)
   ·rw[rG d1] at e;refine sq hb2 ?_;exact⟨_,base _ _ (Did.set (hA2.chg0 (sg _ _).drew) (hc2.mono Z).drew (λb hb=>.inl hb) { M.S with tabs:=M.S.tabs.set M.S.now.x false } rfl rfl (by rw[List.length_set];exact tl) rfl),e⟩
   rw[rF d1] at e;refine sn ?_;refine sd (λd2=>?_) (λd2=>?_)
   ·rw[rG d2] at e;refine OpX.build (c:=(List.replicate 200 (.bool false)).toArray) (by kernel_rfl) ?_;obtain⟨z,hz⟩:∃z,z=(List.replicate 200 (Value.bool false)).toArray:=⟨_,rfl⟩;rw[←hz];refine sn ?_;rw[D5 _ _ _ _ _ _ _ (by rw[hz];kernel_rfl) (by rw[hz];kernel_rfl)];have hp:Ao w2.heap[s]? 29 (Value.agg z).cells.toList=some ({ M with S:={ M.S with tabs:=List.replicate 200 false } }:Scm).obj:=by
     rw[hz,hb2];exact M.wTabs tl
    rw[hp,D6];exact⟨_,base _ _ (Did.set hA2 (hc2.mono Z) (λb hb=>.inl hb) { M.S with tabs:=List.replicate 200 false } rfl rfl (by rw[List.length_replicate]) rfl),e⟩
   ·rw[rF d2] at e;exact⟨_,base _ _ (Did.trans (M1:=M) (hc2.mono Z) (λb hb=>.inl hb) (Did.refl hA2)),e⟩
  refine sn ?_;refine sd (λc3=>?_) (λc3=>?_)
  ·refine sn ?_;refine td Jy rfl (IW hA) ?_;rintro v w2 hd;refine⟨_,base _ _ hd,?_⟩;unfold Scr.set;rw[rF c1,rF c2,rG c3]
  have e:M.S.set a=none:=by
   unfold Scr.set;rw[rF c1,rF c2,rF c3]
  rw[e] at hK;exact hK _ _ ⟨rfl,base _ _ (Did.refl hA)⟩
 ·rintro w2 ⟨T,hd,e⟩;rw[e] at hK;exact hK _ _ ⟨rfl,hd⟩
end
theorem Nb(S:Scr)(l:List Int)(x:Int)(a:Bool):S.modes (l++[x]) a=(S.modes l a).mode x a:=by unfold Scr.modes;rw[List.foldl_append];rfl
theorem JM{w:World}{b:Nat}{a:Act'}(h:w.heap[b]?=some (.cells a.cells.toArray 89)):Sx w none fI (some ⟨b,5,none⟩) a.nums:=⟨λ_=>⟨b,5,_,_,_,a.cells.take 5,[],rfl,h,by simp [Bz],rfl,rfl⟩⟩
theorem aD{w:World}{s:Nat}{M:Scm}(h:SAt w s M)(ok:M.S.ok)(a:Act')(hf:a.fits):Calls prog 167 #[.pointer (some ⟨s,0,none⟩),a.val] w
  (Ac λ_ w'=>Did w s M w' (M.S.csi a)):=by
 have hls:=Aa h.hb;have hlt:=h.lt;have tl:=h.tl;apply dE;intro K hK;unfold ML;refine sn ?_;obtain⟨w1,hw1⟩:∃w1,w1=w.alloc (.cells a.cells.toArray 89):=⟨_,rfl⟩;have hc1:Chg [] w w1:=by rw[hw1];exact Ar _ _
 have ha1:w1.heap[w.heap.size]?=some (.cells a.cells.toArray 89):=by rw[hw1];exact so
 simp only[Act'.cells] at hw1;rw[←hw1];clear hw1;have hla:=Aa ha1;have hA:=h.chg0 hc1;have hoa:w.heap.size∉s::M.blk:=λhm=>by have:=hlt _ hm;omega
 have base:∀w' T,Did w1 s M w' T→Did w s M w' T:=λw' T hd=>Did.trans (M1:=M) (hc1.mono Z) (λb hb=>.inl hb) hd;obtain⟨C,hC⟩:∃C,C=M.S.csi a:=⟨_,rfl⟩;rw[←hC] at hK;unfold Scr.csi at hC;refine sh (λv w'=>v=.bool (decide (a.priv=63∧a.mid=0∧(a.r=104∨a.r=108)))∧w1=w') ?_ ?_
 ·refine sq ha1 ?_;refine sd (λg1=>?_) (λg1=>?_)
  ·refine sq ha1 ?_;refine sd (λg2=>?_) (λg2=>?_)
   ·refine sq ha1 ?_;refine sd (λg3=>?_) (λg3=>?_)
    ·exact⟨su ⟨g1,g2,.inl g3⟩,rfl⟩
    ·refine sq ha1 ?_;exact sw ⟨λh=>⟨g1,g2,.inr h⟩,λh=>h.2.2.resolve_left g3⟩
   ·exact⟨sv (λh=>g2 h.2.1),rfl⟩
  ·exact⟨sv (λh=>g1 h.1),rfl⟩
 rintro v w2 ⟨rfl,rfl⟩;refine sd (λd1=>?_) (λd1=>?_)
 ·rw[rG d1] at hC;obtain⟨n,hn⟩:∃n,n=(min (max a.n 0) 8).toNat:=⟨_,rfl⟩;have hn8:n≤8:=O;rw[←hn] at hC;refine sq ha1 ?_;rw[←hn];refine Loop1.st (λi:Nat=>.int .i64 (i:Int)) (λi w'=>i≤n∧Did w1 s M w' (M.S.modes (a.nums.take i) (decide (a.r=104)))) (λi=>n-i) 0 rfl ⟨O,Did.refl hA⟩ ?_;rintro next i w2 hnx ⟨hi,hd⟩
  have ha2:=hd.keep ha1 hoa;have hl2:=Aa ha2;refine sn ?_;refine sd (λd2=>?_) (λd2=>?_)
  ·have hi8:i<a.nums.length:=by rw[show a.nums.length=8 from rfl];omega
   have hcell:=CX (JM ha2) (i:=i) (rI hi8);have hx:=hf.nums _ (rR hi8);obtain⟨M2,hA2,hS2,hc2,hbl2⟩:=hd;have ok2:M2.S.ok:=by rw[hS2];exact ok.modes.ok
   refine sq hcell ?_;refine sq ha2 ?_;refine td Xe rfl (VK hA2 ok2 (a.nums[i]) (decide (a.r=104))) ?_;rintro v w3 hd3;have e1:(i:Int)+1=((i+1:Nat):Int):=O;refine sq e1 ?_;refine hnx (i+1) _ ⟨O,?_⟩ O;rw[Cd hi8,Nb,←hS2];exact Did.trans hc2 hbl2 hd3
  ·have:i=n:=O;subst this;exact hK _ _ (base _ _ (by rw[hC];exact hd))
 rw[rF d1] at hC;refine sh (λv w'=>v=.bool (decide (a.priv≠0∨a.mid≠0))∧w1=w') ?_ ?_
 ·refine sq ha1 ?_;refine sd (λg1=>?_) (λg1=>?_)
  ·exact⟨su (.inl g1),rfl⟩
  ·refine sq ha1 ?_;refine sw ⟨λh=>.inr h,λh=>?_⟩;rcases h with h|h
   ·exact absurd h g1
   ·exact h
 rintro v w2 ⟨rfl,rfl⟩;refine sd (λd2=>?_) (λd2=>?_)
 ·rw[rG d2] at hC;exact hK _ _ (base _ _ (by rw[hC];exact Did.refl hA))
 rw[rF d2] at hC;refine sq ha1 ?_;refine td Vq rfl (dj hA ok a hf) ?_;rintro v w2 ⟨rfl,hd2⟩;have ha2:=hd2.keep ha1 hoa;rcases hs:M.S.set a with _|T
 ·rw[hs] at hd2 hC;dsimp only[Option.getD] at hd2 hC;obtain⟨M2,hA2,hS2,hc2,hbl2⟩:=hd2;have ok2:M2.S.ok:=by rw[hS2];exact ok
  have hz2:=hc2.size;have hoa2:=Hk hbl2 hoa hla;rw[←hS2] at hC;refine BrW.by (λh=>by simp at h) (λ_=>?_);refine sh (λv w'=>∃b T,v=.bool b∧Did w1 s M w' T∧C=bif b then T.calm else T) ?_ ?_
  ·refine sq ha2 ?_;refine td Vv rfl (Wx hA2 ok2 a hf) ?_;rintro v w3 ⟨rfl,hd3⟩;have ha3:=hd3.keep ha2 hoa2;rcases hm:M2.S.moved a with _|T
   ·rw[hm] at hd3 hC;dsimp only[Option.getD] at hd3 hC;obtain⟨M3,hA3,hS3,hc3,hbl3⟩:=hd3;have ok3:M3.S.ok:=by rw[hS3];exact ok2
    rw[←hS3] at hC;refine BrW.by (λh=>by simp at h) (λ_=>?_);refine sq ha3 ?_;refine td Xu rfl (dR hA3 ok3 a hf) ?_;rintro v w4 ⟨rfl,hd4⟩;rcases hch:M3.S.changed a with _|T
    ·rw[hch] at hd4 hC;exact⟨false,_,rfl,Did.trans hc2 hbl2 (Did.trans hc3 hbl3 hd4),hC⟩
    ·rw[hch] at hd4 hC;exact⟨true,_,rfl,Did.trans hc2 hbl2 (Did.trans hc3 hbl3 hd4),hC⟩
   ·rw[hm] at hd3 hC;exact BrW.by (λ_=>⟨true,_,rfl,Did.trans hc2 hbl2 hd3,hC⟩) (λh=>by simp at h)
  ·rintro v w3 ⟨b,T,rfl,hd3,e⟩;cases b with
   | true =>
    obtain⟨M4,hb4,hS4,tl4,hd4⟩:=hd3.calm;refine BrW.by (λ_=>?_) (λh=>by simp at h);refine sq hb4 ?_;exact hK _ _ (base _ _ (by rw[e];exact hd4))
   | false=>exact BrW.by (λh=>by simp at h) (λ_=>hK _ _ (base _ _ (by rw[e];exact hd3)))
 ·rw[hs] at hd2 hC;exact BrW.by (λ_=>hK _ _ (base _ _ (by rw[hC];exact hd2))) (λh=>by simp at h)
theorem Xp{w:World}{s:Nat}{M:Scm}(h:SAt w s M)(ok:M.S.ok){e:Option TypeId}{ad:Option Addr}{l:List Act'}(hs:Sx w e Act'.cells ad l)(hfar:∀b o,ad=some ⟨b,o,none⟩→l≠[]→b∉s::M.blk)(cap:Nat)(hl:l.length≤1000000)(hf:∀a∈l,a.fits):Calls prog 106 #[.pointer (some ⟨s,0,none⟩),.slice ad l.length cap] w
  (Ac λ_ w'=>Did w s M w' (M.S.acts l)):=by
 have w0:=ok.w0;apply Vj;intro K hK;unfold Tr;refine td HR rfl (HB h w0) ?_;rintro v w1 ⟨rfl,rfl⟩;refine sn ?_;refine Loop1.st (λi:Nat=>.int .i64 (i:Int)) (λi w'=>i≤l.length∧Did w s M w' (M.S.acts (l.take i))) (λi=>l.length-i) 0 rfl ⟨O,Did.refl h⟩ ?_;rintro next i w2 hnx ⟨hi,hd⟩
 refine sn ?_;refine sd (λd2=>?_) (λd2=>?_)
 ·have hi8:i<l.length:=O;have hne:l≠[]:=by rintro rfl;simp at hi8
  obtain⟨M2,hA2,hS2,hc2,hbl2⟩:=hd;have ok2:M2.S.ok:=by rw[hS2];exact ok.acts.ok
  have hs2:=hs.chg hc2 hfar;obtain⟨b,o,rfl,hlb,hag⟩:=hs2.get (m:=13) Act'.len (rI hi8);have hfa:=hf _ (rR hi8);have e2:M.S.acts (l.take (i+1))=M2.S.act l[i]:=by rw[Cd hi8,hS2];unfold Scr.acts;rw[List.foldl_append];rfl
  obtain⟨a,ha⟩:∃a,a=l[i]:=⟨_,rfl⟩;rw[←ha] at hag hfa e2;have e1:(i:Int)+1=((i+1:Nat):Int):=O;refine si (λw'=>Did w2 s M2 w' (M2.S.act a)) ?_ ?_
  ·refine sq hag ?_;obtain⟨w3,hw3⟩:∃w3,w3=w2.alloc (.cells a.cells.toArray 89):=⟨_,rfl⟩;have hc3:Chg [] w2 w3:=by rw[hw3];exact Ar _ _
   have ha3:w3.heap[w2.heap.size]?=some (.cells a.cells.toArray 89):=by rw[hw3];exact so
   simp only[Act'.cells] at hw3;rw[←hw3];clear hw3;have hA3:=hA2.chg0 hc3;have base:∀w' T,Did w3 s M2 w' T→Did w2 s M2 w' T:=λw' T hd=>Did.trans (M1:=M2) (hc3.mono Z) (λb hb=>.inl hb) hd;obtain⟨C,hC⟩:∃C,C=M2.S.act a:=⟨_,rfl⟩;rw[←hC];unfold Scr.act at hC;refine sd (λc1=>?_) (λc1=>?_)
   ·rw[rG c1] at hC;refine sq ha3 ?_;refine td aP rfl (ee hA3 ok2 a.r) ?_;rintro v w4 hd;rw[hC];exact base _ _ hd
   rw[rF c1] at hC;refine sn ?_;refine sd (λc2=>?_) (λc2=>?_)
   ·rw[rG c2] at hC;refine sq ha3 ?_;refine td Um rfl (Vi hA3 ok2 a.r) ?_;rintro v w4 hd;rw[hC];exact base _ _ hd
   rw[rF c2] at hC;refine sn ?_;refine sd (λc3=>?_) (λc3=>?_)
   ·rw[rG c3] at hC;refine sq ha3 ?_;refine sd (λc4=>?_) (λc4=>?_)
    ·rw[rG c4] at hC;refine sq ha3 ?_;refine td fo rfl (TZ hA3 ok2 a.r) ?_;rintro v w4 hd;rw[hC];exact base _ _ hd
    ·rw[rF c4] at hC;rw[hC];exact base _ _ (Did.refl hA3)
   rw[rF c3] at hC;refine sn ?_;refine sd (λc4=>?_) (λc4=>?_)
   ·rw[rG c4] at hC;refine sq ha3 ?_;refine td WD rfl (aD hA3 ok2 a hfa) ?_;rintro v w4 hd;rw[hC];exact base _ _ hd
   rw[rF c4] at hC;rw[hC];exact base _ _ (Did.refl hA3)
  ·intro w3 hd3;refine sq e1 ?_;refine hnx (i+1) _ ⟨O,?_⟩ O;rw[e2];exact Did.trans hc2 hbl2 hd3
 ·have:i=l.length:=O;subst this;rw[List.take_length] at hd;exact hK _ _ hd
def qx:Value:=.agg #[.int .i64 0,.int .i64 0,.slice none 0 0]
def FW (W H:Nat):List Value :=
 [(.int .i64 W:Value),.int .i64 H]++Bt++Bt++[(.int .i64 0:Value),.int .i64 0,.int .i32 0,.int .u8 0,.int .u8 0,.int .u8 0,.int .i64 0,.int .i64 0,.int .i32 0,.int .u8 0,.int .u8 0,.int .u8 0,.int .i64 0,.int .i64 0,.int .i64 0,.int .i32 0,.int .u8 0,.int .u8 0,.int .u8 0,.int .i64 0,.int .i64 0]++List.replicate 200 (.bool false)++[.bool false,.bool false,.bool false,.slice none 0 0]
section
attribute [-go_sem] E0 Et
theorem VI (w:World) (W H:Nat) (W0:0<W) (W1:W≤200) (H0:0<H) (H1:H≤60):Calls Tryz.prog 156 #[.int .i64 W,.int .i64 H] w
  (Ac fun v w'=>∃s M,v=.pointer (some ⟨s,0,none⟩)∧SAt w' s M∧M.S=Scr.new W H∧Chg [] w w'∧w.heap.size≤s∧∀b∈M.blk,w.heap.size≤b):=by
 apply XS
 intro K hK
 unfold Oq
 refine OpX.call E8 rfl (Calls.ret (Ft w W H W0 W1 H0 H1) ?_)
 rintro v w1 ⟨hg,hc1⟩
 obtain⟨nb,cap,rfl,q1,q2,q3,q4⟩:=hg.sx
 simp -dsimp (disch:=first|omega|(simp only[go_sem,seval];try omega))only[go_sem,seval,Gr.val]
 refine OpX.gen fun w2 hw2=>?_
 have hc2:Chg [] w1 w2:=by rw[hw2];exact Ar _ _
 clear hw2
 have hfit:=Gr.fit_plain W0 W1 H0 H1
 refine OpX.call C8 rfl (Calls.ret (Dd hfit.ok (q4.chg0 hc2) cap q1) ?_)
 rintro v w3 ⟨rfl,hc3⟩
 simp -dsimp (disch:=first|omega|(simp only[go_sem,seval];try omega))only[go_sem,seval,hfit.r]
 refine OpX.build (c:=(FW W H).toArray) (by kernel_rfl) ?_
 show OpX Tryz.prog _ _ _ _;rw[RX]
 obtain⟨z,hz⟩:∃z,z=(Value.agg (FW W H).toArray).cells:=⟨_,rfl⟩
 rw[←hz]
 have hb:(w3.alloc (.cells z 256)).heap[w3.heap.size]?=some (.cells (FW W H).toArray 256):=by
  rw[hz]
  exact Lyc.heap_alloc_new _ _ _ rfl
 have hc4:Chg [] w w3:=(hc1.trans0 hc2).trans0 hc3
 have hc5:Chg [] w3 (w3.alloc (.cells z 256)):=Ar _ _
 have hs5:(w3.alloc (.cells z 256)).heap.size=w3.heap.size+1:=by simp -dsimp (disch:=first|omega|(simp only[go_sem,seval];try omega))only[go_sem,seval]
 have hlen:(FW W H).length=233:=by unfold FW;simp only[List.length_append,List.length_replicate,List.length_cons,List.length_nil,Bt]
 have hz3:=hc4.size
 clear hz
 refine OpX.call QB rfl (Calls.ret (L7 (W:=W) (H:=H) (rows:=[]) hb hlen rfl rfl rfl W0 W1 H0 H1 (Ox.nil _ _ _ _ _) (by simp)) ?_)
 rintro v w4 ⟨M,hA,hS,hgv,hc6,k1,k2⟩
 refine hK _ _ ⟨w3.heap.size,M,rfl,hA,?_,(hc4.trans0 hc5).trans hc6 (by simp;omega),hz3,?_⟩
 ·rw[hS,eT];rfl
 ·intro b hb
  simp only[Scm.blk,List.mem_cons] at hb
  rcases hb with rfl|rfl|hb
  ·omega
  ·omega
  ·rw[hgv] at hb;simp [Value.ownBlock] at hb
end
structure SNew (base:Nat) (w:World) (s:Nat) (W H:Nat) (M:Scm):Prop where
 at_:SAt w s M
 ok:M.S.ok
 w:M.S.w=W
 h:M.S.h=H
 gw:∀r∈M.S.gone,r.length=W
 lo:∀x∈s::M.blk,base≤x
theorem SNew.did {base:Nat} {w w':World} {s W H:Nat} {M:Scm} {T:Scr} (h:SNew base w s W H M) (hd:Did w s M w' T) (hn:Nx M.S T) (hb:base≤w.heap.size):∃M',SNew base w' s W H M'∧M'.S=T∧Chg (s::M.blk) w w'∧∀b∈M'.blk,b∈M.blk∨w.heap.size≤b:=by
 obtain⟨M',a,rfl,c,d⟩:=hd
 refine⟨M',⟨a,hn.ok,hn.w.trans h.w,hn.h.trans h.h,fun r hr=>?_,fun x hx=>?_⟩,rfl,c,d⟩
 ·rw[←h.w,←hn.w];exact hn.gw (fun r hr=>by rw[h.w];exact h.gw r hr) r hr
 ·rcases List.mem_cons.1 hx with e|hx
  ·exact h.lo x (by rw[e];simp)
  ·rcases d x hx with hx|hx
   ·exact h.lo x (by simp [hx])
   ·omega
theorem SNew.chg0 {base:Nat} {w w':World} {s W H:Nat} {M:Scm} (h:SNew base w s W H M) (hc:Chg [] w w'):SNew base w' s W H M:=⟨h.at_.chg0 hc,h.ok,h.w,h.h,h.gw,h.lo⟩
theorem VV (w:World) (W H:Nat) (W0:0<W) (W1:W≤200) (H0:0<H) (H1:H≤60):Calls Tryz.prog 156 #[.int .i64 W,.int .i64 H] w
  (Ac fun v w'=>∃s M,v=.pointer (some ⟨s,0,none⟩)∧SNew w.heap.size w' s W H M∧M.S=Scr.new W H∧Chg [] w w'):=by
 refine(VI w W H W0 W1 H0 H1).mono fun e w' h=>?_
 cases e with
 | returned v =>
  obtain⟨s,M,rfl,hA,hS,hc,h1,h2⟩:=h
  refine⟨s,M,rfl,⟨hA,by rw[hS];exact Scr.ok_new W0 W1 H0 H1,by rw[hS];rfl,by rw[hS];rfl,by rw[hS];simp [Scr.new],fun x hx=>?_⟩,hS,hc⟩
  rcases List.mem_cons.1 hx with rfl|hx
  ·exact h1
  ·exact h2 x hx
 | _=>exact h.elim
theorem SNew.gone {base:Nat} {w w':World} {s W H:Nat} {M:Scm} (h:SNew base w s W H M) (hA:SAt w' s { M with S:={ M.S with gone:=[] },gv:=.slice none 0 0,rows:=[] }):SNew base w' s W H { M with S:={ M.S with gone:=[] },gv:=.slice none 0 0,rows:=[] }:=by
 refine⟨hA,⟨h.ok.w0,h.ok.w1,h.ok.h0,h.ok.h1,h.ok.g0,h.ok.g1,h.ok.nx,h.ok.ny,h.ok.s0x,h.ok.s0y,h.ok.s1x,h.ok.s1y,h.ok.tf,h.ok.fh,h.ok.tl,by simp,by simp⟩,h.w,h.h,by simp,fun x hx=>?_⟩
 simp only[Scm.blk,Value.ownBlock,Option.toList_none,List.mem_cons,List.not_mem_nil,or_false] at hx
 rcases hx with rfl|rfl|rfl
 ·exact h.lo _ (by simp)
 ·exact h.lo _ (by simp [Scm.blk])
 ·exact h.lo _ (by simp [Scm.blk])
theorem SAt.act_off {w:World} {s:Nat} {M:Scm} (h:SAt w s M) {b0:Nat} {v:Value} {qs:List Act'} (ho:Ox b0 w 89 13 Act'.cells v qs):∀x∈s::M.blk,x∉v.ownBlock.toList:=by
 intro x hx hm
 have hm:v.ownBlock=some x:=by simpa using hm
 simp only[Scm.blk,List.mem_cons] at hx
 rcases hx with rfl|rfl|rfl|hx
 ·have hb:=h.hb
  unfold Scm.obj at hb
  exact ho.off hb rfl hm
 ·exact ho.off h.h0 rfl hm
 ·exact ho.off h.h1 rfl hm
 ·obtain⟨hl,hg⟩:=h.own
  rcases hg with ⟨hv,-⟩|⟨g,cap,cur,hv,-,hg,-⟩
  ·rw[hv] at hx;simp [Value.ownBlock] at hx
  ·rw[hv] at hx;simp [Value.ownBlock] at hx
   subst hx
   exact ho.off hg rfl hm
end Go.Proofs.YtnpkidnbhlepkaaGreat
