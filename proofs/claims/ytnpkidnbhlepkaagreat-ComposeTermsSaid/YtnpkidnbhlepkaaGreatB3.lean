/- Helpers of this claim, part 3: engine, translated functions, contracts, plain laws. -/
import Derived.Shelf.Small.Strs
import Derived.Shelf.LaysM
import Derived.Shelf.Strconv.Clone
import Derived.Shelf.Strings.Search1
import Derived.Shelf.Sort.Plain
import Derived.Shelf.Bits.Mul64
import Derived.Shelf.Slices.In.SortNone
import Derived.Test.YtnpkidnbhlepkaaGreatProg
import Derived.Test.YtnpkidnbhlepkaaGreatB1
import Derived.Laws.BytesString
import Derived.Test.YtnpkidnbhlepkaaGreatB2
import Derived.Test.YtnpkidnbhlepkaaGreatB0
import Derived.Maps.RangeRun
import Derived.Sort.OwnSortedInts
import Derived.LaidEqlPtr
import Derived.Lib.AppendStr
set_option linter.unusedSimpArgs false
set_option linter.unusedVariables false
namespace Go.Proofs
open Go.Shelf
def Tryz.lays137_ren:Go.Shelf.Ren:=⟨λ|137=>94|217=>158|266=>202|n=>n,λ|9=>9|5=>5|3=>3|n=>n,λ|n=>n⟩
theorem Tryz.lays137:Go.Proofs.Lays.n137 Tryz.prog Tryz.lays137_ren:={
 mixed:=by kernel_rfl
 f137:=Tryz.func94.trans (congrArg some (by kernel_rfl))
 f217:=Tryz.func158.trans (congrArg some (by kernel_rfl))
 f266:=Tryz.func202.trans (congrArg some (by kernel_rfl))
 t3:=Tryz.underlying3
 a3:=Tryz.isAgg3
 z3:=Tryz.sizeOf3
 v3:=Tryz.zeroValue3
 t5:=Tryz.underlying5
 a5:=Tryz.isAgg5
 z5:=Tryz.sizeOf5
 v5:=Tryz.zeroValue5
 t9:=Tryz.underlying9
 a9:=Tryz.isAgg9
 z9:=Tryz.sizeOf9
 v9:=Tryz.zeroValue9 }
open Go.RowKit in
theorem Tryz.strings_IndexByte(s:ByteArray)(c:Int)(w:World):
  Calls Tryz.prog 94 #[.string s,.int .u8 c] w λe a=>e=.returned (.int .i64 (Lib.indexByte s.data.toList c.toNat.toUInt8))∧a=w:=Any.strings_IndexByte Tryz.lays137 s c w
def Tryz.laysM316_ren:Go.Shelf.Ren:=⟨λ|316=>222|n=>n,λ|9=>9|3=>3|4=>4|37=>171|0=>0|127=>308|5=>5|n=>n,λ|n=>n⟩
theorem Tryz.laysM316:Go.Proofs.LaysM.n316 Tryz.prog Tryz.laysM316_ren:={
 mixed:=by kernel_rfl
 f316:=Tryz.func222.trans (congrArg some (by kernel_rfl))
 t0:=Tryz.underlying0
 a0:=Tryz.isAgg0
 z0:=Tryz.sizeOf0
 v0:=Tryz.zeroValue0
 t3:=Tryz.underlying3
 a3:=Tryz.isAgg3
 z3:=Tryz.sizeOf3
 v3:=Tryz.zeroValue3
 t4:=Tryz.underlying4
 a4:=Tryz.isAgg4
 z4:=Tryz.sizeOf4
 v4:=Tryz.zeroValue4
 t9:=Tryz.underlying9
 a9:=Tryz.isAgg9
 z9:=Tryz.sizeOf9
 v9:=Tryz.zeroValue9
 t37:=Tryz.underlying171
 a37:=Tryz.isAgg171
 z37:=Tryz.sizeOf171
 v37:=Tryz.zeroValue171
 t127:=Tryz.underlying308
 a127:=Tryz.isAgg308
 z127:=Tryz.sizeOf308
 v127:=Tryz.zeroValue308
 t5:=Tryz.underlying5
 a5:=Tryz.isAgg5
 z5:=Tryz.sizeOf5
 v5:=Tryz.zeroValue5
 i0:=by kernel_rfl
 i3:=by kernel_rfl
 i4:=by kernel_rfl
 i5:=by kernel_rfl
 i9:=by kernel_rfl
 i37:=by kernel_rfl
 i127:=by kernel_rfl }
open Go.RowKit in
theorem Tryz.stringslite_Clone(s:ByteArray)(w:World)(a:s.size≤281474976710656):
  Calls Tryz.prog 222 #[.string s] w λe b=>e=.returned (.string s)∧Below w.heap.size w b:=Any.stringslite_Clone Tryz.laysM316 s w a
def Tryz.lays189_ren:Go.Shelf.Ren:=⟨λ|189=>153|125=>197|257=>196|128=>238|129=>239|294=>229|295=>230|296=>231|297=>232|298=>233|299=>234|216=>235|300=>236|301=>237|328=>251|329=>252|330=>253|331=>254|332=>255|215=>256|343=>264|n=>n,λ|28=>117|3=>3|46=>30|0=>0|51=>289|53=>292|4=>4|183=>300|182=>299|131=>304|5=>5|9=>9|218=>309|222=>313|228=>320|229=>26|n=>n,λ|n=>n⟩
theorem Tryz.lays189:Go.Proofs.Lays.n189 Tryz.prog Tryz.lays189_ren:={
 mixed:=by kernel_rfl
 f125:=Tryz.func197.trans (congrArg some (by kernel_rfl))
 f128:=Tryz.func238.trans (congrArg some (by kernel_rfl))
 f129:=Tryz.func239.trans (congrArg some (by kernel_rfl))
 f189:=Tryz.func153.trans (congrArg some (by kernel_rfl))
 f215:=Tryz.func256.trans (congrArg some (by kernel_rfl))
 f216:=Tryz.func235.trans (congrArg some (by kernel_rfl))
 f257:=Tryz.func196.trans (congrArg some (by kernel_rfl))
 f294:=Tryz.func229.trans (congrArg some (by kernel_rfl))
 f295:=Tryz.func230.trans (congrArg some (by kernel_rfl))
 f296:=Tryz.func231.trans (congrArg some (by kernel_rfl))
 f297:=Tryz.func232.trans (congrArg some (by kernel_rfl))
 f298:=Tryz.func233.trans (congrArg some (by kernel_rfl))
 f299:=Tryz.func234.trans (congrArg some (by kernel_rfl))
 f300:=Tryz.func236.trans (congrArg some (by kernel_rfl))
 f301:=Tryz.func237.trans (congrArg some (by kernel_rfl))
 f328:=Tryz.func251.trans (congrArg some (by kernel_rfl))
 f329:=Tryz.func252.trans (congrArg some (by kernel_rfl))
 f330:=Tryz.func253.trans (congrArg some (by kernel_rfl))
 f331:=Tryz.func254.trans (congrArg some (by kernel_rfl))
 f332:=Tryz.func255.trans (congrArg some (by kernel_rfl))
 f343:=Tryz.func264.trans (congrArg some (by kernel_rfl))
 t0:=Tryz.underlying0
 a0:=Tryz.isAgg0
 z0:=Tryz.sizeOf0
 v0:=Tryz.zeroValue0
 t3:=Tryz.underlying3
 a3:=Tryz.isAgg3
 z3:=Tryz.sizeOf3
 v3:=Tryz.zeroValue3
 t4:=Tryz.underlying4
 a4:=Tryz.isAgg4
 z4:=Tryz.sizeOf4
 v4:=Tryz.zeroValue4
 t5:=Tryz.underlying5
 a5:=Tryz.isAgg5
 z5:=Tryz.sizeOf5
 v5:=Tryz.zeroValue5
 t9:=Tryz.underlying9
 a9:=Tryz.isAgg9
 z9:=Tryz.sizeOf9
 v9:=Tryz.zeroValue9
 t28:=Tryz.underlying117
 a28:=Tryz.isAgg117
 z28:=Tryz.sizeOf117
 v28:=Tryz.zeroValue117
 t46:=Tryz.underlying30
 a46:=Tryz.isAgg30
 z46:=Tryz.sizeOf30
 v46:=Tryz.zeroValue30
 t51:=Tryz.underlying289
 a51:=Tryz.isAgg289
 z51:=Tryz.sizeOf289
 v51:=Tryz.zeroValue289
 t53:=Tryz.underlying292
 a53:=Tryz.isAgg292
 z53:=Tryz.sizeOf292
 v53:=Tryz.zeroValue292
 t131:=Tryz.underlying304
 a131:=Tryz.isAgg304
 z131:=Tryz.sizeOf304
 v131:=Tryz.zeroValue304
 t182:=Tryz.underlying299
 a182:=Tryz.isAgg299
 z182:=Tryz.sizeOf299
 v182:=Tryz.zeroValue299
 t183:=Tryz.underlying300
 a183:=Tryz.isAgg300
 z183:=Tryz.sizeOf300
 v183:=Tryz.zeroValue300
 t218:=Tryz.underlying309
 a218:=Tryz.isAgg309
 z218:=Tryz.sizeOf309
 v218:=Tryz.zeroValue309
 t222:=Tryz.underlying313
 a222:=Tryz.isAgg313
 z222:=Tryz.sizeOf313
 v222:=Tryz.zeroValue313
 t228:=Tryz.underlying320
 a228:=Tryz.isAgg320
 z228:=Tryz.sizeOf320
 v228:=Tryz.zeroValue320
 t229:=Tryz.underlying26
 a229:=Tryz.isAgg26
 z229:=Tryz.sizeOf26
 v229:=Tryz.zeroValue26 }
open Go.Sort Go.RowKit in
theorem Tryz.slices_Sort_int(blk off cap:Nat)(zs:List Int)(w:World)(a:Holds (Value.int .i64) w blk off zs.toArray)(b:blk<w.heap.size)(c:zs.length<4611686018427387904):
  Calls Tryz.prog 153 #[.slice (some ⟨blk,off,none⟩) zs.length cap] w λe d =>
   e=.returned (.tuple #[])∧∃n f,d=grow (putRow (Value.int .i64) (Sort.ahead w n) blk off (zs.mergeSort λx y=>decide (x≤y)).toArray) f:=Any.slices_Sort_int Tryz.lays189 blk off cap zs w a b c
open Go.RowKit Go.Sort in
theorem Tryz.slices_Sort_int_none(p:Option Addr)(cap:Nat)(w:World):
  Calls Tryz.prog 153 #[.slice p 0 cap] w λe a=>e=.returned (.tuple #[])∧a=w:=Any.slices_Sort_int_none Tryz.lays189 p cap w
end Go.Proofs
namespace Lyc
open Go
section
variable {P:Program}
def Aq(l:List UInt8):ByteArray:=⟨l.toArray⟩
def BC(b:UInt8):List Value:=[.int .u8 b.toNat]
theorem Ny(b:UInt8):(BC b).length=1:=rfl
theorem Ml(b:UInt8):AV (BC b)=true:=rfl
theorem Qz(l:List UInt8):l.flatMap BC=l.map λb=>.int .u8 b.toNat:=by
 induction l with
 | nil=>rfl
 | cons b l a=>simp [BC,a]
@[go_sem] theorem GV(l:List UInt8):(Aq l).size=l.length:=by simp [Aq,ByteArray.size]
@[go_sem] theorem Qp(l:List UInt8):(Aq l).toList=l:=by rw[ByteArray.toList_eq];rfl
theorem cf(s:ByteArray):Aq s.toList=s:=by
 rw[ByteArray.toList_eq];rfl
@[go_sem] theorem kU(a b:List UInt8):Aq a++Aq b=Aq (a++b):=by
 apply ByteArray.ext;simp [Aq]
theorem Yr(l:List UInt8):∀(a:List UInt8),((l.map λb:UInt8=>(b.toNat:Int)).foldl (λ(r:ByteArray) n=>r.push (UInt8.ofNat n.toNat)) (Aq a))=Aq (a++l):=by
 induction l with
 | nil=>intro a;simp
 | cons b l c =>
  intro a;simp only[List.map_cons,List.foldl_cons];have:(Aq a).push (UInt8.ofNat ((b.toNat:Int)).toNat)=Aq (a++[b]):=by
   apply ByteArray.ext;simp [Aq]
  rw[this,c];simp
def IJ(P:Program)(t:TypeId):Bool:=match P.underlying t with|some (.slice e)=>(match P.underlying e with|some (.int .u8)=>true|_=>false)|_=>false
theorem WY{t:TypeId}(h:IJ P t=true):∃e,P.underlying t=some (.slice e)∧P.underlying e=some (.int .u8):=by
 unfold IJ at h;split at h
 ·rename_i e a;split at h
  ·rename_i b;exact⟨e,a,b⟩
  ·simp at h
 ·simp at h
theorem KE{s d f:TypeId}{a:Option Addr}{l:List UInt8}{c:Nat}{e:Option TypeId}{K:Value→World→Prop}{w:World}(g:IJ P s=true)(i:Ae P d=some 3)(h:Sx w e BC a l):
  OpX P (.convert s d (.const (.slice a l.length c))) f K w=K (.string (Aq l)) w:=by
 obtain⟨j,k,m⟩:=WY g;refine Bc λρ n=>?_;simp only[execOp,Ap,n.1,Sem.run_bind];rw[run_convert_bytes_string w s d j a l.length c k m (FR i)];have p:(Conv.bytesToString (.slice a l.length c)).run P w=.ok (.string (Aq l)) w:=by
  cases a with
  | none =>
   have q:l=[]:=by
    cases l with
    | nil=>rfl
    | cons x l=>obtain⟨b,o,_,_,_,_,_,h,_⟩:=h.at_ Z;simp at h
   subst q;simp [Conv.bytesToString];rfl
  | some r =>
   have q:(loadCells r l.length).run P w=.ok ((l.map λb:UInt8=>(b.toNat:Int)).map (Value.int .u8)).toArray w:=by
    by_cases t:l=[]
    ·subst t;simp [loadCells,loadCellsFrom]
    ·obtain⟨b,o,u,y,z,A,B,C,D,E,F,G⟩:=h.at_ t;cases C;have:=run_loadCells_list (P:=P) w ⟨b,o,none⟩ (l.flatMap BC) (λj v H=>by
      rw[CF,cell?_at,D,F,Cp];have I:=(rO.1 H).1;rw[List.getElem?_toArray,rJ,rK O,rL O];rw[←H];congr 1;omega)
     rw[Qz] at this;simpa [Function.comp_def] using this
   rw[run_bytesToString w r l.length c _ q];have:=Yr l [];rw[show(ByteArray.empty)=Aq [] from rfl,this];simp
 rw[p];rfl
end
end Lyc
namespace Go.Proofs.YtnpkidnbhlepkaaGreat
open Lyc Go Go.Proofs.Tryz
def Cx(r:Int):List Value:=[.int .i32 r]
theorem OS(r:Int):(Cx r).length=1:=rfl
theorem RH(r:Int):AV (Cx r)=true:=rfl
def asc(r:Int):Prop:=0≤r∧r≤127
instance (r:Int):Decidable (asc r):=by unfold asc;infer_instance
def lS(r:Int):UInt8:=UInt8.ofNat r.toNat
def shown(l:List Cel):List Int:=l.filterMap λc=>if c.check then(if c.tail then none else some c.r) else some 63
def pC(l:List Int):List Int:=(l.reverse.dropWhile (· == 32)).reverse
structure Tm where
 s:Nat
 h:Nat
 kept:List UInt8
 E:Esc
@[go_sem] def Tm.obj(T:Tm):Obj:=.cells #[.pointer (some ⟨T.s,0,none⟩),.string (Aq T.kept),.int .i64 T.E.inn,.int .u8 T.E.priv,.int .u8 T.E.mid,.int .i64 T.E.n,.int .i64 (T.E.nums.getD 0 0),.int .i64 (T.E.nums.getD 1 0),.int .i64 (T.E.nums.getD 2 0),.int .i64 (T.E.nums.getD 3 0),.int .i64 (T.E.nums.getD 4 0),.int .i64 (T.E.nums.getD 5 0),.int .i64 (T.E.nums.getD 6 0),.int .i64 (T.E.nums.getD 7 0),.pointer (some ⟨T.h,0,none⟩)] 207
theorem Cb{w:World}{t:Nat}(o:Obj)(a:t<w.heap.size):(Ab w t o).heap[t]?=some o:=Aw _ _ _ _ rfl a
theorem Fq{w:World}{t:Nat}{T:Tm}(h:w.heap[t]?=some T.obj):Calls prog 218 #[.pointer (some ⟨t,2,none⟩)] w
  (Ac λ_ a=>a.heap[t]?=some ({ T with E:=Esc.new }:Tm).obj∧Chg [t] w a):=by
 have b:=Aa h;apply Xf;intro K c;unfold Q3;refine sq h ?_;refine c _ _ ⟨?_,(sg _ _).set _ _ (.inl Z)⟩;rw[Cb _ b];rfl
def Gz(t:Nat)(T:Tm)(p:Esc × Option Act')(w:World)(v:Value)(w':World):Prop:=
 v=.tuple #[(p.2.getD noA).val,.bool p.2.isSome]∧w'.heap[t]?=some ({ T with E:=p.1 }:Tm).obj∧Chg [t] w w'
structure EscR (t z:Nat) (T:Tm) (p:Esc × Option Act') (w w4:World):Prop where
 a:w4.heap[t]?=some ({ T with E:=p.1 }:Tm).obj
 b:w4.heap[z]?=some (.cells noA.cells.toArray 89)
 c:Chg [t] w w4
 d:p.2=none
theorem UU{w:World}{t:Nat}{T:Tm}(h:w.heap[t]?=some T.obj)(r:Int):Calls prog 219 #[.pointer (some ⟨t,2,none⟩),.int .i32 r] w
  (Ac (Gz t T (T.E.escape r) w)):=by
 have hl:=Aa h;apply Ud;intro K hK;unfold O2;refine sq h ?_;obtain⟨w1,hw1⟩:∃w1,w1=w.alloc (.cells noA.cells.toArray 89):=⟨_,rfl⟩;have hc1:Chg [] w w1:=by rw[hw1];exact Ar _ _
 have ho1:w1.heap[w.heap.size]?=some (.cells noA.cells.toArray 89):=by rw[hw1];exact so
 simp only[noA,Act'.cells] at hw1;rw[←hw1];clear hw1;have h1:=hc1.keep h Z;have hl1:=Aa h1;have hlo:=Aa ho1;obtain⟨p,hp⟩:∃p,p=T.E.escape r:=⟨_,rfl⟩;rw[←hp] at hK;unfold Esc.escape at hp;have fin:∀w4:World,w4.heap[t]?=some ({ T with E:=p.1 }:Tm).obj→w4.heap[w.heap.size]?=some (.cells noA.cells.toArray 89)→Chg [t] w w4→p.2=none →
   OpX prog (.build 89 #[]) 89 (λt76=>xS 89 (.pointer (some ⟨w.heap.size,0,none⟩)) t76 (xD 89 (.pointer (some ⟨w.heap.size,0,none⟩)) λt4_1=>K (.tuple #[t4_1,.bool false]))) w4:=by
  intro w4 a b c d;have hl4:=Aa b;simp -dsimp (disch:=first|omega|(simp only[go_sem,seval];try omega))only[go_sem,seval,b,noA];refine hK _ _ ⟨by rw[d];rfl,?_,c.set _ _ (.inr (rH _))⟩;rw[A5 _ _ _ _ O];exact a
 have chS:∀o:Obj,Chg [t] w (Ab w1 t o):=λo=>(hc1.mono Z).set _ _ (.inl Z);have keS:∀o:Obj,(Ab w1 t o).heap[w.heap.size]?=some (.cells noA.cells.toArray 89):=λo=>by rw[A5 _ _ _ _ O];exact ho1
 refine si (EscR t w.heap.size T p w) ?_ (λw4 ⟨a,b,c,d⟩=>fin w4 a b c d);refine sh (λv w'=>v=.bool (decide (r≤47∧T.E.mid=0))∧w'=w1) ?_ ?_
 ·refine sn ?_;refine sd (λg=>?_) (λg=>⟨sv O,rfl⟩);refine sn ?_;exact sw ⟨λh=>⟨g,h⟩,λh=>h.2⟩
 rintro v w2 ⟨rfl,rfl⟩;refine sd (λg1=>?_) (λg1=>?_)
 ·rw[rG g1] at hp;subst hp;refine sq h1 ?_;exact⟨Cb _ hl1,keS _,chS _,rfl⟩
 rw[rF g1] at hp;refine sn ?_;refine sd (λg2=>?_) (λg2=>?_)
 ·rw[rG g2] at hp;subst hp;refine sq h1 ?_;exact⟨Cb _ hl1,keS _,chS _,rfl⟩
 rw[rF g2] at hp;refine sh (λv w'=>v=.bool (decide (r=91∧T.E.mid=0))∧w'=w2) ?_ ?_
 ·refine sn ?_;refine sd (λg=>?_) (λg=>⟨sv O,rfl⟩);refine sn ?_;exact sw ⟨λh=>⟨g,h⟩,λh=>h.2⟩
 rintro v w3 ⟨rfl,rfl⟩;refine sd (λg3=>?_) (λg3=>?_)
 ·rw[rG g3] at hp;subst hp;refine sq h1 ?_;exact⟨Cb _ hl1,keS _,chS _,rfl⟩
 rw[rF g3] at hp;refine sh (λv w'=>v=.bool (decide ((r=80∨r=88∨93≤r∧r≤95)∧T.E.mid=0))∧w'=w3) ?_ ?_
 ·have fa:¬((r=80∨r=88∨93≤r∧r≤95)∧T.E.mid=0)→Value.bool false=Value.bool (decide ((r=80∨r=88∨93≤r∧r≤95)∧T.E.mid=0))∧w3=w3:=λh=>⟨sv h,rfl⟩;have md:(r=80∨r=88∨93≤r∧r≤95)→Value.bool (decide (T.E.mid=0))=Value.bool (decide ((r=80∨r=88∨93≤r∧r≤95)∧T.E.mid=0)):=λh=>sw ⟨λk=>⟨h,k⟩,λk=>k.2⟩;refine sn ?_;refine sd (λg=>?_) (λg=>?_)
  ·refine sn ?_;exact md O
  refine sn ?_;refine sd (λg'=>?_) (λg'=>?_)
  ·refine sn ?_;exact md O
  refine sn ?_;refine sd (λg4=>?_) (λg4=>fa O);refine sn ?_;refine sd (λg5=>?_) (λg5=>fa O);refine sn ?_;exact md O
 rintro v w4 ⟨rfl,rfl⟩;refine sd (λg4=>?_) (λg4=>?_)
 ·rw[rG g4] at hp;subst hp;refine sq h1 ?_;exact⟨Cb _ hl1,keS _,chS _,rfl⟩
 rw[rF g4] at hp;refine sh (λv w'=>v=.bool (decide (r≤126∧T.E.mid≠255))∧w'=w4) ?_ ?_
 ·refine sn ?_;refine sd (λg=>?_) (λg=>⟨sv O,rfl⟩);refine sn ?_;exact sw ⟨λh=>⟨g,h⟩,λh=>h.2⟩
 rintro v w5 ⟨rfl,rfl⟩;refine sd (λg5=>?_) (λg5=>?_)
 ·rw[rG g5] at hp;subst hp;refine td Fm rfl (Fq h1) ?_;rintro v w6 ⟨h6,hc6⟩;have ho6:=hc6.keep ho1 (by simp;omega);have hl6:=Aa ho6;simp -dsimp (disch:=first|omega|(simp only[go_sem,seval];try omega))only[go_sem,seval,ho6,noA];refine hK _ _ ⟨rfl,?_,((hc1.mono Z).trans hc6 Z).set _ _ (.inr (rH _))⟩;rw[A5 _ _ _ _ O];exact h6
 ·rw[rF g5] at hp;subst hp;refine td Fm rfl (Fq h1) ?_;rintro v w6 ⟨h6,hc6⟩;exact⟨h6,hc6.keep ho1 (by simp;omega),(hc1.mono Z).trans hc6 Z,rfl⟩
set_option maxHeartbeats 1000000 in
theorem ZA{w:World}{t:Nat}{T:Tm}(h:w.heap[t]?=some T.obj)(ok:T.E.ok)(r:Int)(hr:Bf r):Calls prog 220 #[.pointer (some ⟨t,2,none⟩),.int .i32 r] w
  (Ac (Gz t T (T.E.control r) w)):=by
 have hl:=Aa h;have hr0:=hr.1;have hr1:=hr.2;apply bW;intro K hK;unfold Sb;refine sn ?_;obtain⟨w1,hw1⟩:∃w1,w1=w.alloc (.cells noA.cells.toArray 89):=⟨_,rfl⟩;have hc1:Chg [] w w1:=by rw[hw1];exact Ar _ _
 have ho1:w1.heap[w.heap.size]?=some (.cells noA.cells.toArray 89):=by rw[hw1];exact so
 simp only[noA,Act'.cells] at hw1;rw[←hw1];clear hw1;have h1:=hc1.keep h Z;have hl1:=Aa h1;have hlo:=Aa ho1;have hz1:=hc1.size;obtain⟨p,hp⟩:∃p,p=T.E.control r:=⟨_,rfl⟩;rw[←hp] at hK;unfold Esc.control at hp;have fin:∀w4:World,EscR t w.heap.size T p w w4 →
   OpX prog (.build 89 #[]) 89 (λt76=>xS 89 (.pointer (some ⟨w.heap.size,0,none⟩)) t76 (xD 89 (.pointer (some ⟨w.heap.size,0,none⟩)) λt4_1=>K (.tuple #[t4_1,.bool false]))) w4:=by
  rintro w4 ⟨a,b,c,d⟩;have hl4:=Aa b;simp -dsimp (disch:=first|omega|(simp only[go_sem,seval];try omega))only[go_sem,seval,b,noA];refine hK _ _ ⟨by rw[d];rfl,?_,c.set _ _ (.inr (rH _))⟩;rw[A5 _ _ _ _ O];exact a
 have chS:∀o:Obj,Chg [t] w (Ab w1 t o):=λo=>(hc1.mono Z).set _ _ (.inl Z);have keS:∀o:Obj,(Ab w1 t o).heap[w.heap.size]?=some (.cells noA.cells.toArray 89):=λo=>by rw[A5 _ _ _ _ O];exact ho1
 refine si (EscR t w.heap.size T p w) ?_ (λw4 hw4=>fin w4 hw4);refine sh (λv w'=>v=.bool (decide (48≤r∧r≤57∧T.E.mid=0))∧w'=w1) ?_ ?_
 ·refine sn ?_;refine sd (λg=>?_) (λg=>⟨sv O,rfl⟩);refine sn ?_;refine sd (λg'=>?_) (λg'=>⟨sv O,rfl⟩);refine sq h1 ?_;exact sw ⟨λh=>⟨g,g',h⟩,λh=>h.2.2⟩
 rintro v w2 ⟨rfl,rfl⟩;refine sd (λg1=>?_) (λg1=>?_)
 ·rw[rG g1] at hp;obtain⟨ts,th,kept,inn,priv,mid,n,nums⟩:=T;have hlen:nums.length=8:=ok.len;have hnk:∀x∈nums,0≤x∧x≤9999:=ok.k;have hn9:n≤9:=ok.n9
  match nums,hlen with
  | [n0,n1,n2,n3,n4,n5,n6,n7],_ =>
  have k0:=hnk n0 Z;have k1:=hnk n1 Z;have k2:=hnk n2 Z;have k3:=hnk n3 Z;have k4:=hnk n4 Z;have k5:=hnk n5 Z;have k6:=hnk n6 Z;have k7:=hnk n7 Z;dsimp only at hp;refine sq h1 ?_;refine sd (λg2=>?_) (λg2=>?_)
  ·rw[rG g2] at hp;have hm:max n 1=1∨max n 1=2∨max n 1=3∨max n 1=4∨max n 1=5∨max n 1=6∨max n 1=7∨max n 1=8:=O;rcases hm with hm|hm|hm|hm|hm|hm|hm|hm
   all_goals
    rw[hm] at hp ⊢;subst hp;simp only[List.getD_cons_zero,List.getD_cons_succ];refine sn ?_;exact⟨Cb _ hl1,keS _,(chS _).drew,rfl⟩
  ·rw[rF g2] at hp;subst hp;exact⟨Cb _ hl1,keS _,chS _,rfl⟩
 rw[rF g1] at hp;refine sh (λv w'=>v=.bool (decide ((r=58∨r=59)∧T.E.mid=0))∧w'=w2) ?_ ?_
 ·refine sn ?_;refine sd (λg=>?_) (λg=>?_)
  ·refine sq h1 ?_;exact sw ⟨λh=>⟨.inl g,h⟩,λh=>h.2⟩
  refine sn ?_;refine sd (λg'=>?_) (λg'=>⟨sv O,rfl⟩);refine sq h1 ?_;exact sw ⟨λh=>⟨.inr g',h⟩,λh=>h.2⟩
 rintro v w3 ⟨rfl,rfl⟩;refine sd (λg2=>?_) (λg2=>?_)
 ·rw[rG g2] at hp;subst hp;have n0:=ok.n0;have n9:=ok.n9;refine sq h1 ?_;exact⟨Cb _ hl1,keS _,chS _,rfl⟩
 rw[rF g2] at hp;refine sh (λv w'=>v=.bool (decide (60≤r∧r≤63∧T.E.priv=0∧T.E.mid=0∧T.E.n=0))∧w'=w3) ?_ ?_
 ·have fa:¬(60≤r∧r≤63∧T.E.priv=0∧T.E.mid=0∧T.E.n=0)→Value.bool false=Value.bool (decide (60≤r∧r≤63∧T.E.priv=0∧T.E.mid=0∧T.E.n=0))∧w3=w3:=λh=>⟨sv h,rfl⟩;refine sn ?_;refine sd (λa1=>?_) (λa1=>fa O);refine sn ?_;refine sd (λa2=>?_) (λa2=>fa O);refine sq h1 ?_;refine sd (λa3=>?_) (λa3=>fa O);refine sq h1 ?_;refine sd (λa4=>?_) (λa4=>fa O);refine sq h1 ?_;exact sw ⟨λh=>⟨a1,a2,a3,a4,h⟩,λh=>h.2.2.2.2⟩
 rintro v w4 ⟨rfl,rfl⟩;refine sd (λg3=>?_) (λg3=>?_)
 ·rw[rG g3] at hp;subst hp;refine sq h1 ?_;exact⟨Cb _ hl1,keS _,chS _,rfl⟩
 rw[rF g3] at hp;refine sh (λv w'=>v=.bool (decide (r≤47∧T.E.mid=0))∧w'=w4) ?_ ?_
 ·refine sn ?_;refine sd (λg=>?_) (λg=>⟨sv O,rfl⟩);refine sq h1 ?_;exact sw ⟨λh=>⟨g,h⟩,λh=>h.2⟩
 rintro v w5 ⟨rfl,rfl⟩;refine sd (λg4=>?_) (λg4=>?_)
 ·rw[rG g4] at hp;subst hp;refine sq h1 ?_;exact⟨Cb _ hl1,keS _,chS _,rfl⟩
 rw[rF g4] at hp;refine sh (λv w'=>v=.bool (decide (64≤r∧r≤126))∧w'=w5) ?_ ?_
 ·refine sn ?_;refine sd (λg=>?_) (λg=>⟨sv O,rfl⟩);refine sn ?_;exact sw ⟨λh=>⟨g,h⟩,λh=>h.2⟩
 rintro v w6 ⟨rfl,rfl⟩;refine sd (λg5=>?_) (λg5=>?_)
 ·rw[rG g5] at hp;subst hp;have n0:=ok.n0;have n9:=ok.n9;refine sn ?_;refine sh (λv w'=>v=.pointer (some ⟨w6.heap.size,0,none⟩)∧w'.heap[w6.heap.size]?=some (.cells (BQ 4 r T.E.priv T.E.mid (min T.E.n 8) T.E.nums).cells.toArray 89)∧Chg [] w6 w') ?_ ?_
  ·simp -dsimp (maxSteps:=4000000) (disch:=first|omega|(simp only[go_sem,seval];try omega))only[go_sem,seval,h1];exact⟨rfl,(Ar _ _).drew⟩
  rintro v w7 ⟨rfl,hA7,hc7⟩;have h7:=hc7.keep h1 Z;have ho7:=hc7.keep ho1 Z;refine td Fm rfl (Fq h7) ?_;rintro v w8 ⟨h8,hc8⟩;have ho8:=hc8.keep ho7 (by simp;omega);have hA8:=hc8.keep hA7 (by simp;omega);have hl8:=Aa ho8;simp -dsimp (disch:=first|omega|(simp only[go_sem,seval];try omega))only[go_sem,seval,hA8,ho8,noA];refine hK _ _ ⟨rfl,?_,(((hc1.trans0 hc7).mono Z).trans hc8 Z).set _ _ (.inr (rH _))⟩;rw[A5 _ _ _ _ O];exact h8
 ·rw[rF g5] at hp;subst hp;refine sq h1 ?_;exact⟨Cb _ hl1,keS _,chS _,rfl⟩
theorem ZP{w:World}{t:Nat}{T:Tm}(h:w.heap[t]?=some T.obj)(ok:T.E.ok)(r:Int)(hr:Bf r):Calls prog 168 #[.pointer (some ⟨t,2,none⟩),.int .i32 r] w
  (Ac (Gz t T (T.E.step r) w)):=by
 have hl:=Aa h;have hr0:=hr.1;have hr1:=hr.2;apply jZ;intro K hK;unfold MQ;refine sn ?_;obtain⟨w1,hw1⟩:∃w1,w1=w.alloc (.cells noA.cells.toArray 89):=⟨_,rfl⟩;have hc1:Chg [] w w1:=by rw[hw1];exact Ar _ _
 have ho1:w1.heap[w.heap.size]?=some (.cells noA.cells.toArray 89):=by rw[hw1];exact so
 simp only[noA,Act'.cells] at hw1;rw[←hw1];clear hw1;have h1:=hc1.keep h Z;have hl1:=Aa h1;have hlo:=Aa ho1;have hz1:=hc1.size;obtain⟨p,hp⟩:∃p,p=T.E.step r:=⟨_,rfl⟩;rw[←hp] at hK;unfold Esc.step at hp;have fin:∀w4:World,EscR t w.heap.size T p w w4 →
   OpX prog (.build 89 #[]) 89 (λt76=>xS 89 (.pointer (some ⟨w.heap.size,0,none⟩)) t76 (xD 89 (.pointer (some ⟨w.heap.size,0,none⟩)) λt4_1=>K (.tuple #[t4_1,.bool false]))) w4:=by
  rintro w4 ⟨a,b,c,d⟩;have hl4:=Aa b;simp -dsimp (disch:=first|omega|(simp only[go_sem,seval];try omega))only[go_sem,seval,b,noA];refine hK _ _ ⟨by rw[d];rfl,?_,c.set _ _ (.inr (rH _))⟩;rw[A5 _ _ _ _ O];exact a
 have chS:∀o:Obj,Chg [t] w (Ab w1 t o):=λo=>(hc1.mono Z).set _ _ (.inl Z);have keS:∀o:Obj,(Ab w1 t o).heap[w.heap.size]?=some (.cells noA.cells.toArray 89):=λo=>by rw[A5 _ _ _ _ O];exact ho1
 have same:p=(T.E,none)→EscR t w.heap.size T p w w1:=λe=>by subst e;exact⟨h1,ho1,hc1.mono Z,rfl⟩
 have tell:∀(a:Act') (w4:World),p=(T.E,some a)→w4.heap[t]?=some T.obj→Chg [t] w w4→K (.tuple #[a.val,.bool true]) w4:=λa w4 e b c=>hK _ _ ⟨by rw[e];rfl,by rw[e];exact b,c⟩;have rst:∀(w4:World),(w4.heap[t]?=some ({ T with E:=Esc.new }:Tm).obj∧Chg [t] w1 w4)→p=(Esc.new,none)→EscR t w.heap.size T p w w4:=λw4 h4 e=>by
  subst e;exact⟨h4.1,h4.2.keep ho1 (by simp;omega),(hc1.mono Z).trans h4.2 Z,rfl⟩
 refine sd (λg1=>?_) (λg1=>?_)
 ·rw[rG g1] at hp;simp -dsimp (disch:=first|omega|(simp only[go_sem,seval];try omega))only[go_sem,seval,h1,ho1,noA];refine hK _ _ ⟨by rw[hp];rfl,?_,(chS _).set _ _ (.inr (rH _))⟩;rw[A5 _ _ _ _ O,Cb _ hl1,hp];rfl
 rw[rF g1] at hp;refine sh (λv w'=>v=.bool (decide (r=24∨r=26))∧w'=w1) ?_ ?_
 ·refine sn ?_;refine sd (λg=>⟨su O,rfl⟩) (λg=>?_);refine sn ?_;exact sw ⟨λh=>.inr h,λh=>O⟩
 rintro v w2 ⟨rfl,rfl⟩;refine sd (λg2=>?_) (λg2=>?_)
 ·rw[rG g2] at hp;refine td Fm rfl (Fq h1) ?_;rintro v w3 h3;exact fin _ (rst _ h3 hp)
 rw[rF g2] at hp;refine sh (λv w'=>v=.bool (decide (r<0∨127≤r∧r≤159∨1114111<r))∧w'=w2) ?_ ?_
 ·have tr:(r<0∨127≤r∧r≤159∨1114111<r)→Value.bool true=Value.bool (decide (r<0∨127≤r∧r≤159∨1114111<r))∧w2=w2:=λh=>⟨su h,rfl⟩;refine sn ?_;refine sd (λa1=>tr O) (λa1=>?_);refine sn ?_;refine sd (λa2=>?_) (λa2=>?_)
  ·refine sn ?_;refine sd (λa3=>tr O) (λa3=>?_);refine sn ?_;exact sw ⟨λh=>O,λh=>O⟩
  ·refine sn ?_;exact sw ⟨λh=>O,λh=>O⟩
 rintro v w3 ⟨rfl,rfl⟩;refine sd (λg3=>?_) (λg3=>?_)
 ·rw[rG g3] at hp;exact fin _ (same hp)
 rw[rF g3] at hp;refine sh (λv w'=>v=.bool (decide (r<32∧T.E.inn=4))∧w'=w3) ?_ ?_
 ·refine sn ?_;refine sd (λg=>?_) (λg=>⟨sv O,rfl⟩);refine sq h1 ?_;exact sw ⟨λh=>⟨g,h⟩,λh=>h.2⟩
 rintro v w4 ⟨rfl,rfl⟩;refine sd (λg4=>?_) (λg4=>?_)
 ·rw[rG g4] at hp;refine si (EscR t w.heap.size T p w) ?_ (λw5 hw5=>fin w5 hw5);refine sn ?_;refine sd (λg5=>?_) (λg5=>?_)
  ·rw[rG g5] at hp;refine td Fm rfl (Fq h1) ?_;rintro v w5 h5;exact rst _ h5 hp
  ·rw[rF g5] at hp;exact same hp
 rw[rF g4] at hp;refine sn ?_;refine sd (λg5=>?_) (λg5=>?_)
 ·rw[rG g5] at hp;simp -dsimp (disch:=first|omega|(simp only[go_sem,seval];try omega))only[go_sem,seval,noA,ho1];refine tell (BQ 2 r 0 0 0 C5) _ hp ?_ ((hc1.mono Z).set _ _ (.inr (rH _)));rw[A5 _ _ _ _ O];exact h1
 rw[rF g5] at hp;refine si (EscR t w.heap.size T p w) ?_ (λw5 hw5=>fin w5 hw5);refine sq h1 ?_;refine sd (λg6=>?_) (λg6=>?_)
 ·rw[rG g6] at hp;simp -dsimp (disch:=first|omega|(simp only[go_sem,seval];try omega))only[go_sem,seval,noA,ho1];refine tell (BQ 1 r 0 0 0 C5) _ hp ?_ ((hc1.mono Z).set _ _ (.inr (rH _)));rw[A5 _ _ _ _ O];exact h1
 rw[rF g6] at hp;have told:∀(q:Esc × Option Act') (w5:World) (v:Value),p=q→Gz t T q w4 v w5→∃a:Act',v=.tuple #[a.val,.bool q.2.isSome]∧K v (Ab w5 w.heap.size (.cells a.cells.toArray 89)):=by
  rintro q w5 v rfl ⟨rfl,b,c⟩;have hb5:=c.keep ho1 (by simp;omega);refine⟨p.2.getD noA,rfl,hK _ _ ⟨rfl,?_,((hc1.mono Z).trans c Z).set _ _ (.inr (rH _))⟩⟩;rw[A5 _ _ _ _ O];exact b
 refine sn ?_;refine sd (λg7=>?_) (λg7=>?_)
 ·rw[rG g7] at hp;refine td eB rfl (UU h1 r) ?_;rintro v w5 hs;have hb5:=hs.2.2.keep ho1 (by simp;omega);obtain⟨a,rfl,hk⟩:=told _ w5 v hp hs;have hl5:=Aa hb5;simp -dsimp (disch:=first|omega|(simp only[go_sem,seval];try omega))only[go_sem,seval,hb5,noA];exact hk
 rw[rF g7] at hp;refine sn ?_;refine sd (λg8=>?_) (λg8=>?_)
 ·rw[rG g8] at hp;refine td X4 rfl (ZA h1 ok r hr) ?_;rintro v w5 hs;have hb5:=hs.2.2.keep ho1 (by simp;omega);obtain⟨a,rfl,hk⟩:=told _ w5 v hp hs;have hl5:=Aa hb5;simp -dsimp (disch:=first|omega|(simp only[go_sem,seval];try omega))only[go_sem,seval,hb5,noA];exact hk
 rw[rF g8] at hp;refine sn ?_;refine sd (λg9=>?_) (λg9=>?_)
 ·rw[rG g9] at hp;refine sh (λv w'=>v=.bool (decide (64≤r∧r≤126))∧w'=w4) ?_ ?_
  ·refine sn ?_;refine sd (λg=>?_) (λg=>⟨sv O,rfl⟩);refine sn ?_;exact sw ⟨λh=>⟨g,h⟩,λh=>h.2⟩
  rintro v w5 ⟨rfl,rfl⟩;refine sd (λg10=>?_) (λg10=>?_)
  ·rw[rG g10] at hp;refine td Fm rfl (Fq h1) ?_;rintro v w6 h6;exact rst _ h6 hp
  ·rw[rF g10] at hp;exact same hp
 ·rw[rF g9] at hp;exact same hp
theorem UR{w:World}{t:Nat}{T:Tm}(h:w.heap[t]?=some T.obj)(ok:T.E.ok){e:Option TypeId}{a:Option Addr}{l:List Int}(hs:Sx w e Cx a l)(hp:∀b o,a=some ⟨b,o,none⟩→l≠[]→b≠t)(cap:Nat)(hl:l.length≤1000000)(hr:∀x∈l,Bf x):
  Calls prog 107 #[.pointer (some ⟨t,2,none⟩),.slice a l.length cap] w
  (Ac λv w'=>Ox w.heap.size w' 89 13 Act'.cells v (T.E.feed l).2∧w'.heap[t]?=some ({ T with E:=(T.E.feed l).1 }:Tm).obj∧Chg [t] w w'):=by
 have hlp:=Aa h;apply jQ;intro K hK;unfold L3;refine sn ?_;refine Loop2.st (λs:Nat × Value=>s.2) (λs=>.int .i64 s.1) (λs w'=>s.1≤l.length∧Ox w.heap.size w' 89 13 Act'.cells s.2 (T.E.feed (l.take s.1)).2∧w'.heap[t]?=some ({ T with E:=(T.E.feed (l.take s.1)).1 }:Tm).obj∧Chg [t] w w') (λs=>l.length-s.1) (0,.slice none 0 0) rfl rfl ⟨Z,Ox.nil _ _ _ _ _,h,sg _ _⟩ ?_;rintro next ⟨k,v⟩ w' hn ⟨hk,ho,hb',hc⟩
 dsimp only at hk ho hb' ⊢;refine sn ?_;refine sd (λh1=>?_) (λh1=>?_)
 ·have hk':k<l.length:=O;obtain⟨b,o,rfl,hbl,hcell⟩:=(hs.chg hc (λb o ha hne=>by simp;exact hp b o ha hne)).get1 (g:=λn=>.int .i32 n) (λ_=>rfl) (rI hk');have hrr:=hr _ (rR hk');obtain⟨okE,-,hlq⟩:=Esc.feed_ok ok (l:=l.take k) (λx hx=>hr x (List.mem_of_mem_take hx));have hlq':(T.E.feed (l.take k)).2.length≤1000000:=by rw[List.length_take] at hlq;omega
  have hfe:T.E.feed (l.take (k+1))=(((T.E.feed (l.take k)).1.step l[k]).1,(T.E.feed (l.take k)).2++((T.E.feed (l.take k)).1.step l[k]).2.toList):=by
   rw[Cd hk',Esc.feed_append];simp [Esc.feed]
  obtain⟨F,hF⟩:∃F,F=T.E.feed (l.take k):=⟨_,rfl⟩;rw[←hF] at ho hb' okE hfe hlq';obtain⟨p,hpp⟩:∃p,p=F.1.step l[k]:=⟨_,rfl⟩;rw[←hpp] at hfe;refine sh (λu w2=>Ox w.heap.size w2 89 13 Act'.cells u (F.2++p.2.toList)∧w2.heap[t]?=some ({ T with E:=p.1 }:Tm).obj∧Chg [t] w w2) ?_ ?_
  ·refine sq hcell ?_;refine td jK rfl (ZP hb' okE l[k] hrr) ?_;rintro v1 w1 hst;dsimp only at hst;rw[←hpp] at hst;obtain⟨rfl,hb1,hc1⟩:=hst;have ho1:=ho.low hc1 (by simp;omega);have hc01:=hc.trans hc1 (λx hx=>.inl hx);have hz:=hc01.size;obtain⟨A,hA⟩:∃A,A=p.2.getD noA:=⟨_,rfl⟩;rw[←hA];refine sn ?_;obtain⟨w2,hw2⟩:∃w2,w2=Ab (w1.alloc (.cells noA.cells.toArray 89)) w1.heap.size (.cells A.cells.toArray 89):=⟨_,rfl⟩;have hc2:Chg [] w1 w2:=by rw[hw2];exact(Ar _ _).set _ _ (.inr (rH _))
   have hA2:w2.heap[w1.heap.size]?=some (.cells A.cells.toArray 89):=by rw[hw2];exact Cb _ (by refine sn ?_;omega)
   simp only[noA,Act'.cells] at hw2;rw[←hw2];clear hw2;have hb2:=hc2.keep hb1 Z;have ho2:=ho1.chg0 hc2;have hz2:=hc2.size;cases hpo:p.2 with
   | none =>
    refine BrW.by (λh=>by simp at h) (λ_=>⟨?_,hb2,hc01.trans0 hc2⟩);simpa using ho2
   | some A' =>
    rw[hpo] at hA;have hA':A=A':=hA;subst hA';refine BrW.by (λ_=>?_) (λh=>by simp at h);refine sq hA2 ?_;refine Bd (l2:=[A]) Ln Act'.len Act'.ok (ho2.chg0 (Ar _ _)) (Sx.built (c:=A.cells) (by refine sn ?_;rfl) Z) rfl (by simp;omega) O (by refine sn ?_;omega) ?_;intro v' w3 ho3 hc3 _;have hca:Chg v.ownBlock.toList w2 w3:=((sg _ w2).alloc _).trans hc3 (λx hx=>.inl hx);have hlow:=ho2.own_ge;exact⟨ho3,hca.keep hb2 (λhm=>by have:=hlow _ hm;omega),Ff ho2 (rH _) (hc01.trans0 hc2) hca⟩
  ·rintro u w2 ⟨ho2,hb2,hc2⟩;have e1:(k:Int)+1=((k+1:Nat):Int):=O
   (try refine sq e1 ?_)
   refine hn (k+1,u) _ ⟨by dsimp only;omega,?_,?_,hc2⟩ (by dsimp only;omega)
   ·dsimp only;rw[hfe];exact ho2
   ·dsimp only;rw[hfe];exact hb2
 ·have:k=l.length:=O;subst this;rw[List.take_length] at ho hb';exact hK _ _ ⟨ho,hb',hc⟩
theorem de(l:List UInt8)(n:Nat):(Aq l)[n]?=l[n]?:=by
 by_cases h:n<l.length
 ·rw[getElem?_pos (Aq l) n (by simpa [Aq,ByteArray.size] using h),rI h];rfl
 ·rw[getElem?_neg (Aq l) n (by simpa [Aq,ByteArray.size] using h),List.getElem?_eq_none O]
@[go_sem] theorem UY(l:List UInt8)(i:Int):chL (Aq l) i=if 0≤i then(l[i.toNat]?).map λb=>Value.int .u8 b.toNat else none:=by
 unfold chL;rw[de]
theorem F2(l:List UInt8)(i j:Nat):(Aq l).extract i j=Aq ((l.drop i).take (j-i)):=by
 apply ByteArray.ext;simp [Aq,ByteArray.data_extract]
theorem US(w:World)(s:List UInt8)(h:s≠[])(hl:s.length≤1000000):Calls prog 221 #[.string (Aq s)] w
  (Ac λv w'=>v=.tuple #[.int .i32 (first s).1,.int .i64 (first s).2.1,.bool (first s).2.2]∧w'=w):=by
 obtain⟨b,l,rfl⟩:∃b l,s=b::l:=by cases s with|nil=>exact absurd rfl h|cons b l=>exact⟨b,l,rfl⟩
 have hb:=b.toNat_lt;obtain⟨p,hp⟩:∃p,p=first (b::l):=⟨_,rfl⟩
 rw[←hp];unfold first at hp
 simp only[List.getElem?_cons_zero] at hp;apply UL;intro K hK;unfold K8;refine sn ?_;refine Join2.cutK (λv0 v1 w'=>v0=.int .i32 (CM b.toNat)∧v1=.int .i64 (AL b.toNat)∧AL b.toNat≠0∧¬b.toNat≤127∧w'=w) ?_ ?_
 ·intro k1 hk1;refine sn ?_;refine sd (λg=>?_) (λg=>?_)
  ·rw[rG O] at hp;subst hp;refine sn ?_;exact hK _ _ ⟨rfl,rfl⟩
  have g':¬b.toNat≤127:=O;rw[rF g'] at hp;refine sh (λv w'=>v=.bool (decide (194≤b.toNat∧b.toNat≤223))∧w'=w) ?_ ?_
  ·refine sn ?_;refine sd (λg=>?_) (λg=>⟨sv O,rfl⟩);refine sn ?_;exact sw ⟨λh=>O,λh=>O⟩
  rintro v w1 ⟨rfl,rfl⟩;refine sd (λg1=>?_) (λg1=>?_)
  ·have hm:AL b.toNat=1:=by unfold AL;rw[rG g1]
   refine sn ?_;refine hk1 _ _ _ ⟨?_,by rw[hm];rfl,O,g',rfl⟩;unfold CM;rw[hm];rfl
  refine sh (λv w'=>v=.bool (decide (224≤b.toNat∧b.toNat≤239))∧w'=w1) ?_ ?_
  ·refine sn ?_;refine sd (λg=>?_) (λg=>⟨sv O,rfl⟩);refine sn ?_;exact sw ⟨λh=>O,λh=>O⟩
  rintro v w2 ⟨rfl,rfl⟩;refine sd (λg2=>?_) (λg2=>?_)
  ·have hm:AL b.toNat=2:=by unfold AL;rw[rF g1,rG g2]
   refine sn ?_;refine hk1 _ _ _ ⟨?_,by rw[hm];rfl,O,g',rfl⟩;unfold CM;rw[hm];rfl
  refine sh (λv w'=>v=.bool (decide (240≤b.toNat∧b.toNat≤244))∧w'=w2) ?_ ?_
  ·refine sn ?_;refine sd (λg=>?_) (λg=>⟨sv O,rfl⟩);refine sn ?_;exact sw ⟨λh=>O,λh=>O⟩
  rintro v w3 ⟨rfl,rfl⟩;refine sd (λg3=>?_) (λg3=>?_)
  ·have hm:AL b.toNat=3:=by unfold AL;rw[rF g1,rF g2,rG g3]
   refine sn ?_;refine hk1 _ _ _ ⟨?_,by rw[hm];rfl,O,g',rfl⟩;unfold CM;rw[hm];rfl
  ·have hm:AL b.toNat=0:=by unfold AL;rw[rF g1,rF g2,rF g3]
   rw[rG hm] at hp;subst hp;exact hK _ _ ⟨rfl,rfl⟩
 rintro v0 v1 w1 ⟨rfl,rfl,hm,h127,rfl⟩;rw[rF h127,rF hm] at hp;refine Join2.cutK (λv0 v1 w'=>v0=.int .u8 (CD b.toNat)∧v1=.int .u8 (CV b.toNat)∧w'=w1) ?_ ?_
 ·intro k5 hk5;unfold CD CV at hk5;refine sn ?_;refine sd (λg=>?_) (λg=>?_)
  ·exact hk5 _ _ _ ⟨by rw[rG O];rfl,by rw[rF O,rF O];rfl,rfl⟩
  refine sn ?_;refine sd (λg1=>?_) (λg1=>?_)
  ·exact hk5 _ _ _ ⟨by rw[rF O,rF O];rfl,by rw[rG O];rfl,rfl⟩
  refine sn ?_;refine sd (λg2=>?_) (λg2=>?_)
  ·exact hk5 _ _ _ ⟨by rw[rF O,rG O];rfl,by rw[rF O,rF O];rfl,rfl⟩
  refine sn ?_;refine sd (λg3=>?_) (λg3=>?_)
  ·exact hk5 _ _ _ ⟨by rw[rF O,rF O];rfl,by rw[rF O,rG O];rfl,rfl⟩
  ·exact hk5 _ _ _ ⟨by rw[rF O,rF O];rfl,by rw[rF O,rF O];rfl,rfl⟩
 rintro v2 v3 w2 ⟨rfl,rfl,rfl⟩;have hm3:AL b.toNat≤3:=by unfold AL;split<;>(try split)<;>(try split)<;>omega
 refine Loop4.st (λq:Int × Nat × Nat × Nat=>.int .i32 q.1) (λq=>.int .i64 q.2.1) (λq=>.int .u8 q.2.2.1) (λq=>.int .u8 q.2.2.2)
  (λq w'=>w'=w2∧q.2.1≤l.length+1∧q.2.1≤AL b.toNat+1∧q.2.2.1≤255∧q.2.2.2≤255∧Bf q.1∧p=BL (b::l) (AL b.toNat+1-q.2.1) q.1 q.2.1 q.2.2.1 q.2.2.2) (λq=>10-q.2.1)
  (CM b.toNat,1,CD b.toNat,CV b.toNat) rfl rfl rfl rfl ⟨rfl,by dsimp only;omega,by dsimp only;omega,by dsimp only;unfold CD;split<;>(try split)<;>omega,by dsimp only;unfold CV;split<;>(try split)<;>omega,NM _,hp⟩ ?_
 rintro next ⟨r,n,lo,hi⟩ w3 hn ⟨rfl,hnl,hn1,hlo,hhi,hr,hpq⟩
 dsimp only at hnl hn1 hlo hhi hr hpq ⊢;refine sn ?_;refine sd (λg=>?_) (λg=>?_)
 ·obtain⟨k,hk⟩:∃k,AL b.toNat+1-n=k+1:=⟨AL b.toNat-n,O⟩;rw[hk] at hpq;unfold BL at hpq;refine sn ?_;refine sd (λg1=>?_) (λg1=>?_)
  ·have hnone:(b::l)[n]?=none:=List.getElem?_eq_none (by rw[List.length_cons];omega);rw[hnone] at hpq;subst hpq;exact hK _ _ ⟨rfl,rfl⟩
  ·have hlt:n<(b::l).length:=by rw[List.length_cons];omega
   obtain⟨c,hc⟩:∃c,(b::l)[n]?=some c:=⟨_,rI hlt⟩;have hcb:=c.toNat_lt;rw[hc] at hpq;dsimp only at hpq;refine sq hc ?_;refine sh (λv w'=>v=.bool (decide (c.toNat<lo∨hi<c.toNat))∧w'=w3) ?_ ?_
   ·refine sn ?_;refine sd (λg=>⟨su O,rfl⟩) (λg=>?_);refine sn ?_;exact sw ⟨λh=>O,λh=>O⟩
   rintro v w4 ⟨rfl,rfl⟩;refine sd (λg2=>?_) (λg2=>?_)
   ·rw[rG g2] at hpq;subst hpq;exact hK _ _ ⟨rfl,rfl⟩
   ·rw[rF g2] at hpq;have e1:(n:Int)+1=((n+1:Nat):Int):=O;refine sq e1 ?_;refine hn (ER r c,n+1,128,191) _ ⟨rfl,by dsimp only;rw[List.length_cons] at hlt;omega,by dsimp only;omega,by dsimp only;omega,by dsimp only;omega,Rf _ _,?_⟩ (by dsimp only;omega);dsimp only;rw[hpq,show AL b.toNat+1-(n+1)=k by omega]
 ·have hk:AL b.toNat+1-n=0:=O;rw[hk] at hpq;subst hpq;exact hK _ _ ⟨rfl,rfl⟩
theorem V7(w:World)(s:List UInt8)(hl:s.length≤1000000):Calls prog 169 #[.string (Aq s)] w
  (Ac λv w'=>∃u,v=.tuple #[u,.string (Aq (dec s).2)]∧Ox w.heap.size w' 21 1 Cx u (dec s).1∧Chg [] w w'):=by
 apply jg;intro K hK;unfold Pr;refine Join2.cut (λv0 v1 w'=>v0=.string (Aq (dec s).2)∧Ox w.heap.size w' 21 1 Cx v1 (dec s).1∧Chg [] w w') ?_ ?_
 ·refine Loop2.st (λq:List UInt8 × Value × List Int=>.string (Aq q.1)) (λq=>q.2.1) (λq w'=>q.1.length≤s.length∧Ox w.heap.size w' 21 1 Cx q.2.1 q.2.2∧q.2.2.length+q.1.length≤s.length∧dec s=(q.2.2++(dec q.1).1,(dec q.1).2)∧Chg [] w w') (λq=>q.1.length) (s,.slice none 0 0,[]) rfl rfl ⟨rH _,Ox.nil _ _ _ _ _,Z,Z,sg _ _⟩ ?_;rintro next ⟨q,u,l⟩ w1 hn ⟨hq,ho,hlq,hd,hc⟩
  dsimp only at hq ho hlq hd ⊢;refine sn ?_;refine sd (λg=>?_) (λg=>?_)
  ·have hne:q≠[]:=by rintro rfl;simp at g
   have hf:=El q hne;refine td TO rfl (US w1 q hne O) ?_;rintro v w2 ⟨rfl,rfl⟩;refine sn ?_;cases hop:(first q).2.2 with
   | true =>
    refine BrW.by (λ_=>?_) (λh=>by simp at h);rw[EY hne hop] at hd;rw[hd];exact⟨rfl,by simpa using ho,hc⟩
   | false =>
    refine BrW.by (λh=>by simp at h) (λ_=>?_);rw[E9 hne hop] at hd;have hz:=hc.size;refine sn ?_;refine Bd (l2:=[(first q).1]) MD OS RH (ho.chg0 (Ar _ _)) (Sx.built (c:=Cx (first q).1) (by refine sn ?_;rfl) Z) rfl (by simp;omega) O (by refine sn ?_;omega) ?_;intro v' w3 ho3 hc3 _;have hca:Chg u.ownBlock.toList w2 w3:=((sg _ w2).alloc _).trans hc3 (λx hx=>.inl hx);simp -dsimp (disch:=first|omega|(simp only[go_sem,seval];try omega))only[go_sem,seval,F2];rw[List.take_of_length_le (by rw[List.length_drop];exact rH _)];refine hn (q.drop (first q).2.1,v',l++[(first q).1]) _ ⟨by dsimp only;rw[List.length_drop];omega,ho3,by dsimp only;rw[rS,List.length_singleton,List.length_drop];omega,?_,Ff ho (rH _) hc hca⟩ (by dsimp only;rw[List.length_drop];omega);dsimp only;rw[hd];simp
  ·have:q=[]:=rQ O;subst this;rw[HK] at hd;rw[hd];exact⟨rfl,by simpa using ho,hc⟩
 ·rintro v0 v1 w1 ⟨rfl,ho,hc⟩;exact hK _ _ ⟨v1,rfl,ho,hc⟩
theorem YU(w:World)(s:List UInt8)(a:s.length≤1000000):Calls prog 170 #[.string (Aq s)] w
  (Ac λv c=>v=.string (Aq s)∧Chg [] w c):=by
 apply ZK;intro K d;unfold Qu;have e:Calls prog 222 #[.string (Aq s)] w (Ac λv c=>v=.string (Aq s)∧Chg [] w c):=by
  refine(Tryz.stringslite_Clone (Aq s) w (by rw[GV];omega)).mono λe c h=>?_;obtain⟨rfl,f⟩:=h;exact⟨rfl,f.os,f.tape,f.output,f.size,λb g _=>f.block b g⟩
 refine td bQ rfl (e) ?_;rintro v i ⟨rfl,j⟩;exact d _ _ ⟨rfl,j⟩
theorem UF{w:World}{t:Nat}{T:Tm}(h:w.heap[t]?=some T.obj)(a:T.kept.length≤4)(s:List UInt8)(b:s.length≤10000):Calls prog 108 #[.pointer (some ⟨t,1,none⟩),.string (Aq s)] w
  (Ac λv c=>Ox w.heap.size c 21 1 Cx v (dec (T.kept++s)).1∧c.heap[t]?=some ({ T with kept:=(dec (T.kept++s)).2 }:Tm).obj∧Chg [t] w c):=by
 have d:=Aa h;apply TR;intro K e;unfold PM;refine sq h ?_;refine td jh rfl (V7 w (T.kept++s) (by rw[rS];omega)) ?_;rintro v f ⟨u,rfl,g,i⟩;have j:=Kq (T.kept++s);have k:=i.keep h Z;refine sn ?_;refine td cE rfl (YU f _ O) ?_;rintro v w2 ⟨rfl,l⟩;have m:=l.keep k Z;have n:=Aa m;have o:=g.chg0 l;refine sq m ?_;refine e _ _ ⟨o.low (F:=[t]) ((sg _ _).set _ _ Z) (by simp;omega),?_,((i.trans0 l).mono Z).set _ _ (.inl Z)⟩;rw[Cb _ n];rfl
end Go.Proofs.YtnpkidnbhlepkaaGreat
namespace Lyc
open Go
section
variable {P:Program} {α:Type}
theorem ch {t t' ty e:TypeId} {m base:Nat} {f:α→List Value} {v:Value} {l l2:List α} {a:Option Addr} {k c:Nat} {e':Option TypeId} {K:Value→World→Prop} {w:World}
  (ht:AM P t=some m) (hf:∀x,(f x).length=m) (hok:∀x,AV (f x)=true) (h:Ox base w e m f v l) (hs:Sx w e' f a l2) (hk:k=l2.length) (hl1:l≠[]) (hl2:l2≠[])
  (hK:∀w',Ox base w' e m f v (l2.take l.length++l.drop l2.length)→Chg v.ownBlock.toList w w'→K (.int .i64 (min l2.length l.length:Nat)) w') :
  OpX P (.call { callee:=.builtin .copy,args:=#[.const v,.const (.slice a k c)],argTypes:=#[t,t'] }) ty K w:=by
 subst hk
 obtain⟨b,o,c',e2,fr,pre,post,h1,h2,h3,h4,h5⟩:=hs.at_ hl2
 subst h1
 obtain⟨hl,h⟩:=h
 rcases h with ⟨rfl,h9⟩|⟨g,cap,cur,rfl,hb,hg,hn,hm,hsz',htk⟩
 ·exact absurd (List.eq_nil_of_length_eq_zero (by omega)) hl1
 ·have hcur:cur.toList=(l.take (min l2.length l.length)).flatMap f++((l.drop (min l2.length l.length)).flatMap f++cur.toList.drop (l.length*m)):=by
   rw[←List.append_assoc,←List.flatMap_append,List.take_append_drop,←htk];simp
  have hll:(l2.take (min l2.length l.length)).length=min l2.length l.length:=by rw[List.length_take];omega
  have hp:=Cw [] ((l.take (min l2.length l.length)).flatMap f) ((l2.take (min l2.length l.length)).flatMap f) ((l.drop (min l2.length l.length)).flatMap f++cur.toList.drop (l.length*m)) e 0 rfl (by rw[AH hf,AH hf,hll,List.length_take];congr 1;omega)
  rw[List.nil_append,←hcur] at hp
  have eL:l2.take l.length++l.drop l2.length=l2.take (min l2.length l.length)++l.drop (min l2.length l.length):=by
   rcases Nat.le_total l2.length l.length with hle|hle
   ·rw[Nat.min_eq_left hle,List.take_of_length_le hle,List.take_of_length_le (Nat.le_refl _)]
   ·rw[Nat.min_eq_right hle,List.drop_of_length_le hle,List.drop_of_length_le (Nat.le_refl _)]
  rw[Iv (cs:=(l2.take (min l2.length l.length)).flatMap f) (x':=_) ht (by rw[AH hf,hll]) ?_ (C7 hok _) (by rw[hg];exact hp)]
  ·refine hK _ ?_ ((Chg.refl _ _).set _ _ (by simp [Value.ownBlock]))
   rw[eL]
   have hlen:(l2.take (min l2.length l.length)++l.drop (min l2.length l.length)).length=l.length:=by simp;omega
   have hsz2:=congrArg List.length hcur
   simp [AH hf] at hsz2
   refine⟨AH hf _,.inr ⟨g,cap,_,by rw[hlen],hb,Aw _ _ _ _ rfl (Aa hg),by omega,hm,?_,?_⟩⟩
   ·simp [AH hf]
    omega
   ·rw[hlen]
    have e9:([]++(l2.take (min l2.length l.length)).flatMap f++((l.drop (min l2.length l.length)).flatMap f++cur.toList.drop (l.length*m)))=(l2.take (min l2.length l.length)++l.drop (min l2.length l.length)).flatMap f++cur.toList.drop (l.length*m):=by simp
    show([]++(l2.take (min l2.length l.length)).flatMap f++((l.drop (min l2.length l.length)).flatMap f++cur.toList.drop (l.length*m))).take _=_
    rw[e9,List.take_append_of_le_length (by rw[AH hf,hlen];exact Nat.le_refl _),List.take_of_length_le (by rw[AH hf,hlen];exact Nat.le_refl _)]
  ·intro j u hj
   rw[h2,h4,Cp]
   have hj':=(List.getElem?_eq_some_iff.1 hj).1
   have hle:((l2.take (min l2.length l.length)).flatMap f).length≤(l2.flatMap f).length:=by rw[AH hf,AH hf,hll];exact Nat.mul_le_mul_right _ (Nat.min_le_left _ _)
   have hfl:l2.flatMap f=(l2.take (min l2.length l.length)).flatMap f++(l2.drop (min l2.length l.length)).flatMap f:=by rw[←List.flatMap_append,List.take_append_drop]
   rw[List.getElem?_toArray,List.append_assoc,List.getElem?_append_right (by omega),List.getElem?_append_left (by omega),hfl,List.getElem?_append_left (by omega)]
   rw[←hj];congr 1;omega
end
end Lyc
namespace Go.Proofs.YtnpkidnbhlepkaaGreat
open Lyc Go Go.Proofs.Tryz
def CB(n:Nat)(l:List Cel):List Cel:=l.take n++List.replicate (n-l.length) Cel.blank
theorem J0(n:Nat)(l:List Cel):(CB n l).length=n:=by simp [CB];omega
theorem TE{w:World}{e:Option TypeId}{a:Option Addr}{l:List Cel}(b:SxC w e a l)(cap:Nat)(c:0<l.length)(d:l.length≤1000)(n:Nat)(g:0<n)(j:n≤1000):Calls prog 191 #[.slice a l.length cap,.int .i64 n] w
  (Ac λv k=>Ox w.heap.size k 60 4 Cel.cells v (Au (CB n l))∧Chg [] w k):=by
 apply YR;intro K m;unfold Sh;refine DJ (f:=Cel.cells) Cel.none Fp Cel.len rfl O O O (rH _) ?_;intro o p q;have r:Chg [] w o:=by rw[p];exact Ar _ _
 refine ch (t:=48) DC Cel.len Cel.ok q (b.chg0 r) rfl (by intro h;have:=congrArg List.length h;simp at this;omega) (by intro h;simp [h] at c) ?_;intro w2 s u;have y:=C2 q r u;rw[List.length_replicate] at s ⊢;have z:=J0 n l;have A:l.take n++(List.replicate n Cel.none).drop l.length=(CB n l).take (min l.length n)++List.replicate (n-min l.length n) Cel.none:=by
  rw[List.drop_replicate,show n-min l.length n=n-l.length by omega];unfold CB;rw[List.take_append_of_le_length (by rw[List.length_take];omega),List.take_take];rw[show min (min l.length n) n=min l.length n by omega];congr 1;rcases Nat.le_total l.length n with h|h
  ·rw[Nat.min_eq_left h,List.take_of_length_le h,List.take_of_length_le (rH _)]
  ·rw[Nat.min_eq_right h]
 rw[A] at s;refine Loop1.st (λx:Nat=>.int .i64 (x:Int)) (λx k=>l.length≤x+(l.length-n)∧min l.length n≤x∧x≤n∧Chg [] w k∧Ox w.heap.size k 60 4 Cel.cells (.slice (some ⟨w.heap.size,0,none⟩) n n) ((CB n l).take x++List.replicate (n-x) Cel.none)) (λx=>n-x) (min l.length n) rfl ⟨O,rH _,O,y,s⟩ ?_;rintro next x B C ⟨D,E,F,G,H⟩
 refine sn ?_;refine sd (λg=>?_) (λg=>?_)
 ·refine td Ei rfl (Ej _) ?_;rintro v I ⟨rfl,J⟩;have L:((CB n l).take x++List.replicate (n-x) Cel.none).length=n:=by simp [z];omega
  obtain⟨M,N,Q,R,S,T,U,V⟩:=(H.chg0 J).put Cel.len (i:=x) (by rw[L];omega) Cel.blank;rw[Value.slice.injEq] at R;obtain⟨R,-,rfl⟩:=R;simp only[Option.some.injEq,Addr.mk.injEq,and_true] at R;subst R;have W:Ao I.heap[w.heap.size]? (x*4) [.int .i32 Cel.blank.r,.int .u8 Cel.blank.fg.toNat,.int .u8 Cel.blank.bg.toNat,.int .u8 Cel.blank.a.toNat]=some Q:=U;have X:(x:Int)+1=((x+1:Nat):Int):=O;simp -dsimp (disch:=first|omega|(simp only[go_sem,seval];try omega))only[go_sem,seval,W,X,Cel.val];refine C (x+1) _ ⟨O,O,O,(G.trans0 J).set _ _ (.inr S),?_⟩ O;have Y:((CB n l).take x++List.replicate (n-x) Cel.none).set x Cel.blank=(CB n l).take (x+1)++List.replicate (n-(x+1)) Cel.none:=by
   have d:(CB n l)[x]?=some Cel.blank:=by
    unfold CB;rw[rK (by rw[List.length_take];omega),List.getElem?_replicate];rw[rG (by rw[List.length_take];omega)]
   rw[List.set_append_right _ _ (by rw[List.length_take];omega),List.length_take,z,show x-min x n=0 by omega,show n-x=(n-(x+1))+1 by omega,List.replicate_succ,List.set_cons_zero];rw[List.take_add_one,d];simp
  rw[Y] at V;exact V
 ·have g:x=n:=O;subst g;rw[Nat.sub_self,List.replicate_zero,List.append_nil,List.take_of_length_le O] at H;obtain⟨j,b,c,-,o,-⟩:=H.form;rw[Value.slice.injEq] at c;obtain⟨rfl,-,rfl⟩:=c;have p:=IH o x O;rw[z] at p;refine td I3 rfl (p) ?_;rintro v I ⟨q,J⟩;exact m _ _ ⟨q.base_le G.size,G.trans0 J⟩
def BJ(g:Gr)(L:List (List Cel))(first y:Nat):List Cel:=if first+y<L.length then Au (CB g.w (L.getD (first+y) [])) else g.row (first+y-L.length)
theorem aE{w:World}{h:Nat}{H:Hs}(hh:HAt w h H){g:Gr}(hg:g.ok)(hr:g.right=true){e:Option TypeId}{a:Option Addr}(hs:SxC w e a g.cs)(cap:Nat)(hcap:g.cs.length≤cap)(hrows:∀l∈H.list,0<l.length∧l.length≤1000)(back:Int):
  Calls prog 148 #[.pointer (some ⟨h,0,none⟩),g.val a cap,.int .i64 back] w
  (Ac λv w'=>GAt w.heap.size w' v (Gr.of g.w g.h (BJ g H.list (H.list.length-min back.toNat H.list.length)))∧Chg [] w w'):=by
 have hh1:=hg.h1;have hw1:=hg.w1;have hroom:=hh.room1;have hfit:=hh.fit;have hll:=H.list_len;apply Zq;intro K hK;unfold Lt;simp -dsimp (disch:=first|omega|(simp only[go_sem,seval];try omega))only[go_sem,seval,Gr.val];refine OpX.gen λw0 hw0=>?_;have hc0:Chg [] w w0:=by rw[hw0];exact By _ _ _
 have hg0:w0.heap[w.heap.size]?=some (.cells #[.int .i64 g.w,.int .i64 g.h,.slice a g.cs.length cap] 50):=by rw[hw0];exact so
 have ho0:w0.heap[w.heap.size+1]?=some (.cells #[.int .i64 0,.int .i64 0,.slice none 0 0] 50):=by rw[hw0];exact so
 clear hw0;refine td C8 rfl (Dd hg (hs.chg0 hc0) cap hcap) ?_;rintro v w1 ⟨rfl,hc1⟩;rw[hr];refine sn ?_;refine td Sm rfl (P9 ((hh.chg0 hc0).chg0 hc1)) ?_;rintro v w2 ⟨rfl,rfl⟩;refine sn ?_;have hc02:=hc0.trans0 hc1;have hg2:=hc1.keep hg0 Z;have ho2:=hc1.keep ho0 Z;have hlo:=Aa ho2;have hm:(g.w:Int)*(g.h:Int)=(g.cs.length:Int):=by rw[hg.len];simp
 have hle:=hg.le;refine sh (λv w'=>Chg [] w2 w'∧∃t9 sb,v=.pointer (some ⟨t9,0,none⟩)∧w2.heap.size≤t9∧w'.heap[t9]?=some (.cells #[.int .i64 g.w,.int .i64 g.h,.slice (some ⟨sb,0,none⟩) 0 g.cs.length] 50)∧Ox w2.heap.size w' 60 4 Cel.cells (.slice (some ⟨sb,0,none⟩) 0 g.cs.length) []) ?_ ?_
 ·refine sr hg2 hm ?_;refine⟨?_,?_⟩
  ·refine Iy (f:=Cel.cells) Fp rfl O O O O (show w2.heap.size≤w2.drew.heap.size from rH _) ?_;intro w3 hw3 ho3;have hc3:Chg [] w2 w3:=by rw[hw3];exact(sg _ _).drew.alloc _
   rw[Int.toNat_natCast] at ho3 ⊢;have hg3:=hc3.keep hg2 Z;have hz3:w3.heap.size=w2.heap.size+1:=by rw[hw3];exact so
   clear hw3;refine sq hg3 ?_;exact⟨hc3.alloc _,w3.heap.size,_,rfl,O,Lyc.heap_alloc_new _ _ _ rfl,ho3.chg0 (Ar _ _)⟩
  ·have hca:=(sg [] w2).drew.alloc (.cells #[.int .i64 0,.int .i64 0,.slice none 0 0] 50);refine Iy (f:=Cel.cells) Fp rfl O O O O (show w2.heap.size≤_ from hca.size) ?_;intro w3 hw3 ho3;have hc3:Chg [] w2 w3:=by rw[hw3];exact hca.alloc _
   rw[Int.toNat_natCast] at ho3 ⊢;have hg3:=hc3.keep hg2 Z;have ht3:w3.heap[w2.heap.size]?=some (.cells #[.int .i64 0,.int .i64 0,.slice none 0 0] 50):=by rw[hw3];exact so
   have hz:((w2.alloc (.cells #[.int .i64 0,.int .i64 0,.slice none 0 0] 50)).drew).heap.size=w2.heap.size+1:=by exact so
   have hl3:=Aa ht3;clear hw3;rw[hz] at ho3;refine sr hg3 ht3 ?_;refine⟨hc3.set _ _ (.inr (rH _)),w2.heap.size,_,rfl,rH _,Aw _ _ _ _ rfl hl3,ho3.chg (F:=[w2.heap.size]) ((sg _ _).set _ _ Z) λb hb=>?_⟩;simp [Value.ownBlock] at hb;simp;omega
 ·rintro v w3 ⟨hc3,t9,sb,rfl,h9,ht9,ho3⟩;have efst:(H.list.length:Int)-min (max back 0) H.list.length=((H.list.length-min back.toNat H.list.length:Nat):Int):=O;have ewr:IntKind.i64.wrap ((H.list.length:Int)-min (max back 0) H.list.length)=((H.list.length-min back.toNat H.list.length:Nat):Int):=by rw[F3 _ O O,efst]
  have hfl:H.list.length-min back.toNat H.list.length≤H.list.length:=O;generalize H.list.length-min back.toNat H.list.length=fst at *;refine sq efst ?_;rw[ewr];have hvl:∀y,y<g.h→(BJ g H.list fst y).length=g.w:=by
   intro y hy;unfold BJ;split
   ·rename_i h1;rw[Cj];exact J0 _ _
   ·exact hg.row_len O
  have hrl:=λk (hk:k≤g.h)=>Ep (λy (hy:y<k)=>hvl y O);have hg3:=hc3.keep hg2 Z;refine Loop1.st (λs:Nat × Value=>.int .i64 ((fst+s.1:Nat):Int)) (λs w'=>s.1≤g.h∧Chg [] w2 w'∧w'.heap[t9]?=some (.cells #[.int .i64 g.w,.int .i64 g.h,s.2] 50)∧Ox w2.heap.size w' 60 4 Cel.cells s.2 (A7 (BJ g H.list fst) s.1)) (λs=>g.h-s.1) (0,_) Z ⟨Z,hc3,ht9,ho3⟩ ?_;rintro next ⟨k,v⟩ w4 hn ⟨hk,hc4,ht4,ho4⟩
  dsimp only at hk ht4 ho4 ⊢;have hg4:=hc4.keep hg2 Z;refine sq hg4 ?_;refine sd (λh1=>?_) (λh1=>?_)
  ·refine si (λw'=>∃v',Chg [] w2 w'∧w'.heap[t9]?=some (.cells #[.int .i64 g.w,.int .i64 g.h,v'] 50)∧Ox w2.heap.size w' 60 4 Cel.cells v' (A7 (BJ g H.list fst) (k+1))) ?_ ?_
   ·have key:∀(w5:World) (r:Value),Chg [] w4 w5→Ox w4.heap.size w5 60 4 Cel.cells r (BJ g H.list fst k)→∃a' n' c',r=.slice a' n' c'∧OpX prog (.call { callee:=.builtin .append,args:=#[.const v,.const r],argTypes:=#[48,48] }) 48 (λt55=>qF 50 (Value.pointer (some ⟨t9,0,none⟩)) 2 λt56=>xS 48 t56 t55 (λw'=>∃v',Chg [] w2 w'∧w'.heap[t9]?=some (.cells #[.int .i64 g.w,.int .i64 g.h,v'] 50)∧Ox w2.heap.size w' 60 4 Cel.cells v' (A7 (BJ g H.list fst) (k+1)))) w5:=by
     intro w5 r hc5 hr5;obtain⟨a',c',rfl,_,hs5,-,-⟩:=hr5.form;refine⟨a',_,c',rfl,?_⟩;have ho5:=ho4.chg0 hc5;have ht5:=hc5.keep ht4 Z;have hc25:=hc4.trans0 hc5;have h6:=Nat.mul_le_mul hk hw1;refine Bd CZ Cel.len Cel.ok ho5 hs5 rfl (by rw[hrl k hk,hvl k O];omega) O (by have:=hc25.size;omega) ?_;intro v6 w6 ho6 hc6 _;have hof:=ho5.off ht5 rfl;have ht6:=hc6.keep ht5 (by intro hx;apply hof;simpa using hx);have hl6:=Aa ht6;obtain⟨a6,c6,rfl,-⟩:=ho6.form;have hc26:Chg [] w2 w6:=hc25.trans hc6 λx hx=>.inr (ho5.own_ge x hx);refine sq ht6 ?_;exact⟨_,hc26.set _ _ (.inr h9),rfl,ho6.chg (F:=[t9]) ((sg _ _).set _ _ Z) λb hb hm=>by
      simp at hm;subst hm;exact ho6.off ht6 rfl hb.symm⟩
    refine sq hg4 ?_;refine sd (λh2=>?_) (λh2=>?_)
    ·refine sr ht4 hg4 ?_;have e1:(((fst+k:Nat):Int)-(H.list.length:Int))=((fst+k-H.list.length:Nat):Int):=O;rw[e1];have hcl:=M9 hg ((hs.chg0 hc02).chg0 (hc4.drew)) cap hcap (y:=fst+k-H.list.length) O;refine td N0 rfl (hcl) ?_;rintro r w5 ⟨ho5,hc5⟩;have ev:BJ g H.list fst k=g.row (fst+k-H.list.length):=by unfold BJ;rw[rF O]
     rw[←ev] at ho5;have hc45:Chg [] w4 w5:=hc5.low_drew;have ht5:=hc45.keep ht4 Z;obtain⟨a',n',c',rfl,hk5⟩:=key w5 r hc45 ho5;refine sq ht5 ?_;exact hk5
    ·have hi:fst+k<H.list.length:=O;have hh4:=((hh.chg0 hc02).chg0 hc4);refine sn ?_;refine td ej rfl (jA hh4 (fst+k) hi) ?_;rintro u w5 ⟨r,rfl,hr5,hs5,hm5,hc5⟩;obtain⟨hrl0,hrl5⟩:=hrows _ (List.mem_of_getElem? hr5);have hg5:=hc5.keep hg4 Z;have ht5:=hc5.keep ht4 Z;simp -dsimp (disch:=first|omega|(simp only[go_sem,seval];try omega))only[go_sem,seval,ht5,hg5,Rw.val];refine td fK rfl (TE (hs5.chg0 (sg _ _).drew) r.cap hrl0 hrl5 g.w hg.w0 O) ?_;rintro r6 w6 ⟨ho6,hc6⟩;have ev:BJ g H.list fst k=Au (CB g.w r.cs):=by unfold BJ;rw[rG hi,rN,hr5];rfl
     rw[←ev] at ho6;have hc46:Chg [] w4 w6:=hc5.trans0 hc6.low_drew;have ht6:=hc46.keep ht4 Z;obtain⟨a',n',c',rfl,hk6⟩:=key w6 r6 hc46 (ho6.base_le hc5.size);refine sq ht6 ?_;exact hk6
   ·rintro w5 ⟨v',a1,a2,a3⟩;refine sn ?_;exact hn (k+1,v') _ ⟨by dsimp only;omega,a1,a2,a3⟩ (by dsimp only;omega)
  ·have hk':k=g.h:=O;subst hk';obtain⟨a',c',rfl,hcl,hs5,-,hne⟩:=ho4.form;have hn0:A7 (BJ g H.list fst) g.h≠[]:=by
    intro h0;have:=hrl g.h (rH _);rw[h0] at this;have h2:=Nat.mul_pos hg.h0 hg.w0;simp at *;omega
   obtain⟨nb,cap',sp,hv,-,h7,h8⟩:=ho4.blk hn0;rw[Value.slice.injEq] at hv;obtain⟨rfl,-,rfl⟩:=hv;have ho4':=hc4.keep ho2 Z;have hl4:=Aa ho4';refine sr ht4 ho4' ?_;refine hK _ _ ⟨⟨nb,c',sp,rfl,hcl,O,?_⟩,?_⟩
   ·refine sn ?_;exact h8
   ·exact(hc02.trans0 hc4).set _ _ (.inr Z)
structure TmAt (base:Nat) (w:World) (t W H:Nat) (T:Tm) (M:Scm) (G:Hs):Prop where
 hb:w.heap[t]?=some T.obj
 scr:SNew base w T.s W H M
 his:HAt w T.h G
 eok:T.E.ok
 kl:T.kept.length≤4
 dk:dec T.kept=([],T.kept)
 lo:∀x∈t::T.h::G.blk,base≤x
 sep:∀x∈M.gv.ownBlock.toList,x∉G.blk
 far:∀r∈G.all,∀b o,r.a=some ⟨b,o,none⟩→r.cs≠[]→b≠M.b0∧b≠M.b1
 rw:∀l∈G.list,0<l.length∧l.length≤200
section
variable {base:Nat} {w w':World} {t W H:Nat} {T:Tm} {M:Scm} {G:Hs}
theorem Bj {w:World} {x y:Nat} {c c':Array Value} {e e':TypeId} {fr fr':Nat × Nat} (h:w.heap[x]?=some (.cells c e fr)) (h':w.heap[y]?=some (.cells c' e' fr')) (hne:Nat.beq e e'=false):x≠y:=by
 rintro rfl
 rw[h] at h'
 simp only[Option.some.injEq,Obj.cells.injEq] at h'
 rw[h'.2.1,Nat.beq_refl] at hne
 cases hne
theorem SAt.tags {s:Nat} (h:SAt w s M):(∃c fr,w.heap[s]?=some (.cells c 256 fr))∧(∃c fr,w.heap[M.b0]?=some (.cells c 60 fr))∧(∃c fr,w.heap[M.b1]?=some (.cells c 60 fr))∧∀x∈M.gv.ownBlock.toList,∃c fr,w.heap[x]?=some (.cells c 48 fr):=by
 refine⟨⟨_,_,h.hb⟩,⟨_,_,h.h0⟩,⟨_,_,h.h1⟩,fun x hx=>?_⟩
 obtain⟨hl,ho⟩:=h.own
 rcases ho with ⟨hv,-⟩|⟨g,cap,cur,hv,-,hg,-⟩
 ·rw[hv] at hx;simp [Value.ownBlock] at hx
 ·rw[hv] at hx;simp [Value.ownBlock] at hx
  subst hx
  exact⟨_,_,hg⟩
theorem HAt.tag2 {h:Nat} (hh:HAt w h G):(∃c fr,w.heap[h]?=some (.cells c 251 fr))∧∀x∈G.blk,∃c fr,w.heap[x]?=some (.cells c 48 fr):=by
 refine⟨⟨_,_,hh.hb⟩,fun x hx=>?_⟩
 obtain⟨hl,ho⟩:=hh.own
 simp only[Hs.blk] at hx
 rcases ho with ⟨hv,-⟩|⟨g,cap,cur,hv,-,hg,-⟩
 ·rw[hv] at hx;simp [Value.ownBlock] at hx
 ·rw[hv] at hx;simp [Value.ownBlock] at hx
  subst hx
  exact⟨_,_,hg⟩
theorem TmAt.s_h (h:TmAt base w t W H T M G):∀x∈T.s::M.blk,x∉T.h::G.blk:=by
 obtain⟨⟨c1,f1,a1⟩,⟨c2,f2,a2⟩,⟨c3,f3,a3⟩,a4⟩:=h.scr.at_.tags
 obtain⟨⟨c5,f5,a5⟩,a6⟩:=h.his.tag2
 intro x hx hm
 rcases List.mem_cons.1 hm with rfl|hm
 ·simp only[Scm.blk,List.mem_cons] at hx
  rcases hx with e|e|e|hx
  ·exact Bj a1 a5 rfl e.symm
  ·exact Bj a2 a5 rfl e.symm
  ·exact Bj a3 a5 rfl e.symm
  ·obtain⟨c,f,b⟩:=a4 _ hx
   exact Bj b a5 rfl rfl
 ·obtain⟨c7,f7,a7⟩:=a6 x hm
  simp only[Scm.blk,List.mem_cons] at hx
  rcases hx with rfl|rfl|rfl|hx
  ·exact Bj a1 a7 rfl rfl
  ·exact Bj a2 a7 rfl rfl
  ·exact Bj a3 a7 rfl rfl
  ·exact h.sep x hx hm
theorem TmAt.t_s (h:TmAt base w t W H T M G):t∉T.s::M.blk:=by
 obtain⟨⟨c1,f1,a1⟩,⟨c2,f2,a2⟩,⟨c3,f3,a3⟩,a4⟩:=h.scr.at_.tags
 have hb:=h.hb
 unfold Tm.obj at hb
 intro hx
 simp only[Scm.blk,List.mem_cons] at hx
 rcases hx with e|e|e|hx
 ·exact Bj a1 hb rfl e.symm
 ·exact Bj a2 hb rfl e.symm
 ·exact Bj a3 hb rfl e.symm
 ·obtain⟨c,f,b⟩:=a4 _ hx
  exact Bj b hb rfl rfl
theorem TmAt.t_h (h:TmAt base w t W H T M G):t∉T.h::G.blk:=by
 obtain⟨⟨c5,f5,a5⟩,a6⟩:=h.his.tag2
 have hb:=h.hb
 unfold Tm.obj at hb
 intro hx
 rcases List.mem_cons.1 hx with e|hx
 ·exact Bj a5 hb rfl e.symm
 ·obtain⟨c,f,b⟩:=a6 _ hx
  exact Bj b hb rfl rfl
theorem TmAt.rows_s (h:TmAt base w t W H T M G):∀r∈G.all,∀b o,r.a=some ⟨b,o,none⟩→r.cs≠[]→b∉T.s::M.blk:=by
 obtain⟨⟨c1,f1,a1⟩,-,-,a4⟩:=h.scr.at_.tags
 intro r hr b o ha hne hx
 have hs:=h.his.rows r hr
 simp only[Scm.blk,List.mem_cons] at hx
 rcases hx with rfl|rfl|rfl|hx
 ·exact hs.ne ha hne a1 rfl rfl
 ·exact(h.far r hr _ o ha hne).1 rfl
 ·exact(h.far r hr _ o ha hne).2 rfl
 ·obtain⟨c,f,b'⟩:=a4 _ hx
  exact hs.ne ha hne b' rfl rfl
theorem TmAt.chg0 (h:TmAt base w t W H T M G) (hc:Chg [] w w'):TmAt base w' t W H T M G :=
 ⟨hc.keep h.hb (by simp),h.scr.chg0 hc,h.his.chg0 hc,h.eok,h.kl,h.dk,h.lo,h.sep,h.far,h.rw⟩
theorem TmAt.self (h:TmAt base w t W H T M G) (hc:Chg [t] w w') {k:List UInt8} {E:Esc} (hb:w'.heap[t]?=some ({ T with kept:=k,E:=E }:Tm).obj) (ek:E.ok) (kk:k.length≤4) (kd:dec k=([],k)):TmAt base w' t W H { T with kept:=k,E:=E } M G:=by
 have hts:=h.t_s
 have hth:=h.t_h
 have hb0:=h.hb
 unfold Tm.obj at hb0
 have hS:SAt w' T.s M:=h.scr.at_.chg hc (fun x hx hm=>by simp at hm;subst hm;exact hts hx) (fun r hr b o ha hne hm=>by simp at hm;subst hm;exact(h.scr.at_.rows r hr).ne ha hne hb0 rfl rfl)
 refine⟨hb,⟨hS,h.scr.ok,h.scr.w,h.scr.h,h.scr.gw,h.scr.lo⟩,h.his.chg hc (fun x hx hm=>by simp at hm;subst hm;exact hth hx) (fun r hr b o ha hne hm=>by simp at hm;subst hm;exact(h.his.rows r hr).ne ha hne hb0 rfl rfl),ek,kk,kd,h.lo,h.sep,h.far,h.rw⟩
theorem TmAt.did (h:TmAt base w t W H T M G) {S:Scr} (hd:Did w T.s M w' S) (hn:Nx M.S S) (hb:base≤w.heap.size):∃M',TmAt base w' t W H T M' G∧M'.S=S∧Chg (T.s::M.blk) w w'∧∀b∈M'.blk,b∈M.blk∨w.heap.size≤b:=by
 obtain⟨M',hN,hS,hc,hk⟩:=h.scr.did hd hn hb
 have hsh:=h.s_h
 have hlt:=h.his.blk_lt
 have hts:=h.t_s
 refine⟨M',⟨hc.keep h.hb hts,hN,h.his.chg hc (fun x hx hm=>hsh x hm hx) h.rows_s,h.eok,h.kl,h.dk,h.lo,fun x hx hm=>?_,fun r hr b o ha hne=>?_,h.rw⟩,hS,hc,hk⟩
 ·rcases hk x (by simp [Scm.blk,hx]) with h1|h1
  ·exact hsh x (by simp [h1]) (by simp [hm])
  ·have:=hlt x (by simp [hm]);omega
 ·have hbl:=(h.his.rows r hr).lt hne ha
  have hnot:=h.rows_s r hr b o ha hne
  refine⟨fun e=>?_,fun e=>?_⟩
  ·rcases hk M'.b0 (by simp [Scm.blk]) with h1|h1
   ·exact hnot (by rw[e];simp [h1])
   ·omega
  ·rcases hk M'.b1 (by simp [Scm.blk]) with h1|h1
   ·exact hnot (by rw[e];simp [h1])
   ·omega
end
def FY (t:Nat) (T:Tm) (M:Scm) (G:Hs) (x:Nat):Prop:=x=t∨x=T.s∨x∈M.blk∨x=T.h∨x∈G.blk∨∃r∈G.all,r.cs≠[]∧∃o,r.a=some ⟨x,o,none⟩
theorem TmAt.frame {base:Nat} {w w':World} {t W H:Nat} {T:Tm} {M:Scm} {G:Hs} (h:TmAt base w t W H T M G) (hm:M.rows=[]) {F:List Nat} (hc:Chg F w w') (hF:∀x∈F,¬FY t T M G x):TmAt base w' t W H T M G:=by
 have hS:SAt w' T.s M:=h.scr.at_.chg hc (fun x hx hf=>hF x hf (by rcases List.mem_cons.1 hx with e|hx;exact .inr (.inl e);exact .inr (.inr (.inl hx)))) (by rw[hm];simp)
 exact⟨hc.keep h.hb (fun hf=>hF t hf (.inl rfl)),⟨hS,h.scr.ok,h.scr.w,h.scr.h,h.scr.gw,h.scr.lo⟩,
  h.his.chg hc (fun x hx hf=>hF x hf (by rcases List.mem_cons.1 hx with e|hx;exact .inr (.inr (.inr (.inl e)));exact .inr (.inr (.inr (.inr (.inl hx)))))) (fun r hr b o ha hne hf=>hF b hf (.inr (.inr (.inr (.inr (.inr ⟨r,hr,hne,o,ha⟩)))))),
  h.eok,h.kl,h.dk,h.lo,h.sep,h.far,h.rw⟩
def B3 (S:Scr) (k:List UInt8) (E:Esc) (s:List UInt8):Scr × List UInt8 × Esc :=
 (S.acts (E.feed (dec (k++s)).1).2,(dec (k++s)).2,(E.feed (dec (k++s)).1).1)
theorem fA (S:Scr) {k:List UInt8} (E:Esc) (hk:dec k=([],k)):B3 S k E []=(S,k,E):=by
 unfold B3
 rw[List.append_nil,hk]
 rfl
theorem Y9 (S:Scr) (k:List UInt8) (E:Esc) (s t:List UInt8):B3 S k E (s++t)=B3 (B3 S k E s).1 (B3 S k E s).2.1 (B3 S k E s).2.2 t:=by
 unfold B3
 rw[←List.append_assoc,VU (k++s) t]
 dsimp only
 rw[Esc.feed_append]
 unfold Scr.acts
 rw[List.foldl_append]
def BW (st:Scr × List UInt8 × Esc) (l:List (List UInt8)):Scr × List UInt8 × Esc:=l.foldl (fun st p=>B3 st.1 st.2.1 st.2.2 p) st
def bsF (l:List UInt8):List Value:=[.string (Aq l)]
theorem Wa {α:Type} (l:List α) (h:¬(0:Int)<(l.length:Int)):l=[]:=List.eq_nil_of_length_eq_zero (by omega)
theorem Uc {room:Nat} {l:List (List Cel)} {x y:List Cel} (h:y∈Dq room l x):y∈l∨y=x:=by
 unfold Dq at h
 split at h
 ·exact .inl h
 split at h
 ·rcases List.mem_append.1 h with h|h
  ·exact .inl h
  ·exact .inr (by simpa using h)
 ·rcases List.mem_append.1 h with h|h
  ·exact .inl (List.mem_of_mem_tail h)
  ·exact .inr (by simpa using h)
theorem OX {room:Nat}:∀{xs l:List (List Cel)} {y:List Cel},y∈EW room l xs→y∈l∨∃x∈xs,y=Au x
 | [],l,y,h=>.inl h
 | x::xs,l,y,h=>by
  unfold EW at h
  rw[List.foldl_cons] at h
  rcases OX (xs:=xs) h with h|⟨z,hz,e⟩
  ·rcases Uc h with h|h
   ·exact .inl h
   ·exact .inr ⟨x,by simp,h⟩
  ·exact .inr ⟨z,by simp [hz],e⟩
set_option maxHeartbeats 1000000 in
theorem X2 {base:Nat} {w:World} {t W H:Nat} {T:Tm} {M:Scm} {G:Hs} (h:TmAt base w t W H T M G) (hbase:base≤w.heap.size) {e:Option TypeId} {a:Option Addr} {l:List (List UInt8)} (hs:Sx w e bsF a l) (hlen:∀p∈l,p.length≤1000000) (hfar:∀b o,a=some ⟨b,o,none⟩→l≠[]→b∉t::T.s::M.blk) (cap:Nat) (hll:l.length≤1000000) :
  Calls Tryz.prog 53 #[.pointer (some ⟨t,0,none⟩),.slice a l.length cap] w
  (Ac fun _ w'=>∃M' G' k E,TmAt base w' t W H { T with kept:=k,E:=E } M' G'∧(M'.S,k,E)=({ (BW (M.S,T.kept,T.E) l).1 with gone:=[] },(BW (M.S,T.kept,T.E) l).2.1,(BW (M.S,T.kept,T.E) l).2.2) ∧
   G'.room=G.room∧G'.list=EW G.room G.list (BW (M.S,T.kept,T.E) l).1.gone∧Chg (t::T.s::M.blk++T.h::G.blk) w w'∧M'.rows=[]∧∀x,FY t { T with kept:=k,E:=E } M' G' x→FY t T M G x∨w.heap.size≤x):=by
 have hb:=h.hb
 apply ZV
 intro K hK
 unfold Sj
 simp -dsimp (disch:=first|omega|(simp only[go_sem,seval];try omega))only[go_sem,seval]
 refine Loop1.st (fun q:Nat × Scm × List UInt8 × Esc=>.int .i64 (q.1:Int)) (fun q w'=>q.1≤l.length∧TmAt base w' t W H { T with kept:=q.2.2.1,E:=q.2.2.2 } q.2.1 G∧(q.2.1.S,q.2.2.1,q.2.2.2)=BW (M.S,T.kept,T.E) (l.take q.1)∧(∀x∈q.2.1.blk,x∈M.blk∨w.heap.size≤x)∧Chg (t::T.s::M.blk) w w') (fun q=>l.length-q.1) (0,M,T.kept,T.E) rfl ⟨by simp,h,rfl,fun x hx=>.inl hx,Chg.refl _ _⟩ ?_
 rintro next ⟨i,Mi,k,E⟩ wi hn ⟨hi,hA,hst,hbk,hc⟩
 dsimp only at hi hA hst hbk ⊢
 simp -dsimp (disch:=first|omega|(simp only[go_sem,seval];try omega))only[go_sem,seval]
 refine BrW.dec (fun g=>?_) (fun g=>?_)
 ·have hi':i<l.length:=by omega
  obtain⟨b,o,rfl,hbl,hcell⟩:=(hs.chg hc hfar).get1 (g:=fun p=>.string (Aq p)) (fun _=>rfl) (List.getElem?_eq_getElem hi')
  have hpl:=hlen _ (List.getElem_mem hi')
  obtain⟨p,hp⟩:∃p,p=l[i]:=⟨_,rfl⟩
  rw[←hp] at hcell hpl
  simp -dsimp (disch:=first|omega|(simp only[go_sem,seval];try omega))only[go_sem,seval,hcell]
  refine Loop1.st (fun q:List UInt8 × Scm × List UInt8 × Esc=>.string (Aq q.1)) (fun q w'=>q.1.length≤p.length∧TmAt base w' t W H { T with kept:=q.2.2.1,E:=q.2.2.2 } q.2.1 G∧B3 Mi.S k E p=B3 q.2.1.S q.2.2.1 q.2.2.2 q.1∧(∀x∈q.2.1.blk,x∈M.blk∨w.heap.size≤x)∧Chg (t::T.s::M.blk) w w') (fun q=>q.1.length) (p,Mi,k,E) rfl ⟨Nat.le_refl _,hA,rfl,hbk,hc⟩ ?_
  rintro next2 ⟨q,Mq,kq,Eq⟩ wq hn2 ⟨hq,hAq,hfq,hbq',hcq⟩
  dsimp only at hq hAq hfq hbq' ⊢
  simp -dsimp (disch:=first|omega|(simp only[go_sem,seval];try omega))only[go_sem,seval]
  refine BrW.dec (fun g2=>?_) (fun g2=>?_)
  ·obtain⟨n,hnn⟩:∃n:Nat,n=min q.length 4096:=⟨_,rfl⟩
   have en:min (q.length:Int) 4096=(n:Int):=by omega
   have hbq:=hAq.hb
   have hzq:=hcq.size
   have hA0:=hAq.chg0 (show Chg [] wq wq.drew from(Chg.refl _ _).drew)
   simp -dsimp (disch:=first|omega|(simp only[go_sem,seval];try omega))only[go_sem,seval,hbq,en,F2]
   obtain⟨c,hcc⟩:∃c,c=q.take n:=⟨_,rfl⟩
   rw[Nat.sub_zero,←hcc]
   have hcl:c.length≤4096:=by rw[hcc,List.length_take];omega
   have hkl:kq.length≤4:=hAq.kl
   refine OpX.call Wu rfl (Calls.ret (UF hA0.hb hkl c (by omega)) ?_)
   rintro v w1 ⟨ho,hb1,hc1⟩
   have hd:=Kq (kq++c)
   have hA1:=hA0.self hc1 hb1 hAq.eok hd.2.2 (RZ _)
   have hz1:wq.heap.size≤w1.heap.size:=hc1.size
   obtain⟨a1,cp1,rfl,-,hs1,-,hf1⟩:=ho.form
   have hb1':=hA1.hb
   have hlt:=Aa hbq
   dsimp only at hd hb1 ho hs1 hA1 hb1' hf1
   simp -dsimp (disch:=first|omega|(simp only[go_sem,seval];try omega))only[go_sem,seval,hb1']
   have hrl:(dec (kq++c)).1.length≤1000000:=by have:=hd.2.1;rw[List.length_append] at this;omega
   refine OpX.call ZQ rfl (Calls.ret (UR hA1.hb hA1.eok hs1 (fun b o hb hne=>by obtain⟨g,hg,hge,-⟩:=hf1 hne;rw[hg] at hb;cases hb;have h9:wq.heap.size≤b:=hge;omega) cp1 hrl hd.1) ?_)
   rintro v w2 ⟨ho2,hb2,hc2⟩
   have hfe:=Esc.feed_ok hA1.eok (l:=(dec (kq++c)).1) hd.1
   have hA2:=hA1.self hc2 hb2 hfe.1 hd.2.2 (RZ _)
   have hz2:=hc2.size
   obtain⟨a2,cp2,rfl,-,hs2,-,-⟩:=ho2.form
   have hb2':=hA2.hb
   dsimp only at hfe ho2 hs2 hA2 hb2'
   have hfar2:∀b o,a2=some ⟨b,o,none⟩→(Eq.feed (dec (kq++c)).1).2≠[]→b∉T.s::Mq.blk:=fun b o hb _ hm=>hA2.scr.at_.act_off ho2 b hm (by rw[hb];simp [Value.ownBlock])
   simp -dsimp (disch:=first|omega|(simp only[go_sem,seval];try omega))only[go_sem,seval,hb2']
   refine OpX.call XK rfl (Calls.ret (Xp hA2.scr.at_ hA2.scr.ok hs2 hfar2 cp2 (by omega) hfe.2.1) ?_)
   rintro v w3 hd3
   obtain⟨M3,hA3,hS3,hc3,hk3⟩:=hA2.did hd3 hA2.scr.ok.acts (by omega)
   simp -dsimp (disch:=first|omega|(simp only[go_sem,seval];try omega))only[go_sem,seval,F2,en]
   rw[List.take_of_length_le (by rw[List.length_drop];exact Nat.le_refl _)]
   have hfc:B3 Mq.S kq Eq c=(M3.S,(dec (kq++c)).2,(Eq.feed (dec (kq++c)).1).1):=by unfold B3;rw[hS3]
   refine hn2 (q.drop n,M3,(dec (kq++c)).2,(Eq.feed (dec (kq++c)).1).1) _ ⟨by dsimp only;rw[List.length_drop];omega,hA3,?_,fun x hx=>(hk3 x hx).elim (fun h=>hbq' x h) (fun h=>.inr (by omega)),?_⟩ (by dsimp only;rw[List.length_drop];omega)
   ·dsimp only
    rw[hfq]
    conv=>lhs;rw[←List.take_append_drop n q,←hcc,Y9,hfc]
   ·have hsm:∀x∈T.s::Mq.blk,x∈t::T.s::M.blk∨w.heap.size≤x:=by
     intro x hx
     rcases List.mem_cons.1 hx with rfl|hx
     ·exact .inl (by simp)
     ·exact(hbq' x hx).imp (fun h=>by simp [h]) id
    exact((hcq.trans (show Chg [t] wq w1 from hc1.low_drew) (by simp)).trans hc2 (by simp)).trans hc3 hsm
  ·have hq0:=Wa q g2
   subst hq0
   rw[fA _ _ hAq.dk] at hfq
   have e1:(i:Int)+1=((i+1:Nat):Int):=by omega
   simp -dsimp (disch:=first|omega|(simp only[go_sem,seval];try omega))only[go_sem,seval,e1]
   refine hn (i+1,Mq,kq,Eq) _ ⟨by dsimp only;omega,hAq,?_,hbq',hcq⟩ (by dsimp only;omega)
   dsimp only
   rw[Cd hi',←hp]
   unfold BW at hst ⊢
   rw[List.foldl_append,←hst]
   exact hfq.symm
 ·have hil:i=l.length:=by omega
  subst hil
  rw[List.take_length] at hst
  have hbi:=hA.hb
  simp -dsimp (disch:=first|omega|(simp only[go_sem,seval];try omega))only[go_sem,seval,hbi]
  have hc0:Chg [] wi wi.drew:=(Chg.refl _ _).drew
  have hA0:=hA.chg0 hc0
  have ok:=hA0.scr.ok
  have hz:=hc.size
  refine OpX.call Wi rfl (Calls.ret (iI hA0.scr.at_ ok.w0) ?_)
  rintro v w1 ⟨rfl,hS1,hc1⟩
  have hN1:=hA0.scr.gone hS1
  have hth:=hA0.t_h
  have hts:=hA0.t_s
  have hsh:=hA0.s_h
  have hb1:=hc1.keep hA0.hb (fun hm=>hts (by simp at hm;simp [hm]))
  have hH1:HAt w1 T.h G:=hA0.his.chg hc1 (fun x hx hm=>hsh T.s (by simp) (by simp at hm;subst hm;exact hx)) (fun r hr b o ha hne hm=>hA0.rows_s r hr b o ha hne (by simp at hm;simp [hm]))
  have hrows:∀r∈Mi.rows,SxC w1 (some 60) r.a r.cs:=fun r hr=>(hA0.scr.at_.rows r hr).chg hc1 fun b o ha hne=>by simp;exact(hA0.scr.at_.row_ne r hr b o ha hne).1
  have hown:Ox 0 w1 48 1 Rw.f Mi.gv Mi.rows:=hA0.scr.at_.own.chg hc1 fun b hb hm=>by
   simp at hm;subst hm
   exact hA0.scr.at_.s_own (by simp [←hb])
  obtain⟨ga,gc,hgv,-,hsg,-,-⟩:=hown.form
  have hgl:Mi.rows.length≤500:=by
   have:=ok.gl
   rw[hA0.scr.at_.gone] at this
   simpa using this
  have hgr:∀r∈Mi.rows,right r.cs=true∧r.cs.length=W:=by
   intro r hr
   have hm:r.cs∈Mi.S.gone:=by rw[hA0.scr.at_.gone];exact List.mem_map.2 ⟨r,hr,rfl⟩
   exact⟨(ok.gr _ hm).1,hA0.scr.gw _ hm⟩
  have hW:W≤200:=by have:=ok.w1;rw[hA0.scr.w] at this;exact this
  have hab:∀b o,ga=some ⟨b,o,none⟩→b∉T.h::G.blk:=fun b o hb hm=>hsh b (by simp only[Scm.blk];rw[hgv,hb];simp [Value.ownBlock]) hm
  rw[hgv]
  simp -dsimp (disch:=first|omega|(simp only[go_sem,seval];try omega))only[go_sem,seval,hb1]
  refine OpX.call Y8 rfl (Calls.ret (Zv hH1 hsg hab hrows (fun r hr=>by rw[(hgr r hr).2];omega) (by omega) gc) ?_)
  rintro v w2 ⟨G',hG',hroom,hlist,hc2,hblk,hall⟩
  have hz1:wi.heap.size≤w1.heap.size:=hc1.size
  have hc12:Chg (t::T.s::M.blk++T.h::G.blk) w w2:=by
   refine((hc.trans0 hc0).trans hc1 (by simp)).mono (F':=t::T.s::M.blk++T.h::G.blk) (fun x hx=>.inl (by simp at hx ⊢;rcases hx with h|h|h<;>simp [h])) |>.trans hc2 (fun x hx=>.inl (by simp at hx ⊢;rcases hx with h|h<;>simp [h]))
  have hgone:Mi.rows.map Rw.cs=Mi.S.gone:=hA0.scr.at_.gone.symm
  have hS':(Mi.S,k,E)=BW (M.S,T.kept,T.E) l:=hst
  have hs1:Mi.S=(BW (M.S,T.kept,T.E) l).1:=congrArg Prod.fst hS'
  refine hK _ _ ⟨{ Mi with S:={ Mi.S with gone:=[] },gv:=.slice none 0 0,rows:=[] },G',k,E,?_,?_,hroom,?_,hc12,rfl,?_⟩
  ·have hsub:∀x∈T.s::({ Mi with S:={ Mi.S with gone:=[] },gv:=.slice none 0 0,rows:=[] }:Scm).blk,x∈T.s::Mi.blk:=fun x hx=>by
    simp [Scm.blk,Value.ownBlock] at hx ⊢
    rcases hx with h|h|h<;>simp [h]
   have hS2:=hS1.chg hc2 (fun x hx hm=>hsh x (hsub x hx) hm) (by simp)
   refine⟨hc2.keep hb1 hth,⟨hS2,hN1.ok,hN1.w,hN1.h,hN1.gw,hN1.lo⟩,hG',hA0.eok,hA0.kl,hA0.dk,fun x hx=>?_,by simp [Value.ownBlock],fun r hr b o ha hne=>?_,fun y hy=>?_⟩
   ·simp only[List.mem_cons] at hx
    rcases hx with rfl|rfl|hx
    ·exact hA0.lo _ (by simp)
    ·exact hA0.lo _ (by simp)
    ·rcases hblk x hx with h|h
     ·exact hA0.lo _ (by simp [h])
     ·omega
   ·rcases hall r hr with h|h
    ·exact hA0.far r h b o ha hne
    ·have:=h b o ha hne
     have l0:=hS1.lt Mi.b0 (by simp [Scm.blk])
     have l1:=hS1.lt Mi.b1 (by simp [Scm.blk])
     exact⟨by show b≠Mi.b0;omega,by show b≠Mi.b1;omega⟩
   ·rw[hlist] at hy
    rcases OX hy with h|⟨z,hz,rfl⟩
    ·exact hA0.rw y h
    ·obtain⟨r,hr,rfl⟩:=List.mem_map.1 hz
     rw[Cj,(hgr r hr).2]
     exact⟨by have:=ok.w0;rw[hA0.scr.w] at this;exact this,hW⟩
  ·rw[←hS']
  ·rw[hlist,hgone,hs1]
  ·rintro x (rfl|rfl|hx|rfl|hx|⟨r,hr,hne,o,ha⟩)
   ·exact .inl (.inl rfl)
   ·exact .inl (.inr (.inl rfl))
   ·have hx':x∈Mi.blk:=by
     simp [Scm.blk,Value.ownBlock] at hx ⊢
     rcases hx with h|h<;>simp [h]
    exact(hbk x hx').imp (fun h=>.inr (.inr (.inl h))) id
   ·exact .inl (.inr (.inr (.inr (.inl rfl))))
   ·rcases hblk x hx with h|h
    ·exact .inl (.inr (.inr (.inr (.inr (.inl h)))))
    ·exact .inr (by omega)
   ·rcases hall r hr with h|h
    ·exact .inl (.inr (.inr (.inr (.inr (.inr ⟨r,h,hne,o,ha⟩)))))
    ·have:=h x o ha hne
     exact .inr (by omega)
end Go.Proofs.YtnpkidnbhlepkaaGreat
namespace Lyc
open Go
def Scr.rs0(S:Scr)(w h:Nat):Scr:={ S with w:=w,h:=h,top:=0,fin:=h }
def Scr.rsG(S:Scr)(a:Bool):Scr:=
 bif a then { S with g1:=S.g1.resize S.w S.h Cel.blank,s1:=⟨Ay S.s1.x S.w,Ay S.s1.y S.h,S.s1.pen⟩ }
 else { S with g0:=S.g0.resize S.w S.h Cel.blank,s0:=⟨Ay S.s0.x S.w,Ay S.s0.y S.h,S.s0.pen⟩ }
def Scr.stage(S:Scr)(w h:Nat):Nat→Scr
 | 0=>S.rs0 w h
 | 1=>(S.rs0 w h).rsG false
 | _=>((S.rs0 w h).rsG false).rsG true
end Lyc
namespace Go.Proofs.YtnpkidnbhlepkaaGreat
open Lyc Go Go.Proofs.Tryz
def Scm.setG(M:Scm)(a:Bool)(G:Gr)(b c:Nat)(p:List Value):Scm:=
 bif a then { M with S:={ M.S with g1:=G },b1:=b,c1:=c,p1:=p } else { M with S:={ M.S with g0:=G },b0:=b,c0:=c,p0:=p }
theorem SAt.newG{w w':World}{s:Nat}{M:Scm}(a:Bool)(h:SAt w s M)(c:Chg [] w w'){G:Gr}{d cap:Nat}{e:List Value}(k:G.cs.length≤cap)(f:w.heap.size≤d)(g:w'.heap[d]?=some (.cells (G.cs.flatMap Cel.cells++e).toArray 60)):
  SAt (Ab w' s (M.setG a G d cap e).obj) s (M.setG a G d cap e)∧Chg (s::M.blk) w (Ab w' s (M.setG a G d cap e).obj)∧∀b∈(M.setG a G d cap e).blk,b∈M.blk∨w.heap.size≤b:=by
 have i:=h.chg0 c;have j:=i.s_ne;have l:=h.lt;have m:=Aa i.hb;have n:=l M.b0 (by simp [Scm.blk]);have p:=l M.b1 (by simp [Scm.blk]);have q:=l s Z;have t:Chg [s] w' (Ab w' s (M.setG a G d cap e).obj):=(sg _ _).set _ _ Z;have u:=i.own.chg t λb g v=>by
  simp at v;subst v;exact i.s_own (by simp [←g])
 have x:∀r∈M.rows,SxC (Ab w' s (M.setG a G d cap e).obj) (some 60) r.a r.cs:=λr y=>(i.rows r y).chg t λb o z A=>by simp;exact(i.row_ne r y b o z A).1
 have B:(Ab w' s (M.setG a G d cap e).obj).heap[s]?=some (M.setG a G d cap e).obj:=Aw _ _ _ _ rfl m;have C:=t.keep i.h0 (by simp;omega);have D:=t.keep i.h1 (by simp;omega);have E:=t.keep g (by simp;omega);have F:Chg (s::M.blk) w (Ab w' s (M.setG a G d cap e).obj):=(c.mono Z).trans t Z;clear t;generalize Ab w' s (M.setG a G d cap e).obj=w2 at B C D E u x F ⊢;refine⟨?_,F,?_⟩
 ·cases a with
  | true=>exact⟨B,C,i.k0,E,k,by show M.b0≠d;omega,i.tl,u,x,λr y b o H A=>⟨(i.far r y b o H A).1,by have:=h.row_lt r y b o H A;show b≠d;omega⟩,i.gone⟩
  | false=>exact⟨B,E,k,D,i.k1,by show d≠M.b1;omega,i.tl,u,x,λr y b o H A=>⟨by have:=h.row_lt r y b o H A;show b≠d;omega,(i.far r y b o H A).2⟩,i.gone⟩
 ·intro b I;cases a<;>simp [Scm.setG,Scm.blk] at I ⊢<;>rcases I with rfl|rfl|I<;>first|(right;omega)|simp_all
theorem SAt.g0_s{w:World}{s:Nat}{M:Scm}(h:SAt w s M):SxC w (some 60) (some ⟨M.b0,0,none⟩) M.S.g0.cs:=⟨λ_=>⟨M.b0,0,_,_,_,[],M.p0,rfl,h.h0,by simp [Bz],Z,rfl⟩⟩
theorem SAt.g1_s{w:World}{s:Nat}{M:Scm}(h:SAt w s M):SxC w (some 60) (some ⟨M.b1,0,none⟩) M.S.g1.cs:=⟨λ_=>⟨M.b1,0,_,_,_,[],M.p1,rfl,h.h1,by simp [Bz],Z,rfl⟩⟩
theorem ZW{w:World}{s:Nat}{M:Scm}(h:SAt w s M)(w0:0<M.S.w)(a:0<M.S.h)(w1:M.S.w≤200)(b:M.S.h≤60)(x y:Int):Calls prog 200 #[.pointer (some ⟨s,0,none⟩),.int .i64 x,.int .i64 y] w
  (Ac λ_ c=>Did w s M c (M.S.move x y)):=by
 have d:=h.tl;apply Qq;intro K e;unfold JF;refine td Ij rfl (HZ h w1 b x y) ?_;rintro v w1 ⟨rfl,f⟩;have g:=h.chg0 f;have i:=g.hb;have j:=Aa i;have k:min (max x 0) ((M.S.w:Int)-1)=((Ay x M.S.w:Nat):Int):=by unfold Ay;omega
 have l:min (max y 0) ((M.S.h:Int)-1)=((Ay y M.S.h:Nat):Int):=by unfold Ay;omega
 rw[k,l];refine sq i ?_;exact e _ _ (Did.set g (f.mono Z) (λb i=>.inl i) _ rfl rfl d rfl)
theorem jI{w:World}{s:Nat}{M:Scm}(h:SAt w s M)(ok:M.S.ok)(W H:Nat)(a:0<W)(c:W≤200)(d:0<H)(e:H≤60):Calls prog 155 #[.pointer (some ⟨s,0,none⟩),.int .i64 W,.int .i64 H] w
  (Ac λv f=>v=.bool true∧Did w s M f (M.S.resize W H)):=by
 have g:BF W H=true:=by unfold BF;simp;omega
 have j:=h.hb;have k:=Aa j;have l:=h.tl;apply Yn;intro K m;unfold PC;refine sh (λv f=>v=.bool false∧Chg [] w f) ?_ ?_
 ·refine td HR rfl (HB h ok.w0) ?_;rintro v n ⟨rfl,rfl⟩;refine sn ?_;refine td E8 rfl (Ft w W H a c d e) ?_;rintro v n ⟨o,p⟩;obtain⟨r,t,rfl,u,y,z,A⟩:=o.sx;simp -dsimp (disch:=first|omega|(simp only[go_sem,seval];try omega))only[go_sem,seval,Gr.val];have B:=Gr.fit_plain a c d e;refine td C8 rfl (Dd B.ok A t u) ?_;rintro v C ⟨rfl,D⟩;simp -dsimp (disch:=first|omega|(simp only[go_sem,seval];try omega))only[go_sem,seval,B.r];exact p.trans0 D
 rintro v n ⟨rfl,p⟩;have E:=h.chg0 p;have F:=E.hb;have G:=Aa F;refine sq F ?_;have I:=E.set (M.S.rs0 W H) rfl rfl l rfl;have J:Chg (s::M.blk) w (Ab n s ({ M with S:=M.S.rs0 W H }:Scm).obj):=(p.mono Z).set _ _ (.inl Z);refine Loop1.st (λq:Nat × Scm=>.int .i64 (q.1:Int)) (λq f=>q.1≤2∧SAt f s q.2∧Chg (s::M.blk) w f∧(∀b∈q.2.blk,b∈M.blk∨w.heap.size≤b)∧q.2.S=M.S.stage W H q.1) (λq=>2-q.1) (0,{ M with S:=M.S.rs0 W H }) rfl ⟨Z,I,J,λb j=>.inl j,rfl⟩ ?_;rintro next ⟨i,N⟩ w2 L ⟨P,Q,R,T,U⟩
 dsimp only at P Q R T U ⊢;by_cases V:i<2
 ·rcases(show i=0∨i=1 by omega) with X|X
  ·have X:i=0:=O;subst X;dsimp only[Scr.stage] at U;have Y:=Q.chg0 (show Chg [] w2 w2.drew from(sg _ _).drew);have g:=Q.hb;have k:N.S.w=W:=by rw[U];rfl
   have o:N.S.h=H:=by rw[U];rfl
   have B:N.S.g0.fit M.S.w M.S.h:=by rw[U];exact ok.g0
   have y:=Q.tl;refine sq g ?_;refine td Ei rfl (Ej _) ?_;rintro v C ⟨rfl,D⟩;have z:=Y.chg0 D;have t:=z.hb;refine sq t ?_;refine td K3 rfl (SG B.ok B.r z.g0_s N.c0 z.k0 rC a c d e) ?_;rintro v u ⟨⟨r,A,F,rfl,p1,G,l⟩,E⟩;have f:Chg [] w2 u:=(((sg _ _).drew).trans0 D).trans0 E;have n:=D.size;have p:w2.heap.size≤C.heap.size:=n;obtain⟨I,J,P⟩:=Q.newG false f p1 O l;have V:=z.chg0 E;have hb4:=V.hb;have hl4:=Aa hb4;have hp:=N.wG0 (N.S.g0.resize W H Cel.blank) r A F y;simp -dsimp (disch:=first|omega|(simp only[go_sem,seval];try omega))only[go_sem,seval,Gr.val,hb4,hp];simp only[Scm.setG,cond_true,cond_false] at I J P;obtain⟨N5,hN5⟩:∃N5:Scm,N5={ N with S:={ N.S with g0:=N.S.g0.resize W H Cel.blank },b0:=r,c0:=A,p0:=F }:=⟨_,rfl⟩;rw[←hN5] at I J P ⊢;have e5:N5.S={ N.S with g0:=N.S.g0.resize W H Cel.blank }:=by rw[hN5]
   clear hN5;have hb5:=I.hb;have tl5:=I.tl;have hw5:N5.S.w=W:=by rw[e5];exact k
   have hh5:N5.S.h=H:=by rw[e5];exact o
   obtain⟨w5,hw5'⟩:∃w5,w5=Ab u s N5.obj:=⟨_,rfl⟩;rw[←hw5'] at I J hb5 ⊢;clear hw5';have hc5:=R.trans J (λx hx=>by
    rcases rM.1 hx with rfl|hx
    ·exact .inl Z
    ·exact(T x hx).imp (λh=>by simp [h]) id)
   have hz:=R.size
   (try refine sq hb5 ?_)
   refine td Ij rfl (HZ (I.chg0 (sg _ _).drew) O O _ _) ?_;rintro v w6 ⟨rfl,hc6⟩;have hN6:=I.chg0 (((sg _ _).drew).trans0 hc6);have hb6:=hN6.hb;have hl6:=Aa hb6;have x1:min (max (N.S.s0.x:Int) 0) ((N5.S.w:Int)-1)=((Ay N.S.s0.x W:Nat):Int):=by rw[hw5];unfold Ay;omega
   have x2:min (max (N.S.s0.y:Int) 0) ((N5.S.h:Int)-1)=((Ay N.S.s0.y H:Nat):Int):=by rw[hh5];unfold Ay;omega
   rw[x1,x2];refine sq hb6 ?_;have hc6':=hc5.trans0 (((sg _ _).drew).trans0 hc6);have kS:=hN6.set { N5.S with s0:=⟨Ay N.S.s0.x W,Ay N.S.s0.y H,N5.S.s0.pen⟩ } rfl rfl tl5 rfl;refine L (1,{ N5 with S:={ N5.S with s0:=⟨Ay N.S.s0.x W,Ay N.S.s0.y H,N5.S.s0.pen⟩ } }) _ ⟨by dsimp only;omega,kS,hc6'.set _ _ (.inl Z),λb j=>?_,?_⟩ (by dsimp only;omega)
   ·rcases P b j with h|h
    ·exact T b h
    ·exact .inr O
   ·dsimp only[Scr.stage];rw[e5,U];rfl
  ·have X:i=1:=O;subst X;dsimp only[Scr.stage] at U;have Y:=Q.chg0 (show Chg [] w2 w2.drew from(sg _ _).drew);have g:=Q.hb;have k:N.S.w=W:=by rw[U];rfl
   have o:N.S.h=H:=by rw[U];rfl
   have B:N.S.g1.fit M.S.w M.S.h:=by rw[U];exact ok.g1
   have y:=Q.tl;refine sq g ?_;refine td Ei rfl (Ej _) ?_;rintro v C ⟨rfl,D⟩;have z:=Y.chg0 D;have t:=z.hb;refine sq t ?_;refine td K3 rfl (SG B.ok B.r z.g1_s N.c1 z.k1 rC a c d e) ?_;rintro v u ⟨⟨r,A,F,rfl,p1,G,l⟩,E⟩;have f:Chg [] w2 u:=(((sg _ _).drew).trans0 D).trans0 E;have n:=D.size;have p:w2.heap.size≤C.heap.size:=n;obtain⟨I,J,P⟩:=Q.newG true f p1 O l;have V:=z.chg0 E;have hb4:=V.hb;have hl4:=Aa hb4;have hp:=N.wG1 (N.S.g1.resize W H Cel.blank) r A F y;simp -dsimp (disch:=first|omega|(simp only[go_sem,seval];try omega))only[go_sem,seval,Gr.val,hb4,hp];simp only[Scm.setG,cond_true,cond_false] at I J P;obtain⟨N5,hN5⟩:∃N5:Scm,N5={ N with S:={ N.S with g1:=N.S.g1.resize W H Cel.blank },b1:=r,c1:=A,p1:=F }:=⟨_,rfl⟩;rw[←hN5] at I J P ⊢;have e5:N5.S={ N.S with g1:=N.S.g1.resize W H Cel.blank }:=by rw[hN5]
   clear hN5;have hb5:=I.hb;have tl5:=I.tl;have hw5:N5.S.w=W:=by rw[e5];exact k
   have hh5:N5.S.h=H:=by rw[e5];exact o
   obtain⟨w5,hw5'⟩:∃w5,w5=Ab u s N5.obj:=⟨_,rfl⟩;rw[←hw5'] at I J hb5 ⊢;clear hw5';have hc5:=R.trans J (λx hx=>by
    rcases rM.1 hx with rfl|hx
    ·exact .inl Z
    ·exact(T x hx).imp (λh=>by simp [h]) id)
   have hz:=R.size
   (try refine sq hb5 ?_)
   refine td Ij rfl (HZ (I.chg0 (sg _ _).drew) O O _ _) ?_;rintro v w6 ⟨rfl,hc6⟩;have hN6:=I.chg0 (((sg _ _).drew).trans0 hc6);have hb6:=hN6.hb;have hl6:=Aa hb6;have x1:min (max (N.S.s1.x:Int) 0) ((N5.S.w:Int)-1)=((Ay N.S.s1.x W:Nat):Int):=by rw[hw5];unfold Ay;omega
   have x2:min (max (N.S.s1.y:Int) 0) ((N5.S.h:Int)-1)=((Ay N.S.s1.y H:Nat):Int):=by rw[hh5];unfold Ay;omega
   rw[x1,x2];refine sq hb6 ?_;have hc6':=hc5.trans0 (((sg _ _).drew).trans0 hc6);have kS:=hN6.set { N5.S with s1:=⟨Ay N.S.s1.x W,Ay N.S.s1.y H,N5.S.s1.pen⟩ } rfl rfl tl5 rfl;refine L (2,{ N5 with S:={ N5.S with s1:=⟨Ay N.S.s1.x W,Ay N.S.s1.y H,N5.S.s1.pen⟩ } }) _ ⟨by dsimp only;omega,kS,hc6'.set _ _ (.inl Z),λb j=>?_,?_⟩ (by dsimp only;omega)
   ·rcases P b j with h|h
    ·exact T b h
    ·exact .inr O
   ·dsimp only[Scr.stage];rw[e5,U];rfl
 ·have X:i=2:=O;subst X;dsimp only[Scr.stage] at U;have g:=Q.hb;have a:=Aa g;have k:N.S.w=W:=by rw[U];rfl
  have o:N.S.h=H:=by rw[U];rfl
  refine sq g ?_;refine td D7 rfl (ZW (Q.chg0 (show Chg [] w2 w2.drew from(sg _ _).drew)) O O O O N.S.now.x N.S.now.y) ?_;rintro v C ⟨c,z,d,D,e⟩;have t:=z.hb;have r:=Aa t;have B:=z.tl;refine sq t ?_;have hz:=R.size;refine m _ _ ⟨rfl,_,z.set { c.S with waits:=false } rfl rfl B rfl,?_,?_,λb j=>?_⟩
  ·show { c.S with waits:=false }=_;rw[d,U];unfold Scr.move;rw[←U,k,o,U];rfl
  ·refine(R.trans D.low_drew λx hx=>?_).set _ _ (.inl Z);rcases rM.1 hx with rfl|hx
   ·exact .inl Z
   ·exact(T x hx).imp (λh=>by simp [h]) id
  ·rcases e b j with h|h
   ·exact T b h
   ·have L:w2.heap.size≤b:=h;exact .inr O
theorem Yt(w:World)(W H:Nat)(a:0<W)(b:W≤200)(c:0<H)(d:H≤60)(e:Int):Calls prog 91 #[.int .i64 W,.int .i64 H,.int .i64 e] w
  (Ac λv w'=>∃t s h M G,v=.pointer (some ⟨t,0,none⟩)∧TmAt w.heap.size w' t W H ⟨s,h,[],Esc.new⟩ M G∧M.S=Scr.new W H∧G.list=[]∧G.room=(min (max e 0) 500).toNat∧Chg [] w w'∧(∀x,FY t ⟨s,h,[],Esc.new⟩ M G x→w.heap.size≤x)∧M.rows=[]):=by
 apply cy;intro K f;unfold SM;refine td ZE rfl (VV w W H a b c d) ?_;rintro v g ⟨s,M,rfl,i,j,k⟩;refine sn ?_;refine td U7 rfl (X6 g e) ?_;rintro v w2 ⟨G,rfl,m,n,p,q,u⟩;have y:=k.size;have z:=i.chg0 u;have A:=Aa m.hb;have B:G.all=[]:=by
  have:=G.list_len;rw[p] at this;exact rQ this.symm
 refine sn ?_;refine f _ _ ⟨w2.heap.size,s,g.heap.size,M,G,rfl,?_,j,p,q,(k.trans0 u).alloc _,?_,?_⟩
 rotate_left
 ·rintro x (rfl|rfl|C|rfl|C|⟨r,D,E,o,F⟩)
  ·have:=u.size;omega
  ·exact i.lo _ Z
  ·exact i.lo _ (by simp [C])
  ·exact y
  ·rw[n] at C;simp at C
  ·rw[B] at D;simp at D
 ·have I:=i.at_.gone;rw[j] at I;cases D:M.rows with
  | nil=>rfl
  | cons r l=>rw[D] at I;simp [Scr.new] at I
 have J:=Ar w2 (.cells #[.pointer (some ⟨s,0,none⟩),.string ⟨#[]⟩,.int .i64 0,.int .u8 0,.int .u8 0,.int .i64 0,.int .i64 0,.int .i64 0,.int .i64 0,.int .i64 0,.int .i64 0,.int .i64 0,.int .i64 0,.int .i64 0,.pointer (some ⟨g.heap.size,0,none⟩)] 207);refine⟨Lyc.heap_alloc_new _ _ _ rfl,z.chg0 J,m.chg0 J,Esc.new_ok,Z,rfl,λx C=>?_,by rw[n];simp,by rw[B];simp,by rw[p];simp⟩;rw[n] at C;simp at C;omega
section
variable {base:Nat} {w w':World} {t W H:Nat} {T:Tm} {M:Scm} {G:Hs}
theorem XH(h:TmAt base w t W H T M G):Calls prog 149 #[.pointer (some ⟨t,0,none⟩)] w (Ac λv w'=>GAt w.heap.size w' v M.S.cur∧Chg [] w w'):=by
 apply cD;intro K a;unfold Sz;refine sn ?_;obtain⟨b,hw1⟩:∃b,b=w.alloc (.cells #[.int .i64 0,.int .i64 0,.slice none 0 0] 50):=⟨_,rfl⟩;have c:Chg [] w b:=by rw[hw1];exact sy
 have d:b.heap[w.heap.size]?=some (.cells #[.int .i64 0,.int .i64 0,.slice none 0 0] 50):=by rw[hw1];exact so
 rw[←hw1];clear hw1;have e:=h.chg0 c;have f:=e.hb;have g:=c.size;refine sq f ?_;refine td dZ rfl (hO e.scr.at_ e.scr.ok) ?_;rintro v w2 ⟨⟨i,j,k,rfl,l,m,n⟩,o⟩;have p:=o.keep d Z;have q:=Aa p;simp -dsimp (disch:=first|omega|(simp only[go_sem,seval];try omega))only[go_sem,seval,Gr.val,p];have r:=Aa d;have s:Chg [w.heap.size] w2 (Ab w2 w.heap.size (.cells #[.int .i64 M.S.cur.w,.int .i64 M.S.cur.h,.slice (some ⟨i,0,none⟩) M.S.cur.cs.length j] 50)):=(sg _ _).set _ _ Z;refine a _ _ ⟨⟨i,j,k,rfl,l,O,?_⟩,(c.trans0 o).trans s Z⟩;exact s.keep n (by simp;omega)
theorem je(h:TmAt base w t W H T M G):Calls prog 111 #[.pointer (some ⟨t,0,none⟩)] w (Ac λv w'=>v=.int .i64 G.list.length∧Chg [] w w'):=by
 have a:=h.hb;apply iZ;intro K b;unfold Sf;refine sq a ?_;refine td Sm rfl (P9 h.his) ?_;rintro v c ⟨rfl,rfl⟩;exact b _ _ ⟨rfl,sg _ _⟩
def CC(S:Scr)(L:List (List Cel))(a:Int):Gr:=Gr.of S.cur.w S.cur.h (BJ S.cur L (L.length-min a.toNat L.length))
theorem gM(h:TmAt base w t W H T M G)(a:Int):Calls prog 79 #[.pointer (some ⟨t,0,none⟩),.int .i64 a] w (Ac λv w'=>GAt w.heap.size w' v (CC M.S G.list a)∧Chg [] w w'):=by
 apply YX;intro K b;unfold Nv;refine sn ?_;obtain⟨c,hw1⟩:∃c,c=w.alloc (.cells #[.int .i64 0,.int .i64 0,.slice none 0 0] 50):=⟨_,rfl⟩;have d:Chg [] w c:=by rw[hw1];exact sy
 have e:c.heap[w.heap.size]?=some (.cells #[.int .i64 0,.int .i64 0,.slice none 0 0] 50):=by rw[hw1];exact so
 rw[←hw1];clear hw1;have f:=h.chg0 d;have g:=f.hb;have i:=d.size;refine sq g ?_;have j:=f.chg0 (show Chg [] c c.drew from(sg _ _).drew);refine td km rfl (XH j) ?_;rintro v w2 ⟨⟨k,m,n,rfl,o,p,q⟩,r⟩;have s:=r.low_drew;have u:=f.chg0 s;have x:=u.hb;have y:=u.scr.ok.cur;have z:SxC w2 (some 60) (some ⟨k,0,none⟩) M.S.cur.cs:=⟨λ_=>⟨k,0,_,_,_,[],n,rfl,q,by simp [Bz],Z,rfl⟩⟩;have A:∀l∈G.list,0<l.length∧l.length≤1000:=λl B=>by have:=u.rw l B;omega
 refine sq x ?_;refine td iG rfl (aE u.his y.ok y.r z m o A a) ?_;rintro v C ⟨⟨D,E,F,rfl,I,J,L⟩,N⟩;have P:=N.keep (s.keep e Z) Z;have Q:=Aa P;have R:=s.size;simp -dsimp (disch:=first|omega|(simp only[go_sem,seval];try omega))only[go_sem,seval,Gr.val,P];have S:=Aa e;obtain⟨V,hV⟩:∃V,V=Gr.of M.S.cur.w M.S.cur.h (BJ M.S.cur G.list (G.list.length-min a.toNat G.list.length)):=⟨_,rfl⟩;rw[←hV] at I L ⊢;have U:Chg [w.heap.size] C (Ab C w.heap.size (.cells #[.int .i64 V.w,.int .i64 V.h,.slice (some ⟨D,0,none⟩) V.cs.length E] 50)):=(sg _ _).set _ _ Z;refine b _ _ ⟨⟨D,E,F,?_,?_,O,?_⟩,((d.trans0 s).trans0 N).trans U Z⟩
 ·rw[CC,←hV];rfl
 ·rw[CC,←hV];exact I
 ·rw[CC,←hV];exact U.keep L (by simp;omega)
end
theorem an{g:Gr}(a:g.ok)(b:g.right=true){L:List (List Cel)}{n:Nat}(c:n≤L.length):∀y,y<g.h→(BJ g L n y).length=g.w∧Lyc.right (BJ g L n y)=true:=by
 intro y d;unfold BJ;split
 ·exact⟨by rw[Cj,J0],Ea _⟩
 ·exact⟨a.row_len O,Gr.right.at b O⟩
theorem Wz{S:Scr}(h:S.ok){L:List (List Cel)}(a:Int):(CC S L a).fit S.w S.h:=by
 have b:=h.cur;have c:=an b.ok b.r (show L.length-min a.toNat L.length≤L.length by omega);refine⟨Gr.of_ok b.ok.w0 b.ok.w1 b.ok.h0 b.ok.h1 λy d=>(c y d).1,Gr.right_of λy d=>?_,b.w,b.h⟩;have e:(CC S L a).row y=BJ S.cur L (L.length-min a.toNat L.length) y:=Gr.of_row (λy d=>(c y d).1) d;rw[e];exact(c y d).2
theorem bu{base:Nat}{w:World}{t W H:Nat}{T:Tm}{M:Scm}{G:Hs}(h:TmAt base w t W H T M G)(c:M.rows=[])(d:base≤w.heap.size)(f g:Nat)(i:0<f)(j:f≤200)(k:0<g)(m:g≤60):
  Calls prog 90 #[.pointer (some ⟨t,0,none⟩),.int .i64 f,.int .i64 g] w
  (Ac λv w'=>v=.bool true∧∃n,TmAt base w' t f g T n G∧n.rows=[]∧Chg (T.s::M.blk) w w'∧(∀b∈n.blk,b∈M.blk∨w.heap.size≤b)∧n.S=M.S.resize f g):=by
 have p:=h.hb;apply U2;intro K q;unfold Mz;refine sq p ?_;refine td ca rfl (jI h.scr.at_ h.scr.ok f g i j k m) ?_;rintro v s ⟨rfl,n,a,e,u,y⟩;have z:M.S.gone=[]:=by rw[h.scr.at_.gone,c];rfl
 have A:n.S.gone=[]:=by rw[e];exact z
 obtain⟨B,C,D⟩:=h.scr.ok.resize i j k m;have E:=h.s_h;have F:=h.his.blk_lt;have I:=h.t_s;refine q _ _ ⟨rfl,n,⟨u.keep h.hb I,⟨a,by rw[e];exact B,by rw[e];exact C,by rw[e];exact D,by rw[A];simp,λx J=>?_⟩,h.his.chg u (λx J c=>E x c J) h.rows_s,h.eok,h.kl,h.dk,h.lo,λx J c=>?_,λr L b o N P=>?_,h.rw⟩,?_,u,y,e⟩
 ·rcases rM.1 J with rfl|J
  ·exact h.scr.lo _ Z
  ·rcases y x J with Q|Q
   ·exact h.scr.lo _ (by simp [Q])
   ·omega
 ·rcases y x (by simp [Scm.blk,J]) with Q|Q
  ·exact E x (by simp [Q]) (by simp [c])
  ·have:=F x (by simp [c]);omega
 ·have R:=(h.his.rows r L).lt P N;have S:=h.rows_s r L b o N P;refine⟨λe=>?_,λe=>?_⟩
  ·rcases y n.b0 (by simp [Scm.blk]) with Q|Q
   ·exact S (by rw[e];simp [Q])
   ·omega
  ·rcases y n.b1 (by simp [Scm.blk]) with Q|Q
   ·exact S (by rw[e];simp [Q])
   ·omega
 ·have:=a.gone;rw[A] at this;cases L:n.rows with
  | nil=>rfl
  | cons r l=>rw[L] at this;simp at this
set_option maxRecDepth 100000
def PK(a:Value)(K:rD):rE:=xB 65 a λb=>xQ (.makeFunc (.func 154) #[] #[.const b]) 167 λb=>K b
theorem aB(a:Value):Lk 86 #[a] (PK a):=lk [a] [] func86
theorem XE:Ad prog 86:=bd func86
def O4(a b:Value)(K:rD):rE:=xL 65 b λc=>xQ (.range 65 (.const c)) 0 λc=>Loop0 λd=>xQ (.next (.const c) false) 0 λe=>xE e 0 4 λe=>xW e (xQ (.entry (.const c)) 0 λe=>xE e 0 3 λe=>xQ (.call { callee:=.value (.const a),args:=#[.const e],argTypes:=#[3] }) 4 λe=>xN 4 e λe=>xW e (K (.tuple #[]))<|d)<|K (.tuple #[])
theorem Zk(a b:Value):Lk 154 #[a,b] (O4 a b):=lk [a,b] [(3,[])] func154
theorem ic:Ad prog 154:=bd func154
def QL(a b:Value)(K:rD):rE:=xB 117 a λc=>RngX prog b 1 (λvs1 bg1 kn1 _ _=>bg1<|xL 117 c λd=>xQ (.buildSlice 117 1 #[(0,.const (BA vs1 0))]) 117 λe=>xV d e 117 117 117 λe=>xS 117 c e<|kn1) (λr1=>xL 117 c λe=>B0 (Cr r1 (.tuple #[]))<|K e) (λ_ _=>False) []
theorem T8(a b:Value):Lk 195 #[a,b] (QL a b):=lk [a,b] [] func195
theorem jV:Ad prog 195:=bd func195
def Sy(a:Value)(K:rD):rE:=xC 195 [.const (.slice none 0 0),.const a] [117,168] 117 λb=>K b
theorem hJ(a:Value):Lk 152 #[a] (Sy a):=lk [a] [] func152
theorem gW:Ad prog 152:=bd func152
def SA(a:Value)(K:rD):rE:=xC 152 [.const a] [168] 117 λb=>xC 153 [.const b] [117] 0 λ_=>K b
theorem YE(a:Value):Lk 85 #[a] (SA a):=lk [a] [] func85
theorem Vr:Ad prog 85:=bd func85
end Go.Proofs.YtnpkidnbhlepkaaGreat
namespace Lyc
open Go
section
variable {P:Program}
theorem fx{t a r c:Nat}{b:Array MapEntry}{K:Value→World→Prop}{w:World}(d:Ae P t=some 5)(f:w.heap[r]?=some (.map b c)):
  OpX P (.range t (.const (.map (some r)))) a K w=K (.pointer (some ⟨w.heap.size,0,none⟩)) (w.alloc (.mapIter (some r) c #[] c)):=by
 obtain⟨k,e,g⟩:=jt d;refine Bc λρ h=>?_;simp [execOp,Ap,h.1,Instr.range,run_underlying g,E6 f,Si]
theorem cS{a b r c:Nat}{d:Array Nat}{f:Array MapEntry}{K:Value→World→Prop}{w:World}(g:w.heap[b]?=some (.mapIter (some r) c d c))(h:w.heap[r]?=some (.map f c))(i:∀x∈f.toList,x.born<c)(j:(∀x∈f.toList,x.born∈d.toList)→K (.tuple #[.bool false]) w)(k:∀e∈f.toList,e.born∉d.toList→∀w1,(w1=w∨w1=w.drew)→K (.tuple #[.bool true,e.key,e.val]) (Ab w1 b (.mapIter (some r) c (d.push e.born) c))):
  OpX P (.next (.const (.pointer (some ⟨b,0,none⟩))) false) a K w:=by
 refine⟨λρ l=>?_⟩;have e:execOp ρ (Ap (.next (.const (.pointer (some ⟨b,0,none⟩))) false) a)=(do return Next.value (←Instr.next (.pointer (some ⟨b,0,none⟩)) false a)):=by
  simp [execOp,Ap,l.1]
 rw[e];rcases run_next_at (P:=P) w a b r c c d f c g h i (rH _) with ⟨m,n⟩|⟨x,o,w1,p,n⟩
 ·rw[Sem.run_bind,n];refine j λx o=>?_;have:leftOf f d=#[]:=Array.eq_empty_of_size_eq_zero m;unfold leftOf at this;rw[Array.filter_eq_empty_iff] at this;have:=this x (by simpa using o);simpa using this
 ·rw[Sem.run_bind,n];unfold leftOf at o;simp at o;exact k x (by simpa using o.1) (by simpa using o.2) w1 p
theorem Z1{a b r c:Nat}{d:Array Nat}{f:Array MapEntry}{e:MapEntry}{K:Value→World→Prop}{w:World}(g:w.heap[b]?=some (.mapIter (some r) c (d.push e.born) c))(h:w.heap[r]?=some (.map f c))(i:e∈f.toList)(j:(f.toList.map (·.born)).Nodup):
  OpX P (.entry (.const (.pointer (some ⟨b,0,none⟩)))) a K w=K (.tuple #[e.key,e.val]) w:=by
 refine Bc λρ k=>?_;simp [execOp,Ap,k.1,run_entry_at w b r c d f c e g h i j]
end
end Lyc
namespace Go.Proofs.YtnpkidnbhlepkaaGreat
open Lyc Go Go.Proofs.Tryz
@[go_sem] theorem qE:C4 prog 65 .i64=some (.pointer none):=by
 have h:Ck prog 65=some (.i64,.pointer none):=by kernel_rfl
 simp [C4,h]
@[go_sem] theorem kQ:F0 prog 65=some .i64:=by
 have h:Ck prog 65=some (.i64,.pointer none):=by kernel_rfl
 simp [F0,h]
@[go_sem] theorem mg:C4 prog 82 .i64=some (.pointer none):=by
 have h:Ck prog 82=some (.i64,.pointer none):=by kernel_rfl
 simp [C4,h]
def ebo(x:Int × Value × Nat):Nat:=x.2.2
theorem MH{l:AQ}{x:MapEntry}(h:x∈(AE .i64 l).toList):∃y∈l,x=⟨.int .i64 y.1,y.2.1,y.2.2⟩:=by
 simp only[AE,List.mem_map] at h;obtain⟨y,a,rfl⟩:=h;exact⟨y,a,rfl⟩
theorem W6(l:AQ):(AE .i64 l).toList.map (·.born)=l.map ebo:=by
 simp [AE,ebo,Function.comp_def]
theorem Mf:∀{l:AQ},(l.map ebo).Nodup→∀{x y:Int × Value × Nat},x∈l→y∈l→ebo x=ebo y→x=y
 | [],_,_,_,h,_,_=>by simp at h
 | a::l,hn,x,y,hx,hy,he=>by
  rw[List.map_cons,List.nodup_cons] at hn;rcases rM.1 hx with rfl|b<;>rcases rM.1 hy with rfl|c
  ·rfl
  ·exact absurd (he ▸ List.mem_map.2 ⟨y,c,rfl⟩) hn.1
  ·exact absurd (he ▸ List.mem_map.2 ⟨x,b,rfl⟩) hn.1
  ·exact Mf hn.2 b c he
theorem Y3{w:World}{pt m c:Nat}{l:AQ}(hb:w.heap[pt]?=some (.cells #[.map (some m)] 65))(hm:w.heap[m]?=some (.map (AE .i64 l) c))(hlt:∀x∈l,ebo x<c)(hnd:(l.map ebo).Nodup){yv:Value}(I:List Int→World→Prop)(h0:∀w1,Chg [] w w1→I [] w1)(hI:∀ks w1 w2,I ks w1→Chg [w.heap.size] w1 w2→I ks w2)(hM:∀ks w1,I ks w1→w1.heap[m]?=some (.map (AE .i64 l) c))(hy:∀ks x w1,I ks w1→x∈l→ks.length<l.length→Bm prog yv [.int .i64 x.1] (λv w2=>v=.bool true∧I (ks++[x.1]) w2∧∃G,Chg G w1 w2∧w.heap.size∉G) w1):
  Calls prog 154 #[yv,.pointer (some ⟨pt,0,none⟩)] w (Ac λ_ w'=>∃ks,ks.Perm (l.map (·.1))∧I ks w'):=by
 apply Zk;intro K hK;unfold O4;refine sq hb ?_;rw[fx YC.1 hm];have hndl:l.Nodup:=by
  have:(l.map ebo).Pairwise (·≠·):=hnd;exact(List.pairwise_map.1 this).imp λh e=>h (by rw[e])
 have hborn:∀x∈(AE .i64 l).toList,x.born<c:=by
  intro x hx;obtain⟨y,hy,rfl⟩:=MH hx;exact hlt y hy
 refine Loop0.st (λ(done:AQ) w1=>(∀x∈done,x∈l)∧(done.map ebo).Nodup∧I (done.map (·.1)) w1∧w1.heap[w.heap.size]?=some (.mapIter (some m) c (done.map ebo).toArray c)) (λdone=>l.length-done.length) [] ⟨Z,Z,h0 _ (Ar _ _),Lyc.heap_alloc_new _ _ _ rfl⟩ ?_;rintro next done w1 hn ⟨hd,hdn,hi,hit⟩
 have hm1:=hM _ _ hi;refine cS hit hm1 hborn (λhover=>?_) (λe he hne w2 hw2=>?_)
 ·refine sn ?_;refine hK _ _ ⟨done.map (·.1),List.Perm.map _ ?_,hi⟩;have hdl:done.Nodup:=by
   have:(done.map ebo).Pairwise (·≠·):=hdn;exact(List.pairwise_map.1 this).imp λh e=>h (by rw[e])
  refine(List.perm_ext_iff_of_nodup hdl hndl).2 λx=>⟨hd x,λhx=>?_⟩;have:=hover ⟨.int .i64 x.1,x.2.1,x.2.2⟩ (by simp only[AE,List.mem_map];exact⟨x,hx,rfl⟩);simp only[List.mem_map] at this;obtain⟨y,hyd,hy2⟩:=this;have hyl:=hd y hyd;rw[←Mf hnd hyl hx hy2];exact hyd
 ·obtain⟨y,hyl,rfl⟩:=MH he;have hnd':ebo y∉done.map ebo:=by simpa [ebo] using hne
  have hit2:w2.heap[w.heap.size]?=some (.mapIter (some m) c (done.map ebo).toArray c):=by rcases hw2 with rfl|rfl<;>exact hit
  have hc2:Chg [] w1 w2:=by rcases hw2 with rfl|rfl;exact sg _ _;exact(sg _ _).drew
  have hl2:=Aa hit2;have hc3:Chg [w.heap.size] w1 (Ab w2 w.heap.size (.mapIter (some m) c ((done.map ebo).toArray.push y.2.2) c)):=(hc2.mono Z).set _ _ Z;have hi3:=hI _ _ _ hi hc3;have hit3:(Ab w2 w.heap.size (.mapIter (some m) c ((done.map ebo).toArray.push y.2.2) c)).heap[w.heap.size]?=some (.mapIter (some m) c ((done.map ebo).toArray.push y.2.2) c):=Aw _ _ _ _ rfl hl2;generalize Ab w2 _ _=w3 at hc3 hi3 hit3 ⊢;have hm3:=hM _ _ hi3;refine sn ?_;rw[Z1 (e:=⟨.int .i64 y.1,y.2.1,y.2.2⟩) hit3 hm3 he (by rw[W6];exact hnd)];refine sn ?_;have hdl:done.length<l.length:=by
   have h1:(done.map ebo++[ebo y]).Nodup:=by
    rw[List.nodup_append];exact⟨hdn,Z,by intro a ha b hb;simp at hb;subst hb;rintro rfl;exact hnd' ha⟩
   have h2:=List.Nodup.length_le_of_subset h1 (l₂:=l.map ebo) (by
    intro a ha;rcases List.mem_append.1 ha with ha|ha
    ·obtain⟨z,hz,rfl⟩:=List.mem_map.1 ha;exact List.mem_map.2 ⟨z,hd z hz,rfl⟩
    ·simp at ha;subst ha;exact List.mem_map.2 ⟨y,hyl,rfl⟩)
   simp at h2;omega
  refine(hy _ y w3 hi3 hyl (by simpa using hdl)).use ?_;rintro v w4 ⟨rfl,hi4,G,hc4,hG⟩;refine sn ?_;have hit4:=hc4.keep hit3 hG;refine hn (done++[y]) _ ⟨?_,?_,?_,?_⟩ (by simp;omega)
  ·intro x hx;rcases List.mem_append.1 hx with hx|hx
   ·exact hd x hx
   ·simp at hx;subst hx;exact hyl
  ·rw[List.map_append,List.nodup_append];exact⟨hdn,Z,by intro a ha b hb;simp at hb;subst hb;rintro rfl;exact hnd' ha⟩
  ·simpa using hi4
  ·rw[hit4];simp [ebo]
def G5(pt:Nat):Value:=.func (.func 154) #[] #[.pointer (some ⟨pt,0,none⟩)]
theorem Zc{w:World}{m c:Nat}{l:AQ}(a:w.heap[m]?=some (.map (AE .i64 l) c)):Calls prog 86 #[.map (some m)] w
  (Ac λv b=>v=G5 w.heap.size∧b.heap[w.heap.size]?=some (.cells #[.map (some m)] 65)∧Chg [] w b):=by
 apply aB;intro K d;unfold PK;refine sn ?_;exact d _ _ ⟨rfl,Lyc.heap_alloc_new _ _ _ rfl,Ar _ _⟩
theorem jo{w:World}{pt m c:Nat}{l:AQ}(hb:w.heap[pt]?=some (.cells #[.map (some m)] 65))(hm:w.heap[m]?=some (.map (AE .i64 l) c))(hlt:∀x∈l,ebo x<c)(hnd:(l.map ebo).Nodup)(hlen:l.length≤1000000):
  Calls prog 195 #[.slice none 0 0,G5 pt] w (Ac λv w'=>∃ks,ks.Perm (l.map (·.1))∧Ox w.heap.size w' 3 1 CJ v ks∧Chg [] w w'):=by
 have hlp:=Aa hb;have hlm:=Aa hm;apply T8;intro K hK;unfold QL;refine sn ?_;have hc0:=Ar w (.cells #[.slice none 0 0] 117);have hb0:=Lyc.heap_alloc_new w (.cells #[.slice none 0 0] 117) _ rfl;have hz0:(w.alloc (.cells #[.slice none 0 0] 117)).heap.size=w.heap.size+1:=by exact so
 generalize w.alloc (.cells #[.slice none 0 0] 117)=w0 at hc0 hb0 hz0 ⊢;refine⟨λLp yv hyv=>⟨_,[],_,rfl,ic,?_⟩⟩;have hl:((w0.alloc (.deferred (some []))).alloc (Lp .ready)).heap[w0.heap.size+1]?=some (Lp .ready):=by exact so
 have hr:((w0.alloc (.deferred (some []))).alloc (Lp .ready)).heap[w0.heap.size]?=some (.deferred (some [])):=by exact so
 have hc1:=By w0 (.deferred (some [])) (Lp .ready);have hz1:((w0.alloc (.deferred (some []))).alloc (Lp .ready)).heap.size=w0.heap.size+2:=by exact so
 generalize (w0.alloc (.deferred (some []))).alloc (Lp .ready)=w1 at hl hr hc1 hz1 ⊢;have hc01:=hc0.trans0 hc1;have hb1:=hc1.keep hb0 Z;refine se (Y3 (w:=w1) (pt:=pt) (m:=m) (c:=c) (l:=l) (hc01.keep hb Z) (hc01.keep hm Z) hlt hnd
  (λks w2=>w2.heap[w0.heap.size+1]?=some (Lp .ready)∧Chg [w.heap.size,w0.heap.size+1] w1 w2∧∃v,w2.heap[w.heap.size]?=some (.cells #[v] 117)∧Ox (w1.heap.size+1) w2 3 1 CJ v ks) ?_ ?_ ?_ ?_) ?_
 ·exact λw2 hc2=>⟨hc2.keep hl Z,hc2.mono Z,_,hc2.keep hb1 Z,Ox.nil _ _ _ _ _⟩
 ·rintro ks w2 w3 ⟨h1,h2,v,h3,h4⟩ hc;exact⟨hc.keep h1 (by simp;omega),h2.trans hc Z,v,hc.keep h3 (by simp;omega),h4.low hc Z⟩
 ·rintro ks w2 ⟨h1,h2,v,h3,h4⟩;exact h2.keep (hc01.keep hm Z) (by simp;omega)
 ·rintro ks x w2 ⟨h1,h2,v,h3,h4⟩ hx hlen';refine hyv _ _ _ rfl h1 ⟨h1,?_⟩;have hl1:=Aa h1;have hl3:=Aa h3;have hc3:Chg [w0.heap.size+1] w2 (Ab w2 (w0.heap.size+1) (Lp .busy)):=(sg _ _).set _ _ Z;have h1':(Ab w2 (w0.heap.size+1) (Lp .busy)).heap[w0.heap.size+1]?=some (Lp .busy):=Aw _ _ _ _ rfl hl1;have h3':=hc3.keep h3 (by simp;omega);have h4':=h4.low hc3 (by simp;omega);have h2':Chg [w.heap.size,w0.heap.size+1] w1 (Ab w2 (w0.heap.size+1) (Lp .busy)):=h2.trans hc3 Z;generalize Ab w2 _ _=w3 at hc3 h1' h3' h4' h2' ⊢;have hl3':=Aa h3';obtain⟨a,cap,rfl,hcp,hsx,hown,-⟩:=h4'.form;simp -dsimp (disch:=first|omega|(simp only[go_sem,seval];try omega))only[go_sem,seval,h3',BA];have hs2:=h2'.size;have hca:=Ar w3 (.cells #[.int .i64 x.1] 3);have ho:=h4'.chg0 hca;have hsa:Sx (w3.alloc (.cells #[.int .i64 x.1] 3)) (some 3) CJ (some ⟨w3.heap.size,0,none⟩) [x.1]:=Sx.built (c:=[.int .i64 x.1]) (by exact so) rfl;have hb3:=hca.keep h3' Z;have hb3':=hca.keep h1' Z;have hz3:(w3.alloc (.cells #[.int .i64 x.1] 3)).heap.size=w3.heap.size+1:=by exact so
  generalize w3.alloc _=w4 at hca ho hsa hb3 hb3' hz3 ⊢;refine Bd LH iD WS ho hsa rfl (by simp;omega) O O ?_;intro v' w5 ho5 hc5 _;have hge:=ho.own_ge;have hb5:=hc5.keep hb3 (λhm=>by have:=hge _ hm;omega);have hb5':=hc5.keep hb3' (λhm=>by have:=hge _ hm;omega);have hl5:=Aa hb5;have hl5':=Aa hb5';obtain⟨a5,cap5,rfl,-,-,hown5,-⟩:=ho5.form;have hc6:Chg [w.heap.size,w0.heap.size+1] w5 (Ab (Ab w5 w.heap.size (.cells #[.slice a5 (ks++[x.1]).length cap5] 117)) (w0.heap.size+1) (Lp .ready)):=((sg _ _).set _ _ Z).set _ _ Z;have hc25:Chg ([w0.heap.size+1]++(Value.slice a ks.length cap).ownBlock.toList) w2 w5:=((hc3.mono Z).trans0 hca).trans hc5 (by simp;intro x hx;exact .inl (.inr hx));have hc46:Chg ((Value.slice a ks.length cap).ownBlock.toList++[w.heap.size,w0.heap.size+1]) w4 (Ab (Ab w5 w.heap.size (.cells #[.slice a5 (ks++[x.1]).length cap5] 117)) (w0.heap.size+1) (Lp .ready)):=(hc5.mono (λx hx=>.inl (List.mem_append_left _ hx))).trans hc6 (λx hx=>.inl (List.mem_append_right _ hx));refine sr hb5 hb5' ?_;refine⟨⟨((h2'.trans0 hca)).trans hc46 ?_,_,rfl,ho5.low hc6 (by simp;omega)⟩,_,(((hc3.mono (F':=(w0.heap.size+1)::((Value.slice a ks.length cap).ownBlock.toList++[w.heap.size,w0.heap.size+1])) Z).trans0 hca).trans hc46 (λx hx=>.inl (by simp only[rM];exact .inr hx))),?_⟩
  ·intro x hx;rcases List.mem_append.1 hx with hx|hx
   ·right;have:=hge x hx;omega
   ·exact .inl hx
  ·simp only[rM,List.mem_append,List.not_mem_nil,or_false,not_or];refine⟨O,λhm=>?_,O,O⟩;have:=hge _ hm;omega
 ·rintro v w2 ⟨ks,hp,h1,h2,v',h3,h4⟩;refine .inl ⟨h1,?_⟩;have hl1:=Aa h1;have hc3:Chg [w0.heap.size+1] w2 (Ab w2 (w0.heap.size+1) (Lp (.over .normal))):=(sg _ _).set _ _ Z;have h3':=hc3.keep h3 (by simp;omega);have h4':=h4.low hc3 (by simp;omega);have hr2:=(h2.trans hc3 Z).keep hr (by simp;omega);have hc4:=h2.trans hc3 Z;generalize Ab w2 _ _=w3 at hc3 h3' h4' hr2 hc4 ⊢;refine sq h3' ?_;refine ED hr2 ?_;have hc5:Chg [w0.heap.size] w3 (Ab w3 w0.heap.size (.deferred none)):=(sg _ _).set _ _ Z;refine hK _ _ ⟨ks,hp,(h4'.low hc5 (by simp;omega)).base_le O,(hc01.trans hc4 ?_).trans hc5 ?_⟩
  ·simp;omega
  ·simp;omega
theorem TU{w:World}{base:Nat}{a:Option Addr}{cap:Nat}{zs:List Int}(c:Ox base w 3 1 CJ (.slice a zs.length cap) zs)(d:zs.length≤1000000):
  Calls prog 153 #[.slice a zs.length cap] w (Ac λv f=>Ox base f 3 1 CJ (.slice a zs.length cap) (zs.mergeSort λx y=>decide (x≤y))∧Chg (Value.slice a zs.length cap).ownBlock.toList w f):=by
 have h:zs.flatMap CJ=zs.map (Value.int .i64):=by
  clear c d
  induction zs with
  | nil=>rfl
  | cons x l i=>rw[List.flatMap_cons,i];rfl
 by_cases j:zs=[]
 ·subst j;have k:([]:List Int).mergeSort (λx y=>decide (x≤y))=[]:=Z;rw[k];refine(Tryz.slices_Sort_int_none a cap w).mono ?_;rintro e f ⟨rfl,rfl⟩;exact⟨c,sg _ _⟩
 ·obtain⟨m,o⟩:=c;rcases o with ⟨p,-⟩|⟨g,q,r,p,s,t,u,v,z,A⟩
  ·rw[Value.slice.injEq] at p;exact absurd (rQ p.2.1) j
  rw[Value.slice.injEq] at p;obtain⟨rfl,-,rfl⟩:=p;have B:=Aa t;have C:cap≤maxLen:=v;unfold maxLen at C;have D:r.toList.take zs.length=zs.map (Value.int .i64):=by rw[←h];simpa using A
  have E:(zs.mergeSort λx y=>decide (x≤y)).length=zs.length:=List.length_mergeSort _;have F:∀l:List Int,l.flatMap CJ=l.map (Value.int .i64):=by
   intro l
   induction l with
   | nil=>rfl
   | cons x l i=>rw[List.flatMap_cons,i];rfl
  refine(Tryz.slices_Sort_int g 0 cap zs w (holds_of_blockI t D) B O).mono ?_;rintro e f ⟨rfl,n,os,rfl⟩;refine⟨?_,?_⟩
  ·have:=ownsRow_sortedI (base:=base) (n:=n) (os:=os) (ss:=zs) (ts:=zs.mergeSort λx y=>decide (x≤y)) E s t u v z;unfold Ox;rw[F,E];exact this
  ·obtain⟨G,H,I,J,K⟩:=grownBy_sortedI (w:=w) (g:=g) (n:=n) (os:=os) (zs.mergeSort λx y=>decide (x≤y)).toArray;refine⟨G,H,I,J,λb L M=>K b L ?_⟩;simp [Value.ownBlock] at M;intro N;exact M (Option.some.inj N)
def EZ(l:List Int):Prop:=l.Pairwise (·<·)
theorem dU{l:List Int}(h:l.Nodup):EZ (l.mergeSort λx y=>decide (x≤y)):=by
 have d:=List.pairwise_mergeSort (le:=λx y:Int=>decide (x≤y)) (by intro a b c;simp;omega) (by intro a b;simp;omega) l;have e:(l.mergeSort λx y=>decide (x≤y)).Nodup:=(List.mergeSort_perm l _).nodup_iff.2 h;have f:(l.mergeSort λx y=>decide (x≤y)).Pairwise (·≠·):=e;exact(d.and f).imp λh=>by simp at h;omega
theorem iv{w:World}{pt m c:Nat}{l:AQ}(b:w.heap[pt]?=some (.cells #[.map (some m)] 65))(d:w.heap[m]?=some (.map (AE .i64 l) c))(e:∀x∈l,ebo x<c)(f:(l.map ebo).Nodup)(g:l.length≤1000000)(i:(l.map (·.1)).Nodup):
  Calls prog 85 #[G5 pt] w (Ac λv j=>∃k,k.Perm (l.map (·.1))∧EZ k∧Ox w.heap.size j 3 1 CJ v k∧Chg [] w j):=by
 have n:Calls prog 152 #[G5 pt] w (Ac λv j=>∃k,k.Perm (l.map (·.1))∧Ox w.heap.size j 3 1 CJ v k∧Chg [] w j):=by
  apply hJ;intro K o;unfold Sy;refine td jV rfl (jo b d e f g) ?_;exact λv j h=>o _ _ h
 apply YE;intro K o;unfold SA;refine td gW rfl (n) ?_;rintro v p ⟨k,q,r,s⟩;obtain⟨a,t,rfl,-,-,u,-⟩:=r.form;refine sf ?_ rfl (se (TU r (by rw[q.length_eq];simpa using g)) ?_)
 ·exact bd func153 (by kernel_rfl)
 rintro v w2 ⟨z,A⟩;refine o _ _ ⟨_,(List.mergeSort_perm _ _).trans q,dU (q.nodup_iff.2 i),?_,s.trans A λx B=>.inr (r.own_ge x B)⟩;have C:(k.mergeSort λx y=>decide (x≤y)).length=k.length:=List.length_mergeSort _;exact z
set_option maxRecDepth 100000
def Ke(a b:Value)(K:rD):rE:=xB 35 b λc=>xC 18 [.const a] [28] 3 λd=>xC 17 [.const a,.const d] [28,3] 71 λd=>xO .eql 71 d (.pointer none) λd=>xW d (xC 19 [.const (.int .i64 13)] [76] 32 λd=>K d)<|xF 35 c 3 λd=>xL 9 d λd=>xU d 9 λd=>xO .gtr 3 d (.int .i64 2000) λd=>xW d (xC 19 [.const (.int .i64 16)] [76] 32 λd=>K d)<|xF 35 c 0 λd=>xL 3 d λd=>xO .eql 3 d (.int .i64 1) λe=>xW e (xF 35 c 3 λe=>xL 9 e λe=>xC 20 [.const a,.const e] [28,9] 32 λe=>K e)<|xO .eql 3 d (.int .i64 2) λe=>xW e (xF 35 c 1 λe=>xL 3 e λe=>xF 35 c 2 λf=>xL 3 f λf=>xF 35 c 3 λg=>xL 9 g λg=>xC 21 [.const a,.const e,.const f,.const g] [28,3,3,9] 32 λg=>K g)<|xO .eql 3 d (.int .i64 3) λg=>xW g (xF 35 c 4 λg=>xL 3 g λg=>xF 35 c 5 λc=>xL 3 c λc=>xC 22 [.const a,.const g,.const c] [28,3,3] 32 λc=>K c)<|xC 19 [.const (.int .i64 18)] [76] 32 λc=>K c
theorem MF(a b:Value):Lk 7 #[a,b] (Ke a b):=lk [a,b] [] func7
theorem Kz:Ad prog 7:=bd func7
def RM(a b:Value)(K:rD):rE:=xC 17 [.const a,.const b] [28,3] 71 λc=>xO .eql 71 c (.pointer none) λd=>xW d (K (.slice none 0 0))<|xH c λd=>xF 84 d 0 λd=>xL 81 d λd=>xC 23 [.const d] [81] 36 λd=>K d
theorem Zl(a b:Value):Lk 8 #[a,b] (RM a b):=lk [a,b] [] func8
theorem Nq:Ad prog 8:=bd func8
def OD(a b:Value)(K:rD):rE:=xO .eql 28 a (.pointer none) λc=>xW c (K (.pointer none))<|xH a λc=>xF 70 c 3 λc=>xL 65 c λc=>xQ (.lookup 65 (.const c) (.const b) false) 71 λc=>K c
theorem Wj(a b:Value):Lk 17 #[a,b] (OD a b):=lk [a,b] [] func17
theorem E3:Ad prog 17:=bd func17
def MT(a:Value)(K:rD):rE:=xO .eql 28 a (.pointer none) λb=>xW b (K (.int .i64 0))<|xH a λb=>xF 70 b 4 λb=>xL 3 b λb=>K b
theorem kg(a:Value):Lk 18 #[a] (MT a):=lk [a] [] func18
theorem Gx:Ad prog 18:=bd func18
def Qh(a b:Value)(K:rD):rE:=xH a λc=>xF 70 c 5 λc=>xC 47 [.const c,.const b] [67,9] 123 λc=>xU c 123 λd=>Loop2 (.slice none 0 0) (.int .i64 0) λe f g=>xO .lss 3 f d λd=>xW d (xI 123 c f λd=>xL 126 d λd=>xA 126 λc=>xS 126 c d<|xL 126 c λc=>xC 48 [.const a,.const c] [28,126] 127 λc=>xE c 0 9 λd=>xE c 1 32 λc=>xC 50 [.const c,.const d] [32,9] 32 λc=>xC 49 [.const c,.const f] [32,3] 32 λc=>xQ (.buildSlice 122 1 #[(0,.const c)]) 122 λc=>xV e c 122 122 122 λc=>xO .add 3 f (.int .i64 1) λf=>g c f)<|xC 51 [.const e] [122] 32 λf=>K f
theorem Y7(a b:Value):Lk 20 #[a,b] (Qh a b):=lk [a,b] [(8,[5,16])] func20
theorem Vz:Ad prog 20:=bd func20
def OO(a b c d:Value)(K:rD):rE:=xC 17 [.const a,.const b] [28,3] 71 λe=>xC 52 [.const e,.const c] [71,3] 132 λe=>xO .eql 132 e (.pointer none) λf=>xW f (xC 19 [.const (.int .i64 12)] [76] 32 λf=>K f)<|xQ (.buildSlice 170 1 #[(0,.const d)]) 170 λf=>xC 53 [.const e,.const f] [132,170] 0 λ_=>xC 54 [.const a,.const (.int .i64 0)] [28,3] 0 λ_=>K .nilIface
theorem iz(a b c d:Value):Lk 21 #[a,b,c,d] (OO a b c d):=lk [a,b,c,d] [] func21
theorem fX:Ad prog 21:=bd func21
def MU(a:Value)(K:rD):rE:=xO .eql 28 a (.pointer none) λb=>xW b (K (.tuple #[(.int .i64 0),(.int .i64 0)]))<|Ag<|xM a λb=>qF 70 b 0 λb=>qL 3 b λb=>xM a λc=>qF 70 c 1 λc=>qL 3 c λc=>K (.tuple #[b,c])
theorem Uv(a:Value):Lk 30 #[a] (MU a):=lk [a] [] func30
theorem Yh:Ad prog 30:=bd func30
def Ls(a b c:Value)(K:rD):rE:=xA 50 λd=>xC 17 [.const a,.const b] [28,3] 71 λe=>xO .eql 71 e (.pointer none) λf=>xW f (xQ (.build 50 #[]) 50 λf=>xS 50 d f<|xD 50 d λf=>K f)<|Join1 (λf=>Join1 (λg=>xH a λh=>xF 70 h 4 λh=>xL 3 h λh=>xO .eql 3 b h λh=>xW h (xH e λh=>xF 84 h 1 λh=>xL 3 h λh=>xO .eql 3 c h λh=>g h)<|g (.bool false)) λh=>xW h (xH a λh=>xF 70 h 6 λh=>xL 3 h λh=>f h)<|f (.int .i64 0)) λh=>xC 52 [.const e,.const c] [71,3] 132 λe=>xC 79 [.const e,.const h] [132,3] 50 λe=>xS 50 d e<|xD 50 d λe=>K e
theorem Xi(a b c:Value):Lk 33 #[a,b,c] (Ls a b c):=lk [a,b,c] [(14,[8]),(16,[28])] func33
theorem cN:Ad prog 33:=bd func33
def Q4(a b:Value)(K:rD):rE:=xC 17 [.const a,.const b] [28,3] 71 λc=>xO .eql 71 c (.pointer none) λd=>xW d (K (.slice none 0 0))<|xH c λd=>xF 84 d 0 λd=>xL 81 d λd=>xC 80 [.const d] [81] 110 λd=>K d
theorem eN(a b:Value):Lk 34 #[a,b] (Q4 a b):=lk [a,b] [] func34
theorem UJ:Ad prog 34:=bd func34
def SH(a:Value)(K:rD):rE:=xO .eql 28 a (.pointer none) λb=>xW b (K (.slice none 0 0))<|xH a λb=>xF 70 b 3 λb=>xL 65 b λb=>xC 86 [.const b] [65] 168 λb=>xC 85 [.const b] [168] 117 λb=>K b
theorem il(a:Value):Lk 40 #[a] (SH a):=lk [a] [] func40
theorem kC:Ad prog 40:=bd func40
def Pn(a:Value)(K:rD):rE:=Join1 (λb=>xO .neq 28 a (.pointer none) λc=>xW c (xH a λc=>xF 70 c 5 λc=>xC 88 [.const c] [67] 4 λc=>b c)<|b (.bool false)) λc=>K c
theorem Wm(a:Value):Lk 43 #[a] (Pn a):=lk [a] [(3,[2])] func43
theorem VY:Ad prog 43:=bd func43
def NV(a:Value)(K:rD):rE:=xO .eql 28 a (.pointer none) λb=>xW b (K (.int .i64 0))<|xH a λb=>xF 70 b 6 λb=>xL 3 b λb=>K b
theorem gq(a:Value):Lk 44 #[a] (NV a):=lk [a] [] func44
theorem kb:Ad prog 44:=bd func44
def Lz(a b:Value)(K:rD):rE:=xB 126 b λc=>Ag<|xM a λd=>qF 70 d 3 λd=>qL 65 d λd=>xM a λe=>qF 70 e 4 λe=>qL 3 e λe=>xR (.lookup 65 (.const d) (.const e) false) 71 λe=>xF 126 c 0 λd=>xL 3 d λd=>Join0 (λf=>Join0 (λg=>xO .eql 3 d (.int .i64 1) λh=>xW h (Ag<|xM a λh=>qF 70 h 4 λh=>qL 3 h λh=>xM e λi=>qF 84 i 1 λi=>qL 3 i λi=>qF 126 c 2 λj=>qL 9 j λj=>xQ (.build 184 #[(0,.const h),(1,.const i),(2,.const j)]) 184 λj=>xC 97 [.const a,.const j] [28,184] 0 λ_=>f)<|Join1 (λj=>xO .eql 3 d (.int .i64 2) λi=>xW i (j (.bool true))<|xO .eql 3 d (.int .i64 3) λi=>j i) λi=>xW i (xF 126 c 0 λi=>xL 3 i λi=>xO .eql 3 i (.int .i64 2) λi=>xC 98 [.const e,.const i] [71,4] 32 λi=>xK .neq 32 i λj=>xW j (K (.tuple #[(.string { data:=#[115,112,108,105,116] }),i]))<|xC 99 [.const a] [28] 0 λ_=>f)<|xO .eql 3 d (.int .i64 4) λj=>xW j (Ag<|xM e λj=>qF 84 j 0 λj=>qL 81 j λj=>xM e λi=>qF 84 i 1 λi=>qL 3 i λi=>xC 100 [.const j,.const i] [81,3] 3 λi=>xM e λj=>qF 84 j 1 λj=>xS 3 j i<|xC 99 [.const a] [28] 0 λ_=>f)<|xO .eql 3 d (.int .i64 5) λj=>xW j (xC 101 [.const a,.const e] [28,71] 32 λj=>K (.tuple #[(.string { data:=#[99,108,111,115,101] }),j]))<|xO .eql 3 d (.int .i64 6) λj=>xW j (xC 102 [.const a] [28] 32 λj=>K (.tuple #[(.string { data:=#[119,105,110,100,111,119] }),j]))<|xO .eql 3 d (.int .i64 7) λj=>xW j (xC 104 [.const a,.const (.int .i64 1)] [28,3] 3 λj=>xC 103 [.const a,.const j] [28,3] 0 λ_=>f)<|xO .eql 3 d (.int .i64 8) λj=>xW j (xC 104 [.const a,.const (.int .i64 (-1))] [28,3] 3 λj=>xC 103 [.const a,.const j] [28,3] 0 λ_=>f)<|xO .eql 3 d (.int .i64 9) λj=>xW j (Ag<|xM a λj=>qF 70 j 3 λj=>qL 65 j λj=>qF 126 c 1 λi=>qL 3 i λi=>xR (.lookup 65 (.const j) (.const i) false) 71 λi=>qR .eql 71 i (.pointer none) λi=>xW i (xC 19 [.const (.int .i64 12)] [76] 32 λi=>K (.tuple #[(.string { data:=#[115,101,108,101,99,116] }),i]))<|xF 126 c 1 λi=>xL 3 i λi=>xC 103 [.const a,.const i] [28,3] 0 λ_=>f)<|xO .eql 3 d (.int .i64 10) λi=>xW i (xF 126 c 1 λi=>xL 3 i λi=>xC 105 [.const e,.const i] [71,3] 32 λi=>K (.tuple #[(.string { data:=#[109,111,118,101] }),i]))<|xO .eql 3 d (.int .i64 11) λi=>xW i (xF 126 c 1 λi=>xL 3 i λi=>xC 54 [.const a,.const i] [28,3] 0 λ_=>f)<|xO .eql 3 d (.int .i64 14) λi=>xW i (g)<|xO .eql 3 d (.int .i64 12) λi=>xW i (g)<|xO .eql 3 d (.int .i64 13) λi=>xW i (xH a λi=>xF 70 i 8 λi=>xL 3 i λi=>xO .add 3 i (.int .i64 1) λi=>xH a λg=>xF 70 g 8 λg=>xS 3 g i<|f)<|f)<|xH a λg=>xF 70 g 6 λg=>xS 3 g (.int .i64 0)<|f)<|K (.tuple #[(.string { data:=#[] }),.nilIface])
theorem iX(a b:Value):Lk 48 #[a,b] (Lz a b):=lk [a,b] [(7,[]),(11,[]),(41,[21])] func48
theorem Uy:Ad prog 48:=bd func48
def Lh(a b:Value)(K:rD):rE:=Ag<|xM a λc=>qF 70 c 3 λc=>qL 65 c λc=>xM a λd=>qF 70 d 4 λd=>qL 3 d λd=>xR (.lookup 65 (.const c) (.const d) false) 71 λd=>Ag<|xM a λc=>qF 70 c 6 λc=>qL 3 c λe=>qP .add 3 e b λf=>xP (.call { callee:=.builtin .max,args:=#[.const f,.const (.int .i64 0)],argTypes:=#[3,3] }) 3 λf=>xM d λg=>qF 84 g 1 λg=>qL 3 g λg=>xC 52 [.const d,.const g] [71,3] 132 λg=>xT (qZ 3 c e)<|xC 111 [.const g] [132] 3 λg=>xT (qZ 3 c e)<|xP (.call { callee:=.builtin .min,args:=#[.const f,.const g],argTypes:=#[3,3] }) 3 λg=>xM a λf=>qF 70 f 6 λf=>xS 3 f g<|K (.tuple #[])
theorem VP(a b:Value):Lk 54 #[a,b] (Lh a b):=lk [a,b] [] func54
theorem bR:Ad prog 54:=bd func54
def Ma(a:Value)(K:rD):rE:=xH a λb=>xF 70 b 5 λb=>xC 160 [.const b] [67] 0 λ_=>xH a λb=>xF 70 b 6 λb=>xS 3 b (.int .i64 0)<|K (.tuple #[])
theorem eX(a:Value):Lk 99 #[a] (Ma a):=lk [a] [] func99
theorem Nz:Ad prog 99:=bd func99
def NZ(a b c:Value)(K:rD):rE:=xC 15 [.const a,.const b] [3,3] 4 λd=>xN 4 d λd=>xW d (K (.pointer none))<|xQ (.makeMap 65 none) 65 λd=>xQ (.build 70 #[(0,.const a),(1,.const b),(2,.const c),(3,.const d),(4,.const (.int .i64 1))]) 70 λd=>xQ (.box 70 (.const d)) 28 λd=>Ag<|xM d λe=>qF 70 e 3 λe=>qL 65 e λf=>qP .sub 3 b (.int .i64 1) λg=>xC 16 [.const a,.const g,.const c] [3,3,3] 71 λg=>xT (qZ 65 e f)<|xQ (.mapUpdate 65 (.const f) (.const (.int .i64 1)) (.const g)) 0 λ_=>K d
theorem VH(a b c:Value):Lk 6 #[a,b,c] (NZ a b c):=lk [a,b,c] [] func6
theorem PF:Ad prog 6:=bd func6
def L0(a b c:Value)(K:rD):rE:=xC 45 [.const a,.const b] [3,3] 81 λd=>xQ (.makeMap 82 none) 82 λe=>xQ (.build 84 #[(0,.const d),(1,.const (.int .i64 1)),(2,.const c),(3,.const e)]) 84 λe=>xQ (.box 84 (.const e)) 71 λe=>xC 46 [.const e] [71] 0 λ_=>K e
theorem WR(a b c:Value):Lk 16 #[a,b,c] (L0 a b c):=lk [a,b,c] [] func16
theorem gJ:Ad prog 16:=bd func16
def Qw(a b:Value)(K:rD):rE:=Join1 (λc=>xO .geq 3 a (.int .i64 1) λd=>xW d (xO .leq 3 a (.int .i64 200) λd=>xW d (xO .geq 3 b (.int .i64 2) λd=>xW d (xO .leq 3 b (.int .i64 60) λd=>c d)<|c (.bool false))<|c (.bool false))<|c (.bool false)) λd=>K d
theorem eO(a b:Value):Lk 15 #[a,b] (Qw a b):=lk [a,b] [(3,[4])] func15
theorem Z2:Ad prog 15:=bd func15
def K4(a:Value)(K:rD):rE:=xH a λb=>xF 84 b 0 λb=>xL 81 b λb=>xC 23 [.const b] [81] 36 λb=>xU b 36 λc=>Loop1 (.int .i64 0) λd e=>xO .lss 3 d c λc=>xW c (Join0 (λc=>xI 36 b d λb=>xL 44 b λb=>xA 44 λf=>xS 44 f b<|Ag<|xM a λb=>qF 84 b 3 λb=>qL 82 b λb=>qF 44 f 0 λg=>qL 3 g λg=>xR (.lookup 82 (.const b) (.const g) false) 132 λg=>xO .neq 132 g (.pointer none) λb=>xW b (xF 44 f 1 λb=>xF 42 b 2 λb=>xL 3 b λb=>xF 44 f 1 λh=>xF 42 h 3 λh=>xL 3 h λh=>xC 90 [.const g,.const b,.const h] [132,3,3] 4 λ_=>c)<|Ag<|xM a λh=>qF 84 h 3 λh=>qL 82 h λb=>qF 44 f 0 λg=>qL 3 g λi=>qF 44 f 1 λj=>qF 42 j 2 λj=>qL 3 j λj=>qF 44 f 1 λf=>qF 42 f 3 λf=>qL 3 f λf=>xM a λl=>qF 84 l 2 λl=>qL 3 l λl=>xC 91 [.const j,.const f,.const l] [3,3,3] 132 λl=>xT (qZ 3 g i)<|xT (qZ 82 h b)<|xQ (.mapUpdate 82 (.const b) (.const i) (.const l)) 0 λ_=>c)<|xO .add 3 d (.int .i64 1) λl=>e l)<|K (.tuple #[])
theorem Xw(a:Value):Lk 46 #[a] (K4 a):=lk [a] [(3,[11]),(11,[])] func46
theorem LK:Ad prog 46:=bd func46
def I0(a b:Value)(K:rD):rE:=xO .eql 71 a (.pointer none) λc=>xW c (K (.pointer none))<|xH a λc=>xF 84 c 3 λc=>xL 82 c λc=>xQ (.lookup 82 (.const c) (.const b) false) 132 λc=>K c
theorem RF(a b:Value):Lk 52 #[a,b] (I0 a b):=lk [a,b] [] func52
theorem HC:Ad prog 52:=bd func52
def OF(a b:Value)(K:rD):rE:=Ag<|xM a λc=>qF 84 c 0 λc=>qL 81 c λc=>xM a λd=>qF 84 d 1 λd=>qL 3 d λd=>xC 159 [.const c,.const d,.const b] [81,3,4] 237 λd=>xP (.extract (.const d) 0) 3 λc=>xP (.extract (.const d) 1) 32 λd=>xK .neq 32 d λe=>xW e (K d)<|xH a λe=>xF 84 e 1 λe=>xS 3 e c<|xC 46 [.const a] [71] 0 λ_=>K .nilIface
theorem bE(a b:Value):Lk 98 #[a,b] (OF a b):=lk [a,b] [] func98
theorem gL:Ad prog 98:=bd func98
end Go.Proofs.YtnpkidnbhlepkaaGreat
namespace Lyc
open Go
section
variable {P:Program}
theorem Tc{t:TypeId}(h:Ae P t=some 10):∃a,P.underlying t=some (.interface a):=by
 unfold Ae at h;cases b:P.underlying t with
 | none=>rw[b] at h;simp at h
 | some d=>rw[b] at h;cases d<;>simp at h;exact⟨_,rfl⟩
theorem GD{op:BinOp}{t:TypeId}{a v:Value}{K:Value→World→Prop}{w:World}(h:∀x,(Bi op t a .nilIface x (.const .nilIface)).run P w=.ok (.value v) w):BinN P op t a K w=K v w:=by
 apply propext;constructor
 ·rintro⟨hx⟩;have:=hx (.const undef);have e:=h (.const undef);unfold Bi at e;rw[e] at this;exact this
 ·exact λhk=>⟨λx=>by have e:=h x;unfold Bi at e;rw[e];exact hk⟩
theorem MI{t:TypeId}(h:Ae P t=some 10)(w:World):(Op.equal t .nilIface .nilIface).run P w=.ok true w:=by
 obtain⟨e,a⟩:=Tc h;unfold Op.equal Op.maxDepth Op.equalIn;simp [run_underlying a]
theorem S9{t:TypeId}(h:Ae P t=some 10)(u:TypeId)(x:Value)(w:World):(Op.equal t (.iface u x) .nilIface).run P w=.ok false w:=by
 obtain⟨e,a⟩:=Tc h;unfold Op.equal Op.maxDepth Op.equalIn;simp [run_underlying a]
@[go_sem] theorem lM(t:TypeId)(K:rD)(w:World)(h:Ae P t=some 10):BinN P .eql t .nilIface K w=K (.bool true) w:=by
 refine GD λx=>?_;unfold Bi eqGuard binOp;simp [MI h]
@[go_sem] theorem lp(t:TypeId)(K:rD)(w:World)(h:Ae P t=some 10):BinN P .neq t .nilIface K w=K (.bool false) w:=by
 refine GD λx=>?_;unfold Bi eqGuard binOp;simp [MI h]
@[go_sem] theorem p8(t u:TypeId)(x:Value)(K:rD)(w:World)(h:Ae P t=some 10):BinN P .eql t (.iface u x) K w=K (.bool false) w:=by
 refine GD λy=>?_;unfold Bi eqGuard binOp;simp [S9 h]
@[go_sem] theorem na(t u:TypeId)(x:Value)(K:rD)(w:World)(h:Ae P t=some 10):BinN P .neq t (.iface u x) K w=K (.bool true) w:=by
 refine GD λy=>?_;unfold Bi eqGuard binOp;simp [S9 h]
theorem K9{u a:TypeId}{x:Value}{K:Value→World→Prop}{w:World}(h:∃d,P.underlying u=some d∧∀b,d≠.interface b):OpX P (.makeInterface u (.const x)) a K w=K (.iface u x) w:=by
 obtain⟨d,c,e⟩:=h;refine Bc λρ f=>?_;have:(Instr.makeInterface u x).run P w=.ok (.iface u x) w:=by
  unfold Instr.makeInterface;rw[Sem.run_bind,run_underlying c];cases d<;>first|rfl|exact absurd rfl (e _)
 simp [execOp,Ap,f.1,this]
@[go_sem] theorem kP(u a:TypeId)(x:Value)(K:rD)(w:World)(h:Ae P u=some 4):OpX P (.makeInterface u (.const x)) a K w=K (.iface u x) w:=by
 obtain⟨e,b⟩:=R5 h;exact K9 ⟨_,b,λ_ h=>by cases h⟩
@[go_sem] theorem pq(u a:TypeId)(x:Value)(K:rD)(w:World)(h:Ae P u=some 8):OpX P (.makeInterface u (.const x)) a K w=K (.iface u x) w:=by
 have:∃k,P.underlying u=some (.int k):=by
  unfold Ae at h;cases b:P.underlying u with
  | none=>rw[b] at h;simp at h
  | some d=>rw[b] at h;cases d<;>simp at h;exact⟨_,rfl⟩
 obtain⟨k,c⟩:=this;exact K9 ⟨_,c,λ_ h=>by cases h⟩
theorem jj{t a:TypeId}{b:IntKind}{z:Value}{r c:Nat}{l:AQ}{k:Int}{w:World}(d:Ck P t=some (b,z))(f:w.heap[r]?=some (.map (AE b l) c)):
  ∀ρ,B5 ρ→(execOp ρ (Ap (.lookup t (.const (.map (some r))) (.const (.int b k)) false) a)).run P w=.ok (.value ((BH l k).getD z)) w:=by
 obtain⟨g,e,h,i,j⟩:=Gn d;intro ρ hg;simp only[execOp,Ap,hg.1,Instr.lookup];simp [run_underlying h,E6 f,Ip i,GU i,Eo j];rw[←JP l k 0];cases m:Bv l k 0<;>simp [Eo j]
@[go_sem] theorem lj(t a:TypeId)(b:IntKind)(r:Nat)(k:Int)(K:Value→Prop)(w:World):
  RdX P (.lookup t (.const (.map (some r))) (.const (.int b k)) false) a K w =
   OrK (C4 P t b) (λz=>OrK (Du b w.heap[r]?) (λp=>K ((BH p.1 k).getD z)) (RdX P (.lookup t (.const (.map (some r))) (.const (.int b k)) false) a K w) ()) (RdX P (.lookup t (.const (.map (some r))) (.const (.int b k)) false) a K w) () :=
 AK (λz c=>AK (λp d=>GN (jj (Ie c) (FK d))) rfl) rfl
end
theorem Ir {α:Type} (f:α→Int × Value × Nat) (l:List α) (id:Int):BH (l.map f) id=(l.find? λx=>(f x).1 == id).map λx=>(f x).2.1:=by
 induction l with
 | nil=>rfl
 | cons x l ih =>
  simp only[List.map_cons,BH,List.find?_cons]
  by_cases h:id=(f x).1
  ·simp [h]
  ·have:((f x).1 == id)=false:=by simp;omega
   simp [h,this,ih]
theorem mF {α:Type} (f:α→Int × Value × Nat) (l:List α) (id:Int):CI (l.map f) id=(l.eraseP λx=>(f x).1 == id).map f:=by
 induction l with
 | nil=>rfl
 | cons x l ih =>
  simp only[List.map_cons,CI,List.eraseP_cons]
  by_cases h:id=(f x).1
  ·simp [h]
  ·have:((f x).1 == id)=false:=by simp;omega
   simp [h,this,ih]
theorem Pz{l:AQ}{k:Int}(h:BH l k=none)(v:Value)(c:Nat):CK l k v c=l++[(k,v,c)]:=by
 induction l with
 | nil=>rfl
 | cons x l a =>
  simp only[BH] at h;by_cases b:k=x.1
  ·simp [b] at h
  ·simp only[b,if_false] at h;simp [CK,b,a h]
theorem Nw{α:Type}{R:α→α→Prop}(a:∀x y,R x y→R y x){l:List α}(h:l.Pairwise R){x y:α}(b:x∈l)(c:y∈l)(d:x≠y):R x y:=by
 induction l with
 | nil=>simp at b
 | cons z l e =>
  rw[List.pairwise_cons] at h;rcases rM.1 b with rfl|f<;>rcases rM.1 c with rfl|g
  ·exact absurd rfl d
  ·exact h.1 y g
  ·exact a _ _ (h.1 x f)
  ·exact e h.2 f g
end Lyc
namespace Go.Proofs.YtnpkidnbhlepkaaGreat
open Lyc Go Go.Proofs.Tryz
structure Pt where
 id:Int
 born:Nat
 t:Nat
 W:Nat
 H:Nat
 T:Tm
 M:Scm
 G:Hs
def Pt.new(p:Pt):Prop:=p.M.S=Scr.new p.W p.H∧p.T.kept=[]∧p.T.E=Esc.new
def Pt.own(p:Pt)(x:Nat):Prop:=FY p.t p.T p.M p.G x
def Pt.ent(p:Pt):Int × Value × Nat:=(p.id,.pointer (some ⟨p.t,0,none⟩),p.born)
def B4(base:Nat)(w:World)(p:Pt):Prop:=TmAt base w p.t p.W p.H p.T p.M p.G∧p.M.rows=[]
def UO(e:TypeId):Bool:=Nat.beq e 207 || Nat.beq e 256 || Nat.beq e 60 || Nat.beq e 48 || Nat.beq e 251
theorem B4.tag{base:Nat}{w:World}{p:Pt}(h:B4 base w p):∀x,p.own x→∃c e a,w.heap[x]?=some (.cells c e a)∧UO e=true:=by
 obtain⟨h,-⟩:=h;obtain⟨⟨d,g,i⟩,⟨j,k,l⟩,⟨m,n,q⟩,s⟩:=h.scr.at_.tags;obtain⟨⟨t,u,v⟩,y⟩:=h.his.tag2;have z:=h.hb;unfold Tm.obj at z;rintro x (rfl|rfl|A|rfl|A|⟨r,B,C,o,D⟩)
 ·exact⟨_,_,_,z,rfl⟩
 ·exact⟨_,_,_,i,rfl⟩
 ·simp only[Scm.blk,rM] at A;rcases A with rfl|rfl|A
  ·exact⟨_,_,_,l,rfl⟩
  ·exact⟨_,_,_,q,rfl⟩
  ·obtain⟨c,f,b⟩:=s _ A;exact⟨_,_,_,b,rfl⟩
 ·exact⟨_,_,_,v,rfl⟩
 ·obtain⟨c,f,b⟩:=y x A;exact⟨_,_,_,b,rfl⟩
 ·obtain⟨b,E,c,F,a,G,H,I,J,K,-,-⟩:=(h.his.rows r B).at_ C;rw[D] at I;cases I;exact⟨_,_,_,J,by rw[Ib K];rfl⟩
theorem B4.lt{base:Nat}{w:World}{p:Pt}(h:B4 base w p):∀x,p.own x→x<w.heap.size:=λx a=>let ⟨_,_,_,e,_⟩:=h.tag x a;Aa e
theorem B4.chg{base:Nat}{w w':World}{p:Pt}{F:List Nat}(h:B4 base w p)(a:Chg F w w')(b:∀x∈F,¬p.own x):B4 base w' p:=⟨h.1.frame h.2 a b,h.2⟩
theorem B4.chg0{base:Nat}{w w':World}{p:Pt}(h:B4 base w p)(a:Chg [] w w'):B4 base w' p:=h.chg a Z
structure Wn where
 n:Int
 born:Nat
 b:Nat
 lb:Nat
 tm:Nat
 tc:Nat
 L:Ly
 active:Int
 room:Int
 pts:List Pt
def Wn.own(W:Wn)(x:Nat):Prop:=x=W.b∨x=W.lb∨x=W.tm∨x∈W.L.root.blks∨∃p∈W.pts,p.own x
def Wn.ent(W:Wn):Int × Value × Nat:=(W.n,.pointer (some ⟨W.b,0,none⟩),W.born)
structure WnAt (base:Nat) (w:World) (W:Wn):Prop where
 hb:w.heap[W.b]?=some (.cells #[.pointer (some ⟨W.lb,0,none⟩),.int .i64 W.active,.int .i64 W.room,.map (some W.tm)] 84)
 lay:LAt w W.lb W.L
 hm:w.heap[W.tm]?=some (.map (AE .i64 (W.pts.map Pt.ent)) W.tc)
 each:∀p∈W.pts,B4 base w p
 apart:W.pts.Pairwise λp q=>∀x,p.own x→¬q.own x
 ids:(W.pts.map (·.id)).Nodup
 lo:∀x,W.own x→base≤x
structure Wn.ok (W:Wn):Prop where
 lay:W.L.ok
 act:W.active∈W.L.root.ids
 has:∀i,i∈W.pts.map (·.id)↔i∈W.L.root.ids
 size:∀p∈W.pts,∀r,(p.id,r)∈W.L.root.panes W.L.R→(p.W:Int)=r.w∧(p.H:Int)=r.h
section
variable {base:Nat} {w w':World} {W:Wn}
theorem WnAt.lt(h:WnAt base w W):∀x,W.own x→x<w.heap.size:=by
 rintro x (rfl|rfl|rfl|a|⟨p,b,a⟩)
 ·exact Aa h.hb
 ·exact Aa h.lay.hb
 ·exact Aa h.hm
 ·exact h.lay.tree.lt x a
 ·exact(h.each p b).lt x a
theorem WnAt.chg{F:List Nat}(h:WnAt base w W)(hc:Chg F w w')(hF:∀x∈F,¬W.own x):WnAt base w' W:=
 ⟨hc.keep h.hb λhm=>hF _ hm (.inl rfl),h.lay.chg hc (λhm=>hF _ hm (.inr (.inl rfl))) λx hx hm=>hF _ hm (.inr (.inr (.inr (.inl hx)))),hc.keep h.hm λhm=>hF _ hm (.inr (.inr (.inl rfl))),
  λp hp=>(h.each p hp).chg hc λx hx ho=>hF x hx (.inr (.inr (.inr (.inr ⟨p,hp,ho⟩)))),h.apart,h.ids,h.lo⟩
theorem WnAt.chg0(h:WnAt base w W)(a:Chg [] w w'):WnAt base w' W:=h.chg a Z
theorem WnAt.trn{o a:Nat→Prop}(h:WnAt base w W)(b:Trn o a w w')(c:∀x,o x→¬W.own x):WnAt base w' W:=by
 obtain⟨F,d,e⟩:=b.chg;exact h.chg d λx f=>c x (e x f)
theorem WnAt.off(h:WnAt base w W){p:Pt}(hp:p∈W.pts):¬p.own W.b∧¬p.own W.lb∧¬p.own W.tm∧∀x∈W.L.root.blks,¬p.own x:=by
 have ht:=(h.each p hp).tag;refine⟨λho=>?_,λho=>?_,λho=>?_,λx hx ho=>?_⟩
 ·obtain⟨c,e,fr,h1,h2⟩:=ht _ ho;rw[h.hb] at h1;simp only[Option.some.injEq,Obj.cells.injEq] at h1;rw[←h1.2.1] at h2;exact absurd h2 rC
 ·obtain⟨c,e,fr,h1,h2⟩:=ht _ ho;rw[h.lay.hb] at h1;simp only[Option.some.injEq,Obj.cells.injEq] at h1;rw[←h1.2.1] at h2;exact absurd h2 rC
 ·obtain⟨c,e,fr,h1,h2⟩:=ht _ ho;rw[h.hm] at h1;simp at h1
 ·obtain⟨c,e,fr,h1,h2⟩:=ht _ ho;obtain⟨c',fr',h3⟩:=h.lay.tree.tag x hx;rw[h3] at h1;simp only[Option.some.injEq,Obj.cells.injEq] at h1;rw[←h1.2.1] at h2;exact absurd h2 rC
theorem WnAt.ne(h:WnAt base w W):W.b≠W.lb∧W.b≠W.tm∧W.lb≠W.tm∧W.b∉W.L.root.blks∧W.lb∉W.L.root.blks∧W.tm∉W.L.root.blks:=by
 have hb:=h.hb;have hl:=h.lay.hb;have hm:=h.hm;refine⟨Bj hb hl rfl,λe=>?_,λe=>?_,λhx=>?_,λhx=>?_,λhx=>?_⟩
 ·rw[e,hm] at hb;simp at hb
 ·rw[e,hm] at hl;simp at hl
 ·obtain⟨c',fr',h3⟩:=h.lay.tree.tag _ hx;exact Bj hb h3 rfl rfl
 ·obtain⟨c',fr',h3⟩:=h.lay.tree.tag _ hx;exact Bj hl h3 rfl rfl
 ·obtain⟨c',fr',h3⟩:=h.lay.tree.tag _ hx;rw[hm] at h3;simp at h3
end
theorem It{l:List Pt}{id:Int}{p:Pt}(h:(l.find? λx=>x.ent.1 == id)=some p):p∈l∧p.id=id:=⟨List.mem_of_find?_eq_some h,by simpa [Pt.ent] using List.find?_some h⟩
def Be(l:List Pt)(q:Pt):List Pt:=l.map λp=>if p.id=q.id then q else p
theorem I9(l:List Pt)(q:Pt):(Be l q).map (·.id)=l.map (·.id):=by
 unfold Be;rw[List.map_map];apply List.map_congr_left;intro p _;simp only[Function.comp];split
 ·rename_i h;exact h.symm
 ·rfl
theorem gG{l:List Pt}{p q:Pt}(a:p∈l)(b:(l.map (·.id)).Nodup)(c:q.ent=p.ent):(Be l q).map Pt.ent=l.map Pt.ent:=by
 unfold Be;rw[List.map_map];apply List.map_congr_left;intro r d;simp only[Function.comp];split
 ·rename_i h;have e:q.id=p.id:=congrArg Prod.fst c;have:r=p:=by
   clear c
   induction l with
   | nil=>simp at a
   | cons x l f =>
    rw[List.map_cons,List.nodup_cons] at b;rcases rM.1 a with rfl|g<;>rcases rM.1 d with rfl|i
    ·rfl
    ·exact absurd (List.mem_map.2 ⟨r,i,O⟩) b.1
    ·exact absurd (List.mem_map.2 ⟨p,g,O⟩) b.1
    ·exact f g b.2 i
  rw[c,this]
 ·rfl
theorem Hx{l:List Pt}{q r:Pt}(h:r∈Be l q):r=q∨(r∈l∧r.id≠q.id):=by
 unfold Be at h;obtain⟨p,a,rfl⟩:=List.mem_map.1 h;split
 ·exact .inl rfl
 ·rename_i h;exact .inr ⟨a,h⟩
section
variable {base:Nat} {w w':World} {W:Wn}
theorem WnAt.turn(h:WnAt base w W){p q:Pt}(hp:p∈W.pts)(he:q.ent=p.ent)(ht:Trn p.own q.own w w')(hq:B4 base w' q)(hbase:base≤w.heap.size):
  WnAt base w' { W with pts:=Be W.pts q }∧Trn W.own ({ W with pts:=Be W.pts q }:Wn).own w w':=by
 have hid:q.id=p.id:=congrArg Prod.fst he;have hoff:=h.off hp;have hoth:∀r∈W.pts,r.id≠q.id→∀x,p.own x→¬r.own x:=by
  intro r hr hne x hx hxr;have hap:=h.apart;have hrp:r≠p:=by rintro rfl;omega
  exact Nw (λa b hab x hb ha=>hab x ha hb) hap hp hr (λe=>hrp e.symm) x hx hxr
 have hgrow:∀x,({ W with pts:=Be W.pts q }:Wn).own x→W.own x∨w.heap.size≤x:=by
  rintro x (rfl|rfl|rfl|hx|⟨r,hr,hx⟩)
  ·exact .inl (.inl rfl)
  ·exact .inl (.inr (.inl rfl))
  ·exact .inl (.inr (.inr (.inl rfl)))
  ·exact .inl (.inr (.inr (.inr (.inl hx))))
  ·rcases Hx hr with rfl|⟨hr,-⟩
   ·exact(ht.grow x hx).imp (λhx=>.inr (.inr (.inr (.inr ⟨p,hp,hx⟩)))) id
   ·exact .inl (.inr (.inr (.inr (.inr ⟨r,hr,hx⟩))))
 obtain⟨F,hc,hF⟩:=ht.chg;refine⟨⟨hc.keep h.hb λhm=>hoff.1 (hF _ hm),h.lay.chg hc (λhm=>hoff.2.1 (hF _ hm)) λx hx hm=>hoff.2.2.2 x hx (hF _ hm),?_,λr hr=>?_,?_,?_,λx hx=>?_⟩,⟨⟨F,hc,λx hx=>.inr (.inr (.inr (.inr ⟨p,hp,hF x hx⟩)))⟩,hgrow⟩⟩
 ·dsimp only;rw[gG hp h.ids he];exact hc.keep h.hm λhm=>hoff.2.2.1 (hF _ hm)
 ·rcases Hx hr with rfl|⟨hr,hne⟩
  ·exact hq
  ·exact(h.each r hr).chg hc λx hx hxr=>hoth r hr hne x (hF x hx) hxr
 ·dsimp only[Be];refine List.pairwise_map.2 ((List.pairwise_iff_getElem.2 λi j hi hj hij=>?_));have hap:=List.pairwise_iff_getElem.1 h.apart i j hi hj hij;have hids:W.pts[i].id≠W.pts[j].id:=by
   have:=List.pairwise_iff_getElem.1 (show(W.pts.map (·.id)).Pairwise (·≠·) from h.ids) i j (by simpa using hi) (by simpa using hj) hij;simpa using this
  have lti:=λx=>(h.each _ (rR hi)).lt x;have ltj:=λx=>(h.each _ (rR hj)).lt x;by_cases hi':W.pts[i].id=q.id
  ·have hj':¬W.pts[j].id=q.id:=λe=>hids (by rw[hi',e]);rw[rG hi',rF hj'];intro x hx hxj;rcases ht.grow x hx with h1|h1
   ·exact hoth _ (rR hj) hj' x h1 hxj
   ·have:=ltj x hxj;omega
  ·rw[rF hi'];by_cases hj':W.pts[j].id=q.id
   ·rw[rG hj'];intro x hxi hx;rcases ht.grow x hx with h1|h1
    ·exact hoth _ (rR hi) hi' x h1 hxi
    ·have:=lti x hxi;omega
   ·rw[rF hj'];exact hap
 ·dsimp only;rw[I9];exact h.ids
 ·exact(hgrow x hx).elim (h.lo x) λh=>by omega
theorem TmAt.base_le{base a:Nat}{w:World}{t W H:Nat}{T:Tm}{M:Scm}{G:Hs}(h:TmAt base w t W H T M G)(b:a≤base):TmAt a w t W H T M G:=
 ⟨h.hb,⟨h.scr.at_,h.scr.ok,h.scr.w,h.scr.h,h.scr.gw,λx c=>Nat.le_trans b (h.scr.lo x c)⟩,h.his,h.eok,h.kl,h.dk,λx c=>Nat.le_trans b (h.lo x c),h.sep,h.far,h.rw⟩
theorem WnAt.add(h:WnAt base w W){w1:World}(c:Chg [] w w1){q:Pt}(d:B4 base w1 q)(e:q.id∉W.pts.map (·.id))(f:∀x,q.own x→w.heap.size≤x)(g:base≤w.heap.size):
  WnAt base (Ab w1 W.tm (.map (AE .i64 (W.pts.map Pt.ent++[q.ent])) (W.tc+1))) { W with pts:=W.pts++[q],tc:=W.tc+1 }∧Trn W.own ({ W with pts:=W.pts++[q],tc:=W.tc+1 }:Wn).own w (Ab w1 W.tm (.map (AE .i64 (W.pts.map Pt.ent++[q.ent])) (W.tc+1))):=by
 have i:=h.lt;have j:=h.chg0 c;have k:=h.ne;have l:Chg [W.tm] w1 (Ab w1 W.tm (.map (AE .i64 (W.pts.map Pt.ent++[q.ent])) (W.tc+1))):=(sg _ _).set _ _ Z;have m:=Aw w1 W.tm (.map (AE .i64 (W.pts.map Pt.ent++[q.ent])) (W.tc+1)) W.tm rfl (Aa j.hm);have n:∀x,({ W with pts:=W.pts++[q],tc:=W.tc+1 }:Wn).own x→W.own x∨w.heap.size≤x:=by
  rintro x (rfl|rfl|rfl|o|⟨r,p,o⟩)
  ·exact .inl (.inl rfl)
  ·exact .inl (.inr (.inl rfl))
  ·exact .inl (.inr (.inr (.inl rfl)))
  ·exact .inl (.inr (.inr (.inr (.inl o))))
  ·rcases List.mem_append.1 p with p|p
   ·exact .inl (.inr (.inr (.inr (.inr ⟨r,p,o⟩))))
   ·simp at p;subst p;exact .inr (f x o)
 have s:W.tm<w.heap.size:=Aa h.hm;refine⟨⟨l.keep j.hb (by simp;exact k.2.1),j.lay.chg l (by simp;exact k.2.2.1) (λx o t=>by simp at t;subst t;exact k.2.2.2.2.2 o),?_,λr p=>?_,?_,?_,λx o=>?_⟩,Trn.of ((c.mono Z).trans l (λx o=>.inl o)) (by simp;exact .inr (.inr (.inl rfl))) n⟩
 ·dsimp only;rw[List.map_append];exact m
 ·rcases List.mem_append.1 p with p|p
  ·exact(j.each r p).chg l λx o=>by simp at o;subst o;exact(h.off p).2.2.1
  ·simp at p;subst p;exact d.chg l λx o d=>by simp at o;subst o;have:=f _ d;omega
 ·dsimp only;rw[List.pairwise_append];refine⟨h.apart,Z,λa u b v x y z=>?_⟩;simp at v;subst v;have:=f x z;have:=(h.each a u).lt x y;omega
 ·dsimp only;rw[List.map_append,List.nodup_append];exact⟨h.ids,Z,λa u b v=>by simp at v;subst v;rintro rfl;exact e u⟩
 ·exact(n x o).elim (h.lo x) λh=>by omega
theorem af{w h W H:Nat}(w0:0<w)(w1:w≤200)(a:0<h)(b:h≤60)(c:0<W)(f:W≤200)(g:0<H)(i:H≤60):(Gr.plain w h Cel.blank).resize W H Cel.blank=Gr.plain W H Cel.blank:=by
 unfold Gr.resize Gr.chg;refine Gr.of_rows (Gr.plain_ok c f g i _) λy j=>?_;split
 ·rename_i k;have l:y<h:=by have:(Gr.plain w h Cel.blank).h=h:=rfl;omega
  rw[Gr.plain_row (w:=W) (h:=H) j];have e:(Av W λx=>if x<(Gr.plain w h Cel.blank).w then(Gr.plain w h Cel.blank).at x y else(Gr.plain W H Cel.blank).at x y)=List.replicate W Cel.blank:=by
   rw[AX (d:=λ_=>Cel.blank) λx m=>?_]
   ·unfold Av;rw[List.map_const',List.length_range]
   ·split
    ·rename_i n;exact Gr.plain_at w0 w1 a b _ n l
    ·exact Gr.plain_at c f g i _ m j
  show Au (Av W λx=>if x<(Gr.plain w h Cel.blank).w then(Gr.plain w h Cel.blank).at x y else(Gr.plain W H Cel.blank).at x y)=_;rw[e];exact Hl (G4 λc o=>by rw[List.eq_of_mem_replicate o];exact Qe)
 ·rfl
theorem Ws{w h W H:Nat}(w0:0<w)(w1:w≤200)(a:0<h)(b:h≤60)(d:0<W)(f:W≤200)(g:0<H)(i:H≤60):(Scr.new w h).resize W H=Scr.new W H:=by
 have c:∀n,Ay ((0:Nat):Int) n=0:=λn=>by unfold Ay;omega
 have e:(Scr.new w h).g0=Gr.plain w h Cel.blank∧(Scr.new w h).g1=Gr.plain w h Cel.blank∧(Scr.new w h).s0=Sav.zero∧(Scr.new w h).s1=Sav.zero∧(Scr.new w h).now=Sav.zero:=⟨rfl,rfl,rfl,rfl,rfl⟩;unfold Scr.resize;rw[e.1,e.2.1,e.2.2.1,e.2.2.2.1,e.2.2.2.2,af w0 w1 a b d f g i];unfold Scr.move Scr.at;simp only[show Sav.zero.x=0 from rfl,show Sav.zero.y=0 from rfl,c];rfl
theorem Tw(h:WnAt base w W)(ok:W.L.ok)(hsub:∀i∈W.pts.map (·.id),i∈W.L.root.ids)(hbase:base≤w.heap.size):Calls prog 46 #[.pointer (some ⟨W.b,0,none⟩)] w
  (Ac λ_ w'=>∃pts tc,WnAt base w' { W with pts:=pts,tc:=tc }∧(∀i,i∈pts.map (·.id)↔i∈W.L.root.ids)∧(∀p∈pts,∀r,(p.id,r)∈W.L.root.panes W.L.R→(p.W:Int)=r.w∧(p.H:Int)=r.h)∧Trn W.own ({ W with pts:=pts,tc:=tc }:Wn).own w w'∧((∀p∈W.pts,p.new)→∀p∈pts,p.new)):=by
 have hpl:=Mt.panes_len W.L.root W.L.R;have hpi:=Mt.panes_ids W.L.root W.L.R;have hfew:=ok.few;have hpk:=Mt.panes_ok ok.fits ok.R;have hnd:((W.L.root.panes W.L.R).map (·.1)).Nodup:=by rw[hpi];exact ok.nd
 have hb:=h.hb;have hlt:=h.lt;apply Xw;intro K hK;unfold K4;refine sq hb ?_;refine td H3 rfl (GO h.lay ok) ?_;rintro v w1 ⟨ho,hc1⟩;obtain⟨a,cap,rfl,-,hs,hown,hfirst⟩:=ho.form;have h1:=h.chg0 hc1;have hz1:=hc1.size;refine sn ?_;refine Loop1.st (λq:Nat × List Pt × Nat=>.int .i64 (q.1:Int)) (λq w'=>q.1≤(W.L.root.panes W.L.R).length∧WnAt base w' { W with pts:=q.2.1,tc:=q.2.2 }∧(∀i∈q.2.1.map (·.id),i∈W.L.root.ids) ∧
  (∀j,j<q.1→∀x,(W.L.root.panes W.L.R)[j]?=some x→∃p∈q.2.1,p.id=x.1∧(p.W:Int)=x.2.w∧(p.H:Int)=x.2.h)∧Trn W.own ({ W with pts:=q.2.1,tc:=q.2.2 }:Wn).own w1 w'∧((∀p∈W.pts,p.new)→∀p∈q.2.1,p.new)) (λq=>(W.L.root.panes W.L.R).length-q.1) (0,W.pts,W.tc) rfl ⟨Z,h1,hsub,Z,Trn.refl _ _,λh=>h⟩ ?_
 rintro next ⟨i,pts,tc⟩ wi hn ⟨hi,hA,hsb,hdone,htr,hnw⟩
 dsimp only at hi hA hsb hdone htr hnw ⊢;refine sn ?_;refine sd (λg=>?_) (λg=>?_)
 ·have hi':i<(W.L.root.panes W.L.R).length:=O;have hsi:Sx wi (some 44) BV a (W.L.root.panes W.L.R):=by
   obtain⟨F,hc,hF⟩:=htr.chg;refine hs.chg hc λb o hb hne hm=>?_;obtain⟨gb,e,hge,-⟩:=hfirst hne;rw[e] at hb;cases hb;have:=hlt _ (hF _ hm);omega
  obtain⟨b',o,rfl,hbl,hcell⟩:=hsi.get DL (rI hi');have hxi:(W.L.root.panes W.L.R)[i]?=some (W.L.root.panes W.L.R)[i]:=rI hi';have hxm:=rR hi';obtain⟨x,hx⟩:∃x,x=(W.L.root.panes W.L.R)[i]:=⟨_,rfl⟩;rw[←hx] at hcell hxi hxm;obtain⟨xr,-⟩:=hpk x hxm;have hxid:x.1∈W.L.root.ids:=by rw[←hpi];exact List.mem_map.2 ⟨x,hxm,rfl⟩
  obtain⟨X,hX⟩:∃X:Nat,(X:Int)=x.2.w:=⟨x.2.w.toNat,by have:=xr.w0;omega⟩;obtain⟨Y,hY⟩:∃Y:Nat,(Y:Int)=x.2.h:=⟨x.2.h.toNat,by have:=xr.h0;omega⟩;have b1:=xr.w0;have b2:=xr.h0;have b3:=xr.xw;have b4:=xr.yh;have b5:=xr.x0;have b6:=xr.y0;simp only[BV,Rc.cells] at hcell;have hbi:=hA.hb;have hmi:=hA.hm;dsimp only at hbi hmi;have hdist:∀j,j<i→∀y,(W.L.root.panes W.L.R)[j]?=some y→y.1≠x.1:=by
   intro j hj y hy;have:=List.pairwise_iff_getElem.1 (show((W.L.root.panes W.L.R).map (·.1)).Pairwise (·≠·) from hnd) j i (by rw[List.length_map];omega) (by rw[List.length_map];omega) hj;rw[List.getElem_map,List.getElem_map,←hx] at this;obtain⟨hlt',e⟩:=rO.1 hy;rw[e] at this;exact this
  refine si (λw'=>∃pts' tc',WnAt base w' { W with pts:=pts',tc:=tc' }∧(∀i∈pts'.map (·.id),i∈W.L.root.ids)∧(∀j,j<i+1→∀x,(W.L.root.panes W.L.R)[j]?=some x→∃p∈pts',p.id=x.1∧(p.W:Int)=x.2.w∧(p.H:Int)=x.2.h)∧Trn W.own ({ W with pts:=pts',tc:=tc' }:Wn).own w1 w'∧((∀p∈W.pts,p.new)→∀p∈pts',p.new)) ?_ ?_
  ·have lbi:=Aa hbi;have lmi:=Aa hmi;have hca:=Ar wi (.cells #[.int .i64 x.1,.int .i64 x.2.x,.int .i64 x.2.y,.int .i64 x.2.w,.int .i64 x.2.h] 44);cases hf:pts.find? λy=>y.ent.1 == x.1 with
   | some p =>
    obtain⟨hp,hpid⟩:=It hf;have hfe:BH (pts.map Pt.ent) x.1=some (.pointer (some ⟨p.t,0,none⟩)):=by rw[Ir,hf];rfl
    simp -dsimp (disch:=first|omega|(simp only[go_sem,seval];try omega))only[go_sem,seval,hcell,hbi,hmi,hfe,Option.getD_some];have hA1:=hA.chg0 hca.drew;obtain⟨hpt,hpr⟩:=hA1.each p hp;have hzi:base≤(wi.alloc (.cells #[.int .i64 x.1,.int .i64 x.2.x,.int .i64 x.2.y,.int .i64 x.2.w,.int .i64 x.2.h] 44)).drew.heap.size:=by
     have:=hca.size;have:=htr.size;have:wi.heap.size≤(wi.alloc (.cells #[.int .i64 x.1,.int .i64 x.2.x,.int .i64 x.2.y,.int .i64 x.2.w,.int .i64 x.2.h] 44)).drew.heap.size:=by assumption
     omega
    have T0:Trn ({ W with pts:=pts,tc:=tc }:Wn).own ({ W with pts:=pts,tc:=tc }:Wn).own wi (wi.alloc (.cells #[.int .i64 x.1,.int .i64 x.2.x,.int .i64 x.2.y,.int .i64 x.2.w,.int .i64 x.2.h] 44)).drew:=Trn.of0 hca.drew λ_ h=>.inl h;generalize (wi.alloc (.cells #[.int .i64 x.1,.int .i64 x.2.x,.int .i64 x.2.y,.int .i64 x.2.w,.int .i64 x.2.h] 44)).drew=wj at hA1 hpt hzi T0 ⊢;rw[←hX,←hY];refine td TK rfl (bu hpt hpr hzi X Y O O O O) ?_;rintro v w2 ⟨-,M',hT',hr',hc2,hk2,hS'⟩;obtain⟨q,hq⟩:∃q:Pt,q=⟨p.id,p.born,p.t,X,Y,p.T,M',p.G⟩:=⟨_,rfl⟩;have hqo:B4 base w2 q:=by rw[hq];exact⟨hT',hr'⟩
    have hqt:Trn p.own q.own wj w2:=by
     rw[hq];refine Trn.of hc2 (λx hx=>?_) λx hx=>?_
     ·rcases rM.1 hx with e|hx
      ·exact .inr (.inl e)
      ·exact .inr (.inr (.inl hx))
     ·rcases hx with hx|hx|hx|hx|hx|hx
      ·exact .inl (.inl hx)
      ·exact .inl (.inr (.inl hx))
      ·exact(hk2 x hx).imp (λh=>.inr (.inr (.inl h))) id
      ·exact .inl (.inr (.inr (.inr (.inl hx))))
      ·exact .inl (.inr (.inr (.inr (.inr (.inl hx)))))
      ·exact .inl (.inr (.inr (.inr (.inr (.inr hx)))))
    obtain⟨n1,n2⟩:=hA1.turn hp (q:=q) (by rw[hq];rfl) hqt hqo hzi;dsimp only at n1 n2;have hqid:q.id=x.1:=by rw[hq];exact hpid
    have hnew2:(∀p∈W.pts,p.new)→∀r∈Be pts q,r.new:=λhall r hr=>by
     rcases Hx hr with rfl|⟨hr,-⟩
     ·obtain⟨a1,a2,a3⟩:=hnw hall p hp;have hpw:=hpt.scr.w;have hph:=hpt.scr.h;have hpo:=hpt.scr.ok;have p1:=hpo.w0;have p2:=hpo.w1;have p3:=hpo.h0;have p4:=hpo.h1;rw[hq];refine⟨?_,a2,a3⟩;show M'.S=Scr.new X Y;rw[hS',a1];exact Ws O O O O O O O O
     ·exact hnw hall r hr
    refine⟨Be pts q,tc,n1,λi hi=>?_,λj hj y hy=>?_,(htr.trans T0).trans n2,hnew2⟩
    ·rw[I9] at hi;exact hsb i hi
    ·have hqm:q∈Be pts q:=by
      unfold Be;exact List.mem_map.2 ⟨p,hp,by rw[rG (by rw[hqid];exact hpid)]⟩
     rcases Nat.lt_or_ge j i with h1|h1
     ·obtain⟨p',hp',e⟩:=hdone j h1 y hy;refine⟨p',?_,e⟩;unfold Be;exact List.mem_map.2 ⟨p',hp',by rw[rF (by rw[hqid,e.1];exact hdist j h1 y hy)]⟩
     ·have:j=i:=O;subst this;rw[hxi] at hy;cases hy;exact⟨q,hqm,hqid,by rw[hq];exact⟨hX,hY⟩⟩
   | none =>
    have hfe:BH (pts.map Pt.ent) x.1=none:=by rw[Ir,hf];rfl
    simp -dsimp (disch:=first|omega|(simp only[go_sem,seval];try omega))only[go_sem,seval,hcell,hbi,hmi,hfe,Option.getD_none];have hzi:base≤(wi.alloc (.cells #[.int .i64 x.1,.int .i64 x.2.x,.int .i64 x.2.y,.int .i64 x.2.w,.int .i64 x.2.h] 44)).drew.drew.heap.size:=by
     have:=hca.size;have:=htr.size;have:wi.heap.size≤(wi.alloc (.cells #[.int .i64 x.1,.int .i64 x.2.x,.int .i64 x.2.y,.int .i64 x.2.w,.int .i64 x.2.h] 44)).drew.drew.heap.size:=by assumption
     omega
    have hbj:=hca.keep hbi Z;have hmj:=hca.keep hmi Z;have a5:(wi.alloc (.cells #[.int .i64 x.1,.int .i64 x.2.x,.int .i64 x.2.y,.int .i64 x.2.w,.int .i64 x.2.h] 44)).heap[wi.heap.size]?=some (.cells #[.int .i64 x.1,.int .i64 x.2.x,.int .i64 x.2.y,.int .i64 x.2.w,.int .i64 x.2.h] 44):=by simp -dsimp (disch:=first|omega|(simp only[go_sem,seval];try omega))only[go_sem,seval]
    have hcj:Chg [] wi (wi.alloc (.cells #[.int .i64 x.1,.int .i64 x.2.x,.int .i64 x.2.y,.int .i64 x.2.w,.int .i64 x.2.h] 44)).drew.drew:=hca.drew.drew
    replace hbj:(wi.alloc (.cells #[.int .i64 x.1,.int .i64 x.2.x,.int .i64 x.2.y,.int .i64 x.2.w,.int .i64 x.2.h] 44)).drew.drew.heap[W.b]?=_:=hbj
    replace hmj:(wi.alloc (.cells #[.int .i64 x.1,.int .i64 x.2.x,.int .i64 x.2.y,.int .i64 x.2.w,.int .i64 x.2.h] 44)).drew.drew.heap[W.tm]?=_:=hmj
    replace a5:(wi.alloc (.cells #[.int .i64 x.1,.int .i64 x.2.x,.int .i64 x.2.y,.int .i64 x.2.w,.int .i64 x.2.h] 44)).drew.drew.heap[wi.heap.size]?=_:=a5
    generalize (wi.alloc (.cells #[.int .i64 x.1,.int .i64 x.2.x,.int .i64 x.2.y,.int .i64 x.2.w,.int .i64 x.2.h] 44)).drew.drew=wj at hcj hbj hmj a5 hzi ⊢;rw[←hX,←hY];refine td U4 rfl (Yt wj X Y O O O O W.room) ?_;rintro v w2 ⟨t,s,hh,M,G,rfl,hT,hSn,-,-,hc2,hnew,hrows⟩;have hc02:=hcj.trans0 hc2;have hb2:=hc2.keep hbj Z;have hm2:=hc2.keep hmj Z;have a52:=hc2.keep a5 Z;obtain⟨q,hq⟩:∃q:Pt,q=⟨x.1,tc,t,X,Y,⟨s,hh,[],Esc.new⟩,M,G⟩:=⟨_,rfl⟩;have hqo:B4 base w2 q:=by rw[hq];exact⟨hT.base_le hzi,hrows⟩
    have hqid:q.id=x.1:=by rw[hq]
    have hqe:q.ent=(x.1,.pointer (some ⟨t,0,none⟩),tc):=by rw[hq];rfl
    have hzj:=hcj.size;obtain⟨n1,n2⟩:=hA.add hc02 (q:=q) hqo (by
     dsimp only;rw[hqid];intro hm;obtain⟨p,hp,e⟩:=List.mem_map.1 hm;have:=List.find?_eq_none.1 hf p hp;simp [Pt.ent,e] at this) (λy hy=>by rw[hq] at hy;exact Nat.le_trans hzj (hnew y hy)) (by have:=htr.size;omega)
    dsimp only at n1 n2;rw[hqe] at n1 n2;have hpc:DV (pts.map Pt.ent) x.1 tc=tc+1:=by simp [DV,hfe]
    simp -dsimp (disch:=first|omega|(simp only[go_sem,seval];try omega))only[go_sem,seval,hb2,hm2,a52,Pz hfe,hpc];refine⟨pts++[q],tc+1,n1,λi hi=>?_,λj hj y hy=>?_,htr.trans n2,λhall r hr=>(List.mem_append.1 hr).elim (hnw hall r) λhr=>by
     rw[List.mem_singleton] at hr;rw[hr,hq];exact⟨hSn,rfl,rfl⟩⟩
    ·rw[List.map_append] at hi;rcases List.mem_append.1 hi with hi|hi
     ·exact hsb i hi
     ·simp at hi;rw[hi,hqid];exact hxid
    ·rcases Nat.lt_or_ge j i with h1|h1
     ·obtain⟨p',hp',e⟩:=hdone j h1 y hy;exact⟨p',List.mem_append_left _ hp',e⟩
     ·have:j=i:=O;subst this;rw[hxi] at hy;cases hy;exact⟨q,Z,hqid,by rw[hq];exact⟨hX,hY⟩⟩
  ·rintro w2 ⟨pts',tc',a1,a2,a3,a4,a5⟩;have e1:(i:Int)+1=((i+1:Nat):Int):=O;refine sq e1 ?_;exact hn (i+1,pts',tc') _ ⟨by dsimp only;omega,a1,a2,a3,a4,a5⟩ (by dsimp only;omega)
 ·have hil:i=(W.L.root.panes W.L.R).length:=O;have hall:∀x∈W.L.root.panes W.L.R,∃p∈pts,p.id=x.1∧(p.W:Int)=x.2.w∧(p.H:Int)=x.2.h:=by
   intro x hx;obtain⟨j,hj,e⟩:=List.mem_iff_getElem.1 hx;exact hdone j O x (by rw[rI hj,e])
  refine hK _ _ ⟨pts,tc,hA,λi=>⟨hsb i,λhi=>?_⟩,λp hp r hr=>?_,(Trn.of0 hc1 λ_ h=>.inl h).trans htr,hnw⟩
  ·rw[←hpi] at hi;obtain⟨x,hx,rfl⟩:=List.mem_map.1 hi;obtain⟨p,hp,e,-⟩:=hall x hx;exact List.mem_map.2 ⟨p,hp,e⟩
  ·obtain⟨p',hp',e,e1,e2⟩:=hall _ hr;have:p'=p:=by
    have hids:=hA.ids;dsimp only at hids e;clear hn hdone hall hA hsb htr hnw
    induction pts with
    | nil=>simp at hp
    | cons z l ih =>
     rw[List.map_cons,List.nodup_cons] at hids;rcases rM.1 hp with rfl|h1<;>rcases rM.1 hp' with rfl|h2
     ·rfl
     ·exact absurd (List.mem_map.2 ⟨p',h2,e⟩) hids.1
     ·exact absurd (List.mem_map.2 ⟨p,h1,e.symm⟩) hids.1
     ·exact ih h1 h2 hids.2
   subst this;exact⟨e1,e2⟩
end
set_option maxRecDepth 100000
def Qd(a:Value)(K:rD):rE:=xO .eql 76 a (.int .i64 0) λb=>xW b (K .nilIface)<|xQ (.makeInterface 76 (.const a)) 32 λb=>K b
theorem TQ(a:Value):Lk 19 #[a] (Qd a):=lk [a] [] func19
theorem GZ:Ad prog 19:=bd func19
def JH(a b:Value)(K:rD):rE:=xK .eql 32 a λc=>xW c (K .nilIface)<|xQ (.build 192 #[(0,.const a),(1,.const b)]) 192 λc=>xQ (.box 192 (.const c)) 190 λc=>xQ (.makeInterface 190 (.const c)) 32 λc=>K c
theorem QV(a b:Value):Lk 49 #[a,b] (JH a b):=lk [a,b] [] func49
theorem S8:Ad prog 49:=bd func49
def KF(a b:Value)(K:rD):rE:=xK .eql 32 a λc=>xW c (K .nilIface)<|xQ (.build 195 #[(0,.const a),(1,.const b)]) 195 λc=>xQ (.box 195 (.const c)) 193 λc=>xQ (.makeInterface 193 (.const c)) 32 λc=>K c
theorem RJ(a b:Value):Lk 50 #[a,b] (KF a b):=lk [a,b] [] func50
theorem PD:Ad prog 50:=bd func50
def QP(a:Value)(K:rD):rE:=xU a 122 λb=>Loop2 (.slice none 0 0) (.int .i64 0) λc d e=>xO .lss 3 d b λb=>xW b (Join1 (λb=>xI 122 a d λf=>xL 32 f λf=>xK .neq 32 f λg=>xW g (xQ (.buildSlice 122 1 #[(0,.const f)]) 122 λg=>xV c g 122 122 122 λg=>b g)<|b c) λg=>xO .add 3 d (.int .i64 1) λd=>e g d)<|xU c 122 λd=>xO .eql 3 d (.int .i64 0) λg=>xW g (K .nilIface)<|xO .eql 3 d (.int .i64 1) λg=>xW g (xI 122 c (.int .i64 0) λg=>xL 32 g λg=>K g)<|xQ (.build 198 #[(0,.const c)]) 198 λg=>xQ (.box 198 (.const g)) 196 λg=>xQ (.makeInterface 196 (.const g)) 32 λg=>K g
theorem iN(a:Value):Lk 51 #[a] (QP a):=lk [a] [(8,[3,8]),(15,[3])] func51
theorem eC:Ad prog 51:=bd func51
def B6(c:Int):Value:=.iface 76 (.int .i64 c)
theorem Ho(w:World)(c:Int):Calls prog 19 #[.int .i64 c] w (Ac λv a=>v=(if c=0 then .nilIface else B6 c)∧a=w):=by
 apply TQ;intro K b;unfold Qd;refine sn ?_;refine sd (λg=>?_) (λg=>?_)
 ·exact b _ _ ⟨by rw[rG g],rfl⟩
 ·refine sn ?_;exact b _ _ ⟨by rw[rF g];rfl,rfl⟩
theorem jH(w:World)(i:Int):Calls prog 49 #[.nilIface,.int .i64 i] w (Ac λv a=>v=.nilIface∧a=w):=by
 apply QV;intro K b;unfold JH;refine sn ?_;exact b _ _ ⟨rfl,rfl⟩
theorem XI(w:World)(s:ByteArray):Calls prog 50 #[.nilIface,.string s] w (Ac λv a=>v=.nilIface∧a=w):=by
 apply RJ;intro K b;unfold KF;refine sn ?_;exact b _ _ ⟨rfl,rfl⟩
theorem XR (w:World) (t:TypeId) (x:Value) (i:Int):Calls prog 49 #[.iface t x,.int .i64 i] w (Ac λv w'=>v=.iface 190 (.pointer (some ⟨w.heap.size,0,none⟩))∧w'.heap[w.heap.size]?=some (.cells #[.iface t x,.int .i64 i] 192)∧Chg [] w w'):=by
 apply QV
 intro K hK
 unfold JH
 refine sn ?_
 refine hK _ _ ⟨rfl,?_,by(repeat (first|exact Chg.refl _ _|apply Chg.drew|apply Chg.alloc|(refine Chg.set ?_ _ _ (by first|(left;simp;done)|(right;omega)))))⟩
 exact so
theorem iK (w:World) (t:TypeId) (x:Value) (s:ByteArray):Calls prog 50 #[.iface t x,.string s] w (Ac λv w'=>v=.iface 193 (.pointer (some ⟨w.heap.size,0,none⟩))∧w'.heap[w.heap.size]?=some (.cells #[.iface t x,.string s] 195)∧Chg [] w w'):=by
 apply RJ
 intro K hK
 unfold KF
 refine sn ?_
 refine hK _ _ ⟨rfl,?_,by(repeat (first|exact Chg.refl _ _|apply Chg.drew|apply Chg.alloc|(refine Chg.set ?_ _ _ (by first|(left;simp;done)|(right;omega)))))⟩
 exact so
theorem Y1(w:World)(x y:Int):Calls prog 89 #[.int .i64 x,.int .i64 y] w (Ac λv w'=>v=.bool (decide (1≤x∧x≤200∧1≤y∧y≤60))∧w'=w):=by
 apply eh;intro K a;unfold Pv;refine sh (λv w'=>v=.bool (decide (1≤x∧x≤200∧1≤y∧y≤60))∧w'=w) ?_ (λv w' h=>a _ _ h);simp -dsimp (disch:=first|omega|(simp only[go_sem,seval];try omega))only[go_sem,seval];refine sd (λg1=>?_) (λg1=>⟨sv O,rfl⟩);simp -dsimp (disch:=first|omega|(simp only[go_sem,seval];try omega))only[go_sem,seval];refine sd (λg2=>?_) (λg2=>⟨sv O,rfl⟩);simp -dsimp (disch:=first|omega|(simp only[go_sem,seval];try omega))only[go_sem,seval];refine sd (λg3=>?_) (λg3=>⟨sv O,rfl⟩);simp -dsimp (disch:=first|omega|(simp only[go_sem,seval];try omega))only[go_sem,seval];exact sw ⟨λh=>O,λh=>O⟩
theorem fc (w:World) (x y:Int) (h1:1≤x) (h2:x≤200) (h3:1≤y) (h4:y≤60):Calls prog 45 #[.int .i64 x,.int .i64 y] w
  (Ac λv w'=>∃b t,v=.pointer (some ⟨b,0,none⟩)∧LAt w' b ⟨.pane t 1,⟨0,0,x,y⟩,1⟩∧w.heap.size≤b∧w.heap.size≤t∧Chg [] w w'):=by
 apply XC
 intro K hK
 unfold Rv
 refine OpX.call VC rfl (Calls.ret (Y1 w x y) ?_)
 rintro v w1 ⟨rfl,rfl⟩
 rw[decide_eq_true (by omega)]
 simp -dsimp (disch:=first|omega|(simp only[go_sem,seval];try omega))only[go_sem,seval]
 refine hK _ _ ⟨w1.heap.size+1,w1.heap.size,rfl,⟨?_,?_,by simp [Mt.blks]⟩,by omega,Nat.le_refl _,by(repeat (first|exact Chg.refl _ _|apply Chg.drew|apply Chg.alloc|(refine Chg.set ?_ _ _ (by first|(left;simp;done)|(right;omega)))))⟩
 ·simp only[Mt.blk]
  simp -dsimp (disch:=first|omega|(simp only[go_sem,seval];try omega))only[go_sem,seval]
 ·simp only[AB]
  simp -dsimp (disch:=first|omega|(simp only[go_sem,seval];try omega))only[go_sem,seval]
theorem Rg{x y:Int}{t:Nat}(a:1≤x)(c:x≤200)(d:1≤y)(e:y≤60):(⟨.pane t 1,⟨0,0,x,y⟩,1⟩:Ly).ok:=
 ⟨Int.le_refl _,⟨Int.le_refl _,Int.le_refl _,a,d,by dsimp only;omega,by dsimp only;omega⟩,rfl,by simp [Mt.ids],by simp [Mt.ids],by simp [Mt.ids]⟩
section
variable {w w':World} {b:Nat} {L:Ly}
theorem ke{id:Int}{t:Mt}{R:Rc}(a:id∈t.ids):∃W d S,t.way id R=W++[(Mt.pane d id,S)]∧(Mt.pane d id,S)∈t.all R:=by
 have f:t.way id R≠[]:=λh=>Mt.way_nil.1 h a;obtain⟨W,c,S,e,-⟩:=Mt.way_end f;exact⟨W,c,S,e,Mt.way_all _ (by rw[e];simp)⟩
theorem ju(h:LAt w b L)(ok:L.ok){id:Int}{W:List (Mt × Rc)}{c:Nat}{S:Rc}(d:L.root.way id L.R=W++[(Mt.pane c id,S)]){e:Value}(R:World→Prop)(f:∀w1,Chg [] w w1→Bm prog e [.pointer (some ⟨c,0,none⟩),S.val] (λ_ w2=>R w2) w1):
  Calls prog 203 #[.pointer (some ⟨b,0,none⟩),.int .i64 id,e] w (Ac λv w'=>v=.bool true∧R w'):=by
 have g:=h.hb;have j:=Mt.way_len (id:=id) (t:=L.root) (R:=L.R);have k:=ok.few;apply aS;intro K l;unfold LZ;simp -dsimp (disch:=first|omega|(simp only[go_sem,seval];try omega))only[go_sem,seval,g];refine td Jf rfl (Yq id (h.tree.chg0 (sg _ _).drew) ok.ok ok.R ok.fits O) ?_;rintro v w1 ⟨m,-,n⟩;obtain⟨a,p,rfl,-,q,-,-⟩:=m.form;have r:(L.root.way id L.R).length=W.length+1:=by rw[d];simp
 obtain⟨s,o,rfl,u,y⟩:=q.get Hq (i:=W.length) (x:=(Mt.pane c id,S)) (by rw[d];simp);simp only[Df,Rc.cells,Mt.blk] at y;rw[r];have z:¬((W.length+1:Nat):Int)=0:=O;have A:((W.length+1:Nat):Int)-1=(W.length:Int):=O;simp -dsimp (disch:=first|omega|(simp only[go_sem,seval];try omega))only[go_sem,seval,z,A,y];have B:=Ar w1 (.cells #[.pointer (some ⟨c,0,none⟩),.int .i64 S.x,.int .i64 S.y,.int .i64 S.w,.int .i64 S.h] 281);refine(f _ (n.low_drew.trans0 B)).use (vs:=[.pointer (some ⟨c,0,none⟩),S.val]) ?_;exact λv w2 h=>l _ _ ⟨rfl,h⟩
theorem Xq{K:Value→World→Prop}{v:Value}{w:World}(h:∀w0,w0=w→K v w0):K v w:=h w rfl
def Cy(L:Ly)(ac:Bool)(a n1 n2:Nat)(S:Rc)(id:Int):Ly:=⟨L.root.put a (.split a ac (S.len ac / 2) (S.len ac-1) (.pane n1 id) (.pane n2 (L.newest+1))),L.R,L.newest+1⟩
theorem aF(h:LAt w b L)(ok:L.ok){id:Int}(hid:id∈L.root.ids)(hnew:L.newest≤1000000000000000)(ac:Bool):Calls prog 159 #[.pointer (some ⟨b,0,none⟩),.int .i64 id,.bool ac] w
  (Ac λv w'=>∃nb S,(Mt.pane nb id,S)∈L.root.all L.R∧(
   ((16≤L.root.ids.length∨S.len ac<3)∧v=.tuple #[.int .i64 0,B6 (if 16≤L.root.ids.length then 15 else 19)]∧Chg [] w w') ∨
   (L.root.ids.length<16∧3≤S.len ac∧v=.tuple #[.int .i64 (L.newest+1),.nilIface]∧∃n1 n2,w.heap.size≤n1∧w.heap.size≤n2∧n1≠n2∧LAt w' b (Cy L ac nb n1 n2 S id)∧Chg [b,nb] w w'))):=by
 obtain⟨Wy,nb,S,hw,hall⟩:=ke (R:=L.R) hid;have hfew:=ok.few;have hpl:=Mt.panes_len L.root L.R;have hb:=h.hb;obtain⟨Sok,-,-⟩:=Mt.all_ok ok.fits ok.R _ hall;dsimp only at Sok;have hn1:=ok.new id hid;have hn0:=Mt.ok_ids ok.ok id hid;have hnl:S.len ac≤200:=by
  have:=Sok.x0;have:=Sok.y0;have:=Sok.xw;have:=Sok.yh;cases ac<;>simp only[Rc.len,if_true,Bool.false_eq_true,if_false]<;>omega
 have hnbm:nb∈L.root.blks:=Mt.all_blk _ hall nb (by simp [Mt.blks]);have hnblt:=h.tree.lt nb hnbm;have hlb:=Aa hb;have hbnb:b∉L.root.blks:=λhm=>by
  obtain⟨c,fr,e⟩:=h.tree.tag b hm;rw[hb] at e;simp at e
 apply VS;intro K hK;unfold Te;simp -dsimp (disch:=first|omega|(simp only[go_sem,seval];try omega))only[go_sem,seval];refine OpX.gen λw0 hw0=>?_;have hc0:Chg [] w w0:=by rw[hw0];exact sy
 have hz0:w0.heap.size=w.heap.size+3:=by rw[hw0];simp -dsimp (disch:=first|omega|(simp only[go_sem,seval];try omega))only[go_sem,seval]
 have a3:w0.heap[w.heap.size]?=some (.cells #[.pointer (some ⟨b,0,none⟩)] 81):=by rw[hw0];simp -dsimp (disch:=first|omega|(simp only[go_sem,seval];try omega))only[go_sem,seval]
 have a4:w0.heap[w.heap.size+1]?=some (.cells #[.int .i64 id] 3):=by rw[hw0];simp -dsimp (disch:=first|omega|(simp only[go_sem,seval];try omega))only[go_sem,seval]
 have a5:w0.heap[w.heap.size+2]?=some (.cells #[.bool ac] 4):=by rw[hw0];simp -dsimp (disch:=first|omega|(simp only[go_sem,seval];try omega))only[go_sem,seval]
 clear hw0;have h0:=h.chg0 hc0;refine td J9 rfl (JO h0) ?_;rintro v w1 ⟨rfl,rfl⟩;simp -dsimp (disch:=first|omega|(simp only[go_sem,seval];try omega))only[go_sem,seval,a3];refine td H3 rfl (GO h0 ok) ?_;rintro v w2 ⟨ho,hc2⟩;obtain⟨a,cap,rfl,-,hs,-,-⟩:=ho.form;have a32:=hc2.keep a3 Z;have a42:=hc2.keep a4 Z;have a52:=hc2.keep a5 Z;have hz2:=hc2.size;simp -dsimp (disch:=first|omega|(simp only[go_sem,seval];try omega))only[go_sem,seval,a32,a42];refine OpX.gen λw3 hw3=>?_;have hc3:Chg [] w2 w3:=by rw[hw3];exact sy
 have hz3:w3.heap.size=w2.heap.size+2:=by rw[hw3];simp -dsimp (disch:=first|omega|(simp only[go_sem,seval];try omega))only[go_sem,seval]
 have a8:w3.heap[w2.heap.size]?=some (.cells #[.slice a (L.root.panes L.R).length cap] 36):=by rw[hw3];simp -dsimp (disch:=first|omega|(simp only[go_sem,seval];try omega))only[go_sem,seval]
 have a9:w3.heap[w2.heap.size+1]?=some (.cells #[.int .i64 0] 3):=by rw[hw3];simp -dsimp (disch:=first|omega|(simp only[go_sem,seval];try omega))only[go_sem,seval]
 clear hw3;have hc03:=(hc0.trans0 hc2).trans0 hc3;have h3:=h.chg0 hc03;obtain⟨Rr,hRr⟩:∃Rr:World→Prop,Rr=λw'=>((16≤L.root.ids.length∨S.len ac<3)∧Chg [] w3 w')∨((L.root.ids.length<16∧3≤S.len ac)∧∃n1 n2,w3.heap.size≤n1∧n1<n2∧Chg [w2.heap.size+1,nb] w3 w'∧w'.heap[w2.heap.size+1]?=some (.cells #[.int .i64 (L.newest+1)] 3) ∧
  AB w' (.split nb ac (S.len ac / 2) (S.len ac-1) (.pane n1 id) (.pane n2 (L.newest+1)))):=⟨_,rfl⟩
 have hclo:∀w4,Chg [] w3 w4→Bm prog (.func (.func 204) #[] #[.pointer (some ⟨w.heap.size+1+1,0,none⟩),.pointer (some ⟨w2.heap.size,0,none⟩),.pointer (some ⟨w.heap.size,0,none⟩),.pointer (some ⟨w2.heap.size+1,0,none⟩),.pointer (some ⟨w.heap.size+1,0,none⟩)]) [.pointer (some ⟨nb,0,none⟩),S.val] (λ_ w2=>Rr w2) w4:=by
  intro w4 hc4;refine Bm.of (us:=[]) (cs:=[.pointer (some ⟨w.heap.size+1+1,0,none⟩),.pointer (some ⟨w2.heap.size,0,none⟩),.pointer (some ⟨w.heap.size,0,none⟩),.pointer (some ⟨w2.heap.size+1,0,none⟩),.pointer (some ⟨w.heap.size+1,0,none⟩)]) dq ?_;have hc24:=hc3.trans0 hc4;have b3:=hc24.keep a32 Z;have b4:=hc24.keep a42 Z;have b5:=hc24.keep a52 Z;have b8:=hc4.keep a8 Z;have b9:=hc4.keep a9 Z;have hb4:=hc4.keep h3.hb Z;have hnb4:w4.heap[nb]?=some (.cells #[.int .i64 id,.bool false,.int .i64 0,.int .i64 0,.pointer none,.pointer none] 143):=AB.sub (h3.tree.chg0 hc4) _ hall;have l3:=Aa b3;have l4:=Aa b4;have l5:=Aa b5;have l8:=Aa b8;have l9:=Aa b9;have lb4:=Aa hb4;have lnb4:=Aa hnb4;apply dC;intro K hK;unfold P7;simp -dsimp (disch:=first|omega|(simp only[go_sem,seval];try omega))only[go_sem,seval,Rc.val,b5];refine OpX.gen λw5 hw5=>?_;have hc5:Chg [] w4 w5:=by rw[hw5];exact sy
  clear hw5;refine td LG rfl (LB w5 S ac) ?_;rintro v w6 ⟨rfl,hc6⟩;have hc46:=hc5.trans0 hc6;have c8:=hc46.keep b8 Z;refine sh (λv w'=>v=.bool (decide (S.len ac<3∨16≤L.root.ids.length))∧w'=w6) ?_ ?_
  ·simp -dsimp (disch:=first|omega|(simp only[go_sem,seval];try omega))only[go_sem,seval];refine sd (λg=>⟨su (.inl g),rfl⟩) (λg=>?_);simp -dsimp (disch:=first|omega|(simp only[go_sem,seval];try omega))only[go_sem,seval,c8];rw[hpl];exact sw ⟨λh=>.inr O,λh=>O⟩
  rintro v w7 ⟨rfl,rfl⟩;refine sd (λg=>?_) (λg=>?_)
  ·exact hK _ _ (by rw[hRr];exact .inl ⟨O,hc4.trans0 hc46⟩)
  ·have c3:=hc46.keep b3 Z;have c4:=hc46.keep b4 Z;have c5:=hc46.keep b5 Z;have c9:=hc46.keep b9 Z;have cb:=hc46.keep hb4 Z;have cnb:=hc46.keep hnb4 Z;have m3:=Aa c3;have m4:=Aa c4;have m5:=Aa c5;have m9:=Aa c9;have mb:=Aa cb;have mnb:=Aa cnb;have hz36:=(hc4.trans0 hc46).size;have e2:(S.len ac).tdiv 2=S.len ac / 2:=Int.tdiv_eq_ediv_of_nonneg O;simp -dsimp (disch:=first|omega|(simp only[go_sem,seval];try omega))only[go_sem,seval,c3,c4,c5,c9,cb,cnb,e2];refine Xq λw8 hw8=>?_;have hc8:Chg [w2.heap.size+1,nb] w7 w8:=by rw[hw8];exact sy
   have d9:w8.heap[w2.heap.size+1]?=some (.cells #[.int .i64 (L.newest+1)] 3):=by rw[hw8];simp -dsimp (disch:=first|omega|(simp only[go_sem,seval];try omega))only[go_sem,seval]
   have dn:w8.heap[nb]?=some (.cells #[.int .i64 0,.bool ac,.int .i64 (S.len ac / 2),.int .i64 (S.len ac-1),.pointer (some ⟨w7.heap.size,0,none⟩),.pointer (some ⟨w7.heap.size+1,0,none⟩)] 143):=by rw[hw8];simp -dsimp (disch:=first|omega|(simp only[go_sem,seval];try omega))only[go_sem,seval]
   have d1:w8.heap[w7.heap.size]?=some (.cells #[.int .i64 id,.bool false,.int .i64 0,.int .i64 0,.pointer none,.pointer none] 143):=by rw[hw8];simp -dsimp (disch:=first|omega|(simp only[go_sem,seval];try omega))only[go_sem,seval]
   have d2:w8.heap[w7.heap.size+1]?=some (.cells #[.int .i64 (L.newest+1),.bool false,.int .i64 0,.int .i64 0,.pointer none,.pointer none] 143):=by rw[hw8];simp -dsimp (disch:=first|omega|(simp only[go_sem,seval];try omega))only[go_sem,seval]
   refine hK _ _ ?_;rw[hRr];exact .inr ⟨O,w7.heap.size,w7.heap.size+1,hz36,O,((hc4.trans0 hc46).mono Z).trans hc8 (λx hx=>.inl hx),d9,dn,d1,d2⟩
 refine td W9 rfl (ju h3 ok hw Rr hclo) ?_;rintro v w4 ⟨rfl,hR⟩;rw[hRr] at hR;have l8:=Aa a8;rcases hR with ⟨href,hc4⟩|⟨⟨g1,g2⟩,n1,n2,m1,m2,hc4,d9,hT⟩
 ·have b3:=(hc3.trans0 hc4).keep a32 Z;have b8:=hc4.keep a8 Z;have b9:=hc4.keep a9 Z;simp -dsimp (disch:=first|omega|(simp only[go_sem,seval];try omega))only[go_sem,seval,b8];rw[hpl];refine sd (λg=>?_) (λg=>?_)
  ·refine td GZ rfl (Ho w4 15) ?_;rintro v w5 ⟨rfl,rfl⟩;exact hK _ _ ⟨nb,S,hall,.inl ⟨href,by rw[rG (show 16≤L.root.ids.length by omega)];rfl,hc03.trans0 hc4⟩⟩
  ·simp -dsimp (disch:=first|omega|(simp only[go_sem,seval];try omega))only[go_sem,seval,b9];refine td GZ rfl (Ho w4 19) ?_;rintro v w5 ⟨rfl,rfl⟩;exact hK _ _ ⟨nb,S,hall,.inl ⟨href,by rw[rF (show ¬16≤L.root.ids.length by omega)];rfl,hc03.trans0 hc4⟩⟩
 ·have hz03:=hc03.size;have hne3:w.heap.size≠nb:=O;have b3:w4.heap[w.heap.size]?=_:=hc4.keep ((hc3).keep a32 Z) (by simp;omega);have b8:=hc4.keep a8 (by simp;omega);have hb4:=hc4.keep h3.hb (by simp;refine⟨O,λe=>hbnb (e ▸ hnbm)⟩);have lb4:=Aa hb4;have hn9:¬(L.newest+1=0):=O;simp -dsimp (disch:=first|omega|(simp only[go_sem,seval];try omega))only[go_sem,seval,b8];rw[hpl];refine sd (λg=>absurd g O) (λ_=>?_);simp -dsimp (disch:=first|omega|(simp only[go_sem,seval];try omega))only[go_sem,seval,b3,d9,hb4,hn9];refine hK _ _ ⟨nb,S,hall,.inr ⟨g1,g2,rfl,n1,n2,O,O,O,?_,?_⟩⟩
  ·have hcs:Chg [b] w4 (Ab w4 b (.cells #[.pointer (some ⟨L.root.blk,0,none⟩),.int .i64 L.R.x,.int .i64 L.R.y,.int .i64 L.R.w,.int .i64 L.R.h,.int .i64 (L.newest+1)] 140)):=(sg _ _).set _ _ Z;have hnn:(Mt.split nb ac (S.len ac / 2) (S.len ac-1) (.pane n1 id) (.pane n2 (L.newest+1))).blk=nb:=rfl;have hT2:AB w4 (L.root.put nb (.split nb ac (S.len ac / 2) (S.len ac-1) (.pane n1 id) (.pane n2 (L.newest+1)))):=AB.put hc4 hnn hT h3.tree λx hx hm=>by
    simp at hm;rcases hm with rfl|rfl
    ·have:=h.tree.lt _ hx;omega
    ·rfl
   have hmem:∀x∈(L.root.put nb (.split nb ac (S.len ac / 2) (S.len ac-1) (.pane n1 id) (.pane n2 (L.newest+1)))).blks,x∈L.root.blks∨w.heap.size≤x:=by
    intro x hx;rcases Mt.put_mem hx with hx|hx
    ·simp only[Mt.blks,rM,List.mem_append,List.not_mem_nil,or_false] at hx;rcases hx with rfl|rfl|rfl
     ·exact .inl hnbm
     ·exact .inr O
     ·exact .inr O
    ·exact .inl hx
   refine⟨?_,AB.chg hcs hT2 λx hx hm=>?_,?_⟩
   ·unfold Cy;dsimp only;rw[Mt.put_blk hnn];exact Aw _ _ _ _ rfl lb4
   ·simp at hm;subst hm;rcases hmem _ hx with h9|h9
    ·exact hbnb h9
    ·omega
   ·have:=(Mt.put_all (new:=.split nb ac (S.len ac / 2) (S.len ac-1) (.pane n1 id) (.pane n2 (L.newest+1))) h.nd hall).2.2.2.2.2;refine this ?_ ?_
    ·simp [Mt.blks];omega
    ·intro x hx;simp only[Mt.blks,rM,List.mem_append,List.not_mem_nil,or_false] at hx ⊢;rcases hx with rfl|rfl|rfl
     ·exact .inl rfl
     ·exact .inr λhm=>by have:=h.tree.lt _ hm;omega
     ·exact .inr λhm=>by have:=h.tree.lt _ hm;omega
  ·refine((hc03.mono Z).trans hc4 (λx hx=>?_)).set _ _ (.inl Z);simp at hx;rcases hx with rfl|rfl
   ·exact .inr O
   ·exact .inl Z
end
end Go.Proofs.YtnpkidnbhlepkaaGreat
namespace Lyc
open Go
namespace Mt
end Mt
end Lyc
namespace Go.Proofs.YtnpkidnbhlepkaaGreat
open Lyc Go Go.Proofs.Tryz
section
variable {w w':World} {b:Nat} {L:Ly}
structure EL (L:Ly) (id:Int) (L':Ly):Prop where
 ok:L'.ok
 R:L'.R=L.R
 new:L'.newest=L.newest
 ids:∃A B,L.root.ids=A++id::B∧L'.root.ids=A++B
 blks:∀x∈L'.root.blks,x∈L.root.blks
end
end Go.Proofs.YtnpkidnbhlepkaaGreat
namespace Lyc
open Go
end Lyc
namespace Go.Proofs.YtnpkidnbhlepkaaGreat
open Lyc Go Go.Proofs.Tryz
section
variable {w w':World} {b:Nat} {L:Ly}
structure Moved (L L':Ly):Prop where
 ok:L'.ok
 R:L'.R=L.R
 new:L'.newest=L.newest
 ids:L'.root.ids=L.root.ids
 blks:∀x∈L'.root.blks,x∈L.root.blks
end
theorem iu{L:Ly}(ok:L.ok){ac:Bool}{nb n1 n2:Nat}{S:Rc}{id:Int}(hnd:L.root.blks.Nodup)(hall:(Mt.pane nb id,S)∈L.root.all L.R)(hlt:L.root.ids.length<16)(h3:3≤S.len ac):(Cy L ac nb n1 n2 S id).ok∧∃A B,L.root.ids=A++id::B∧(Cy L ac nb n1 n2 S id).root.ids=A++id::(L.newest+1)::B:=by
 obtain⟨Sok,-,-⟩:=Mt.all_ok ok.fits ok.R _ hall;dsimp only at Sok;obtain⟨-,⟨A,B,i1,i2⟩,i3,-,i5,-⟩:=Mt.put_all (new:=.split nb ac (S.len ac / 2) (S.len ac-1) (.pane n1 id) (.pane n2 (L.newest+1))) hnd hall;have hnl:S.len ac≤200:=by
  have:=Sok.x0;have:=Sok.y0;have:=Sok.xw;have:=Sok.yh;cases ac<;>simp only[Rc.len,if_true,Bool.false_eq_true,if_false]<;>omega
 have e1:L.root.ids=A++id::B:=by rw[i1];simp [Mt.ids]
 have e2:(Cy L ac nb n1 n2 S id).root.ids=A++id::(L.newest+1)::B:=by
  have:(Cy L ac nb n1 n2 S id).root.ids=A++[id,L.newest+1]++B:=i2;rw[this];simp
 have hid:1≤id∧id≤L.newest:=⟨Mt.ok_ids ok.ok id (by rw[e1];simp),ok.new id (by rw[e1];simp)⟩;have hnew:L.newest+1∉L.root.ids:=λhm=>by have:=ok.new _ hm;omega
 refine⟨⟨i5 ok.ok ⟨O,O,O,O,hid.1,by show 1≤L.newest+1;omega⟩,ok.R,i3 ok.fits ?_,?_,?_,?_⟩,A,B,e1,e2⟩
 ·simp only[Mt.fits,Bool.and_eq_true,decide_eq_true_eq];exact⟨h3,trivial,trivial⟩
 ·rw[e2];have hn:=ok.nd;rw[e1] at hn hnew;rw[List.nodup_append] at hn ⊢;obtain⟨a1,a2,a3⟩:=hn;rw[List.nodup_cons] at a2;simp only[List.mem_append,rM,not_or] at hnew;refine⟨a1,?_,?_⟩
  ·rw[List.nodup_cons,List.nodup_cons];refine⟨?_,hnew.2.2,a2.2⟩;simp only[rM,not_or];exact⟨O,a2.1⟩
  ·intro x hx y hy;simp only[rM] at hy;rcases hy with rfl|rfl|hy
   ·exact a3 x hx _ Z
   ·rintro rfl;exact hnew.1 hx
   ·exact a3 x hx y (by simp [hy])
 ·intro i hi;rw[e2] at hi;show i≤L.newest+1;simp only[List.mem_append,rM] at hi;rcases hi with hi|rfl|rfl|hi
  ·have:=ok.new i (by rw[e1];simp [hi]);omega
  ·omega
  ·omega
  ·have:=ok.new i (by rw[e1];simp [hi]);omega
 ·rw[e2];rw[e1] at hlt;simp at hlt ⊢;omega
section
variable {base:Nat} {w w':World} {W:Wn}
theorem WnAt.laid(h:WnAt base w W){F:List Nat}(hc:Chg F w w')(hF:∀x∈F,x=W.b∨x=W.lb∨x∈W.L.root.blks){L:Ly}{act:Int}(hL:LAt w' W.lb L)(hb:w'.heap[W.b]?=some (.cells #[.pointer (some ⟨W.lb,0,none⟩),.int .i64 act,.int .i64 W.room,.map (some W.tm)] 84))(hg:∀x∈L.root.blks,x∈W.L.root.blks∨w.heap.size≤x)(hbase:base≤w.heap.size):
  WnAt base w' { W with L:=L,active:=act }∧Trn W.own ({ W with L:=L,active:=act }:Wn).own w w':=by
 have hne:=h.ne;have hgrow:∀x,({ W with L:=L,active:=act }:Wn).own x→W.own x∨w.heap.size≤x:=by
  rintro x (rfl|rfl|rfl|hx|⟨r,hr,hx⟩)
  ·exact .inl (.inl rfl)
  ·exact .inl (.inr (.inl rfl))
  ·exact .inl (.inr (.inr (.inl rfl)))
  ·exact(hg x hx).imp (λh=>.inr (.inr (.inr (.inl h)))) id
  ·exact .inl (.inr (.inr (.inr (.inr ⟨r,hr,hx⟩))))
 refine⟨⟨hb,hL,hc.keep h.hm λhm=>?_,λp hp=>(h.each p hp).chg hc λx hx hp'=>?_,h.apart,h.ids,λx hx=>(hgrow x hx).elim (h.lo x) λh=>O⟩,Trn.of hc (λx hx=>?_) hgrow⟩
 ·rcases hF _ hm with e|e|e
  ·exact hne.2.1 e.symm
  ·exact hne.2.2.1 e.symm
  ·exact hne.2.2.2.2.2 e
 ·have ho:=h.off hp;rcases hF x hx with rfl|rfl|e
  ·exact ho.1 hp'
  ·exact ho.2.1 hp'
  ·exact ho.2.2.2 x e hp'
 ·rcases hF x hx with rfl|rfl|e
  ·exact .inl rfl
  ·exact .inr (.inl rfl)
  ·exact .inr (.inr (.inr (.inl e)))
theorem J2(h:WnAt base w W)(id:Int):Calls prog 52 #[.pointer (some ⟨W.b,0,none⟩),.int .i64 id] w (Ac λv w'=>v=((W.pts.find? λp=>p.ent.1 == id).map λp=>Value.pointer (some ⟨p.t,0,none⟩)).getD (.pointer none)∧w'=w):=by
 have a:=h.hb;have b:=h.hm;apply RF;intro K c;unfold I0;simp -dsimp (disch:=first|omega|(simp only[go_sem,seval];try omega))only[go_sem,seval,a,b,Ir];exact c _ _ ⟨rfl,rfl⟩
theorem Vs(w:World)(id:Int):Calls prog 52 #[.pointer none,.int .i64 id] w (Ac λv w'=>v=.pointer none∧w'=w):=by
 apply RF;intro K a;unfold I0;refine sn ?_;exact a _ _ ⟨rfl,rfl⟩
structure WStep (base:Nat) (w w':World) (W W':Wn):Prop where
 at_:WnAt base w' W'
 ok:W'.ok
 n:W'.n=W.n
 b:W'.b=W.b
 born:W'.born=W.born
 room:W'.room=W.room
 R:W'.L.R=W.L.R
 new:W'.L.newest≤W.L.newest+1
 trn:Trn W.own W'.own w w'
 nw:(∀p∈W.pts,p.new)→∀p∈W'.pts,p.new
theorem WStep.refl(h:WnAt base w W)(ok:W.ok)(a:Chg [] w w'):WStep base w w' W W:=⟨h.chg0 a,ok,rfl,rfl,rfl,rfl,rfl,O,Trn.of0 a λ_ h=>.inl h,λh=>h⟩
theorem WJ(w:World)(x y a:Int)(b:1≤x)(c:x≤200)(d:1≤y)(e:y≤60):Calls prog 16 #[.int .i64 x,.int .i64 y,.int .i64 a] w
  (Ac λv w'=>∃W,v=.pointer (some ⟨W.b,0,none⟩)∧WnAt w.heap.size w' W∧W.ok∧W.active=1∧W.room=a∧W.L.R=⟨0,0,x,y⟩∧W.L.newest=1∧(∃t,W.L.root=.pane t 1)∧Chg [] w w'∧∀p∈W.pts,p.new):=by
 apply WR;intro K f;unfold L0;refine td XQ rfl (fc w x y b c d e) ?_;rintro v g ⟨h,t,rfl,i,j,k,l⟩;refine sn ?_;refine OpX.gen λw2 m=>?_;have n:Chg [] g w2:=by rw[m];exact sy
 have o:w2.heap.size=g.heap.size+2:=by rw[m];simp -dsimp (disch:=first|omega|(simp only[go_sem,seval];try omega))only[go_sem,seval]
 have q:w2.heap[g.heap.size]?=some (.map #[] 0):=by rw[m];simp -dsimp (disch:=first|omega|(simp only[go_sem,seval];try omega))only[go_sem,seval]
 have r:w2.heap[g.heap.size+1]?=some (.cells #[.pointer (some ⟨h,0,none⟩),.int .i64 1,.int .i64 a,.map (some g.heap.size)] 84):=by rw[m];simp -dsimp (disch:=first|omega|(simp only[go_sem,seval];try omega))only[go_sem,seval]
 clear m;have s:=l.trans0 n;have u:=l.size;obtain⟨A,hW0⟩:∃A:Wn,A=⟨1,0,g.heap.size+1,h,g.heap.size,0,⟨.pane t 1,⟨0,0,x,y⟩,1⟩,1,a,[]⟩:=⟨_,rfl⟩;have B:WnAt w.heap.size w2 A:=by
  subst hW0;refine⟨r,i.chg0 n,q,Z,Z,Z,?_⟩;rintro z (rfl|rfl|rfl|C|⟨p,D,-⟩)
  ·dsimp only;omega
  ·exact j
  ·exact u
  ·simp [Mt.blks] at C;omega
  ·simp at D
 have E:=Tw B (by rw[hW0];exact Rg b c d e) (by rw[hW0];simp) s.size;rw[show A.b=g.heap.size+1 by rw[hW0]] at E;refine td LK rfl (E) ?_;rintro v F ⟨G,H,I,J,L,M,N⟩;subst hW0;refine f _ _ ⟨_,?_,I,⟨Rg b c d e,by simp [Mt.ids],J,L⟩,rfl,rfl,rfl,rfl,⟨t,rfl⟩,M.base s λz C=>B.lo z C,N Z⟩;show Value.pointer (some ⟨_,0,none⟩)=Value.pointer (some ⟨g.heap.size+1,0,none⟩);simp -dsimp (disch:=first|omega|(simp only[go_sem,seval];try omega))only[go_sem,seval]
theorem Yo(h:WnAt base w W)(ok:W.ok)(a:base≤w.heap.size)(b:W.L.newest≤1000000000000000)(ac:Bool):Calls prog 98 #[.pointer (some ⟨W.b,0,none⟩),.bool ac] w
  (Ac λv w'=>∃d,WStep base w w' W d∧(
   (v=.nilIface∧∃f n1 n2 S,(Mt.pane f W.active,S)∈W.L.root.all W.L.R∧3≤S.len ac∧W.L.root.ids.length<16∧d.L=Cy W.L ac f n1 n2 S W.active∧d.active=W.L.newest+1) ∨
   (d=W∧(∃c,c≠0∧v=B6 c)∧(16≤W.L.root.ids.length∨∃f S,(Mt.pane f W.active,S)∈W.L.root.all W.L.R∧S.len ac<3)))):=by
 have g:=h.hb;apply bE;intro K j;unfold OF;refine sq g ?_;have k:=h.chg0 (show Chg [] w w.drew from(sg _ _).drew);refine td jT rfl (aF k.lay ok.lay ok.act b ac) ?_;rintro v l ⟨f,S,m,n⟩;rcases n with ⟨o,rfl,p⟩|⟨q,r,rfl,n1,n2,s,t,u,y,p⟩
 ·unfold B6;refine sn ?_;refine j _ _ ⟨W,WStep.refl h ok p.low_drew,.inr ⟨rfl,⟨_,?_,rfl⟩,o.imp id λh=>⟨f,S,m,h⟩⟩⟩;split<;>decide
 ·have p:Chg [W.lb,f] w l:=p.low_drew;have z:f∈W.L.root.blks:=Mt.all_blk _ m f (by simp [Mt.blks]);have C:=h.ne;have D:=p.keep g (by simp;exact⟨C.1,λe=>C.2.2.2.1 (e ▸ z)⟩);have E:=Aa D;refine sq D ?_;refine OpX.gen λw2 F=>?_;have G:Chg [W.b] l w2:=by rw[F];exact sy
  have H:w2.heap[W.b]?=some (.cells #[.pointer (some ⟨W.lb,0,none⟩),.int .i64 (W.L.newest+1),.int .i64 W.room,.map (some W.tm)] 84):=by rw[F];simp -dsimp (disch:=first|omega|(simp only[go_sem,seval];try omega))only[go_sem,seval]
  clear F;obtain⟨I,A,B,J,M⟩:=iu (n1:=n1) (n2:=n2) ok.lay h.lay.nd m q r;have N:∀x∈(Cy W.L ac f n1 n2 S W.active).root.blks,x∈W.L.root.blks∨w.heap.size≤x:=by
   intro x P;rcases Mt.put_mem P with P|P
   ·simp only[Mt.blks,rM,List.mem_append,List.not_mem_nil,or_false] at P;rcases P with rfl|rfl|rfl
    ·exact .inl z
    ·exact .inr s
    ·exact .inr t
   ·exact .inl P
  have Q:LAt w2 W.lb (Cy W.L ac f n1 n2 S W.active):=y.chg G (by simp;exact λe=>C.1 e.symm) λx P R=>by
   simp at R;subst R;rcases N _ P with T|T
   ·exact C.2.2.2.1 T
   ·have:=Aa g;omega
  have U:Chg [W.lb,f,W.b] w w2:=(p.mono Z).trans G Z;obtain⟨V,X⟩:=h.laid U (by simp [z]) Q H N a;have Y:=X.size;have d:∀i∈({ W with L:=Cy W.L ac f n1 n2 S W.active,active:=W.L.newest+1 }:Wn).pts.map (·.id),i∈(Cy W.L ac f n1 n2 S W.active).root.ids:=by
   intro i b;have:=(ok.has i).1 b;rw[J] at this;rw[M];simp only[List.mem_append,rM] at this ⊢;rcases this with h|h|h
   ·exact .inl h
   ·exact .inr (.inl h)
   ·exact .inr (.inr (.inr h))
  have k:=Tw V I d O;dsimp only at k;refine td LK rfl (k) ?_;rintro v n ⟨o,u,D,E,l,F,s⟩;refine j _ _ ⟨_,⟨D,⟨I,?_,E,l⟩,rfl,rfl,rfl,rfl,rfl,Int.le_refl _,X.trans F,s⟩,.inl ⟨rfl,f,n1,n2,S,m,r,q,rfl,rfl⟩⟩;show W.L.newest+1∈(Cy W.L ac f n1 n2 S W.active).root.ids;rw[M];simp
theorem ir{l:List Int}{id:Int}(a:l.Nodup)(b:id∈l):Ek l id∈l∧(Ek l id=id↔l.length=1):=by
 unfold Ek;cases c:l.findIdx? (· == id) with
 | none =>
  rw[List.findIdx?_eq_none_iff] at c;have:=c id b;simp at this
 | some i =>
  rw[List.findIdx?_eq_some_iff_getElem] at c;obtain⟨d,e,-⟩:=c;have e:l[i]=id:=by simpa using e
  have f:(i+1) % l.length<l.length:=Nat.mod_lt _ O;dsimp only;rw[rN,rI f];refine⟨rR f,λh=>?_,λh=>?_⟩
  ·have h:l[(i+1) % l.length]=id:=h;rw[←e] at h;have:=(List.getElem_inj a).1 h;rcases Nat.lt_or_ge (i+1) l.length with g|g
   ·rw[Nat.mod_eq_of_lt g] at this;omega
   ·have j:i+1=l.length:=O;rw[j,Nat.mod_self] at this;omega
  ·have k:i=0:=O;subst k;show l[(0+1) % l.length]=id;rw[←e];congr 1;rw[h]
end
end Go.Proofs.YtnpkidnbhlepkaaGreat
namespace Lyc
open Go
structure Ky where
 kind:Int
 n:Int
 s:List UInt8
deriving DecidableEq
@[go_sem] def Ky.cells(k:Ky):List Value:=[.int .i64 k.kind,.int .i64 k.n,.string (Aq k.s)]
@[go_sem] def Ky.val(k:Ky):Value:=.agg #[.int .i64 k.kind,.int .i64 k.n,.string (Aq k.s)]
theorem Ky.len(k:Ky):k.cells.length=3:=rfl
theorem Ky.ok(k:Ky):AV k.cells=true:=rfl
def GM:List UInt8:=[37,34,111,120,99,110,112,100,91,49,50,51,52,53,54,55,56,57,104,108,107,106]
def Hw:List (Int × Int):=[(2,0),(3,0),(4,0),(5,0),(6,0),(7,0),(8,0),(13,0),(14,0),(9,1),(9,2),(9,3),(9,4),(9,5),(9,6),(9,7),(9,8),(9,9),(10,1),(10,2),(10,3),(10,4)]
def GF:List UInt8:=[107,106,117,100,103,71,113]
def Hy:List (Int × Int):=[(11,1),(11,-1),(11,10),(11,-10),(11,1000),(11,-1000),(12,0)]
structure Kst where
 cop:Bool
 pre:Bool
 ks:List Ky
 tx:List UInt8
def Kst.flush(S:Kst):Kst:=if S.tx=[] then S else { S with ks:=S.ks++[⟨1,0,S.tx⟩],tx:=[] }
def EJ(c:Bool)(k:Int):Bool:=if k=14 then true else if k=12 then false else c
def Kst.tell(S:Kst)(m:Int × Int):Kst:={ S.flush with ks:=S.flush.ks++[⟨m.1,m.2,[]⟩],cop:=EJ S.cop m.1 }
def Dm(l:List UInt8)(b:UInt8):Option Nat:=l.findIdx? (· == b)
def Kst.look(S:Kst)(l:List UInt8)(a:List (Int × Int))(b:UInt8):Kst:=
 match Dm l b with
 | none=>S
 | some i=>S.tell (a.getD i (0,0))
def Kst.step(S:Kst)(b:UInt8):Kst:=
 if S.pre then(if b=2 then { S with pre:=false,tx:=S.tx++[b] } else Kst.look { S with pre:=false } GM Hw b)
 else if b=2 then { S.flush with pre:=true }
 else if S.cop=false then { S with tx:=S.tx++[b] }
 else S.look GF Hy b
def Kst.feed(S:Kst)(l:List UInt8):Kst:=l.foldl Kst.step S
def Cc(a pre:Bool)(l:List UInt8):Kst:=(Kst.feed ⟨a,pre,[],[]⟩ l).flush
theorem Kst.flush_tx(S:Kst):S.flush.tx=[]:=by unfold flush;split<;>simp_all
theorem Kst.flush_ks(S:Kst):S.flush.ks.length≤S.ks.length+1:=by unfold flush;split<;>simp
theorem Kst.tell_ks(S:Kst)(m:Int × Int):(S.tell m).ks.length≤S.ks.length+2:=by
 have:=S.flush_ks;simp only[tell,rS,List.length_cons,List.length_nil];omega
theorem Kst.look_ks(S:Kst)(l:List UInt8)(a:List (Int × Int))(b:UInt8):(S.look l a b).ks.length≤S.ks.length+2:=by
 unfold look;split
 ·omega
 ·exact S.tell_ks _
theorem Kst.step_ks(S:Kst)(b:UInt8):(S.step b).ks.length≤S.ks.length+2:=by
 unfold step;split
 ·split
  ·simp
  ·exact look_ks _ _ _ _
 split
 ·have:=S.flush_ks;simp only;omega
 split
 ·simp
 ·exact look_ks _ _ _ _
theorem Kst.feed_ks:∀(l:List UInt8) (S:Kst),(S.feed l).ks.length≤S.ks.length+2*l.length
 | [],S=>by simp [feed]
 | b::l,S=>by
  have a:=S.step_ks b;have c:=Kst.feed_ks l (S.step b);have e:S.feed (b::l)=(S.step b).feed l:=rfl;rw[e,List.length_cons];omega
theorem Kst.flush_len(S:Kst):S.flush.tx.length≤S.tx.length:=by rw[flush_tx];exact Nat.zero_le _
theorem Kst.look_tx(S:Kst)(l:List UInt8)(a:List (Int × Int))(b:UInt8):(S.look l a b).tx.length≤S.tx.length:=by
 unfold look;split
 ·exact rH _
 ·exact S.flush_len
theorem Kst.step_tx(S:Kst)(b:UInt8):(S.step b).tx.length≤S.tx.length+1:=by
 unfold step;split
 ·split
  ·simp
  ·exact Nat.le_succ_of_le (look_tx _ _ _ _)
 split
 ·exact Nat.le_succ_of_le S.flush_len
 split
 ·simp
 ·exact Nat.le_succ_of_le (look_tx _ _ _ _)
theorem Kst.feed_tx:∀(l:List UInt8) (S:Kst),(S.feed l).tx.length≤S.tx.length+l.length
 | [],S=>by simp [feed]
 | b::l,S=>by
  have a:=S.step_tx b;have c:=Kst.feed_tx l (S.step b);have e:S.feed (b::l)=(S.step b).feed l:=rfl;rw[e,List.length_cons];omega
theorem av(l:List UInt8)(b:UInt8):Lib.indexByte l b=match Dm l b with|none=>-1|some i=>(i:Int):=by
 induction l with
 | nil=>rfl
 | cons x l a =>
  unfold Lib.indexByte Dm;rw[List.findIdx?_cons];by_cases h:(x == b)=true
  ·rw[rG h,rG h];rfl
  ·rw[rF h,rF h,a];unfold Dm;cases c:List.findIdx? (λy=>y == b) l with
   | none=>rfl
   | some i =>
    dsimp only[Option.map_some];rw[rF Z];simp
theorem Qy{l:List UInt8}{b:UInt8}{i:Nat}(h:Dm l b=some i):i<l.length:=by
 unfold Dm at h;rw[List.findIdx?_eq_some_iff_getElem] at h;exact h.1
end Lyc
namespace Go.Proofs.YtnpkidnbhlepkaaGreat
open Lyc Go Go.Proofs.Tryz
set_option maxRecDepth 100000
def kbV:Array Value:=#[.int .i64 2,.int .i64 0,.int .i64 3,.int .i64 0,.int .i64 4,.int .i64 0,.int .i64 5,.int .i64 0,.int .i64 6,.int .i64 0,.int .i64 7,.int .i64 0,.int .i64 8,.int .i64 0,.int .i64 13,.int .i64 0,.int .i64 14,.int .i64 0,.int .i64 9,.int .i64 1,.int .i64 9,.int .i64 2,.int .i64 9,.int .i64 3,.int .i64 9,.int .i64 4,.int .i64 9,.int .i64 5,.int .i64 9,.int .i64 6,.int .i64 9,.int .i64 7,.int .i64 9,.int .i64 8,.int .i64 9,.int .i64 9,.int .i64 10,.int .i64 1,.int .i64 10,.int .i64 2,.int .i64 10,.int .i64 3,.int .i64 10,.int .i64 4]
def kcV:Array Value:=#[.int .i64 11,.int .i64 1,.int .i64 11,.int .i64 (-1),.int .i64 11,.int .i64 10,.int .i64 11,.int .i64 (-10),.int .i64 11,.int .i64 1000,.int .i64 11,.int .i64 (-1000),.int .i64 12,.int .i64 0]
theorem ax:∀(i:Nat),i<22→En prog 178 kbV (i:Int)=some (.agg #[.int .i64 (Hw.getD i (0,0)).1,.int .i64 (Hw.getD i (0,0)).2])
 | 0,_=>by kernel_rfl
 | 1,_=>by kernel_rfl
 | 2,_=>by kernel_rfl
 | 3,_=>by kernel_rfl
 | 4,_=>by kernel_rfl
 | 5,_=>by kernel_rfl
 | 6,_=>by kernel_rfl
 | 7,_=>by kernel_rfl
 | 8,_=>by kernel_rfl
 | 9,_=>by kernel_rfl
 | 10,_=>by kernel_rfl
 | 11,_=>by kernel_rfl
 | 12,_=>by kernel_rfl
 | 13,_=>by kernel_rfl
 | 14,_=>by kernel_rfl
 | 15,_=>by kernel_rfl
 | 16,_=>by kernel_rfl
 | 17,_=>by kernel_rfl
 | 18,_=>by kernel_rfl
 | 19,_=>by kernel_rfl
 | 20,_=>by kernel_rfl
 | 21,_=>by kernel_rfl
 | n+22,h=>absurd h O
theorem WA:∀(i:Nat),i<7→En prog 180 kcV (i:Int)=some (.agg #[.int .i64 (Hy.getD i (0,0)).1,.int .i64 (Hy.getD i (0,0)).2])
 | 0,_=>by kernel_rfl
 | 1,_=>by kernel_rfl
 | 2,_=>by kernel_rfl
 | 3,_=>by kernel_rfl
 | 4,_=>by kernel_rfl
 | 5,_=>by kernel_rfl
 | 6,_=>by kernel_rfl
 | n+7,h=>absurd h O
theorem aJ(w:World):Calls prog 95 #[] w (Ac λv a=>v=.agg kbV∧Chg [] w a):=by
 apply jl;intro K b;unfold Mn;rw[xA,IF,jY,Dz];refine OpX.build (c:=#[.int .i64 2,.int .i64 0]) (by kernel_rfl) ?_;refine OpX.build (c:=#[.int .i64 3,.int .i64 0]) (by kernel_rfl) ?_;refine OpX.build (c:=#[.int .i64 4,.int .i64 0]) (by kernel_rfl) ?_;refine OpX.build (c:=#[.int .i64 5,.int .i64 0]) (by kernel_rfl) ?_;refine OpX.build (c:=#[.int .i64 6,.int .i64 0]) (by kernel_rfl) ?_;refine OpX.build (c:=#[.int .i64 7,.int .i64 0]) (by kernel_rfl) ?_;refine OpX.build (c:=#[.int .i64 8,.int .i64 0]) (by kernel_rfl) ?_;refine OpX.build (c:=#[.int .i64 13,.int .i64 0]) (by kernel_rfl) ?_;refine OpX.build (c:=#[.int .i64 14,.int .i64 0]) (by kernel_rfl) ?_;refine OpX.build (c:=#[.int .i64 9,.int .i64 1]) (by kernel_rfl) ?_;refine OpX.build (c:=#[.int .i64 9,.int .i64 2]) (by kernel_rfl) ?_;refine OpX.build (c:=#[.int .i64 9,.int .i64 3]) (by kernel_rfl) ?_;refine OpX.build (c:=#[.int .i64 9,.int .i64 4]) (by kernel_rfl) ?_;refine OpX.build (c:=#[.int .i64 9,.int .i64 5]) (by kernel_rfl) ?_;refine OpX.build (c:=#[.int .i64 9,.int .i64 6]) (by kernel_rfl) ?_;refine OpX.build (c:=#[.int .i64 9,.int .i64 7]) (by kernel_rfl) ?_;refine OpX.build (c:=#[.int .i64 9,.int .i64 8]) (by kernel_rfl) ?_;refine OpX.build (c:=#[.int .i64 9,.int .i64 9]) (by kernel_rfl) ?_;refine OpX.build (c:=#[.int .i64 10,.int .i64 1]) (by kernel_rfl) ?_;refine OpX.build (c:=#[.int .i64 10,.int .i64 2]) (by kernel_rfl) ?_;refine OpX.build (c:=#[.int .i64 10,.int .i64 3]) (by kernel_rfl) ?_;refine OpX.build (c:=#[.int .i64 10,.int .i64 4]) (by kernel_rfl) ?_;refine OpX.build (c:=kbV) (by kernel_rfl) ?_;rw[xS,D5 _ _ _ _ _ _ _ (by kernel_rfl) (by kernel_rfl),Lyc.heap_alloc_new _ _ _ rfl,KD _ _ _ (by kernel_rfl),D6,Kd _ _ _ _ rfl];rw[xD,Lf _ _ _ _ _ L2.2.2.2.1];have d:AT ((w.alloc (.cells (Value.agg kbV).cells 178)).heap[w.heap.size]?) 0 44=some kbV:=by
  rw[Lyc.heap_alloc_new _ _ _ rfl]
  kernel_rfl
 rw[L2.2.2.2.2.2.1,Option.bind_some,d,Dz];exact b _ _ ⟨rfl,(sg _ _).alloc _⟩
theorem Ty(w:World):Calls prog 96 #[] w (Ac λv a=>v=.agg kcV∧Chg [] w a):=by
 apply YM;intro K b;unfold L4;rw[xA,IF,fZ,Dz];refine OpX.build (c:=#[.int .i64 11,.int .i64 1]) (by kernel_rfl) ?_;refine OpX.build (c:=#[.int .i64 11,.int .i64 (-1)]) (by kernel_rfl) ?_;refine OpX.build (c:=#[.int .i64 11,.int .i64 10]) (by kernel_rfl) ?_;refine OpX.build (c:=#[.int .i64 11,.int .i64 (-10)]) (by kernel_rfl) ?_;refine OpX.build (c:=#[.int .i64 11,.int .i64 1000]) (by kernel_rfl) ?_;refine OpX.build (c:=#[.int .i64 11,.int .i64 (-1000)]) (by kernel_rfl) ?_;refine OpX.build (c:=#[.int .i64 12,.int .i64 0]) (by kernel_rfl) ?_;refine OpX.build (c:=kcV) (by kernel_rfl) ?_;rw[xS,D5 _ _ _ _ _ _ _ (by kernel_rfl) (by kernel_rfl),Lyc.heap_alloc_new _ _ _ rfl,KD _ _ _ (by kernel_rfl),D6,Kd _ _ _ _ rfl];rw[xD,Lf _ _ _ _ _ N4.2.2.2.1];have d:AT ((w.alloc (.cells (Value.agg kcV).cells 180)).heap[w.heap.size]?) 0 14=some kcV:=by
  rw[Lyc.heap_alloc_new _ _ _ rfl]
  kernel_rfl
 rw[N4.2.2.2.2.2.1,Option.bind_some,d,Dz];exact b _ _ ⟨rfl,(sg _ _).alloc _⟩
section
variable (x0 x1 x2 x3 x4 x7 x8 x9:Value)
structure KM (w0:World) (s t5 t6:Nat) (w:World) (S:Kst):Prop where
 chg:Chg [s,t5,t6] w0 w
 hs:w.heap[s]?=some (.cells #[x0,x1,x2,x3,x4,.bool S.cop,.bool S.pre,x7,x8,x9] 70)
 h5:∃v,w.heap[t5]?=some (.cells #[v] 123)∧Ox w0.heap.size w 126 3 Ky.cells v S.ks
 h6:∃v,w.heap[t6]?=some (.cells #[v] 171)∧Ox w0.heap.size w 5 1 BC v S.tx
variable {x0 x1 x2 x3 x4 x7 x8 x9}
variable {w0 w:World} {s t5 t6:Nat} {S:Kst}
theorem KM.chg0{w':World}(h:KM x0 x1 x2 x3 x4 x7 x8 x9 w0 s t5 t6 w S)(a:Chg [] w w'):KM x0 x1 x2 x3 x4 x7 x8 x9 w0 s t5 t6 w' S:=by
 obtain⟨b,c,d⟩:=h.h5;obtain⟨e,f,g⟩:=h.h6;exact⟨h.chg.trans0 a,a.keep h.hs Z,⟨b,a.keep c Z,d.chg0 a⟩,⟨e,a.keep f Z,g.chg0 a⟩⟩
structure Kap (w0:World) (s t5 t6:Nat):Prop where
 a:s≠t5
 b:s≠t6
 c:t5≠t6
 ls:s<w0.heap.size
 l5:t5<w0.heap.size
 l6:t6<w0.heap.size
theorem IK(h:KM x0 x1 x2 x3 x4 x7 x8 x9 w0 s t5 t6 w S)(ap:Kap w0 s t5 t6)(hk:S.ks.length≤100000)(ht:S.tx.length≤100000):Calls prog 92 #[.pointer (some ⟨t6,0,none⟩),.pointer (some ⟨t5,0,none⟩)] w
  (Ac λ_ w'=>KM x0 x1 x2 x3 x4 x7 x8 x9 w0 s t5 t6 w' S.flush∧∀b c e fr,w.heap[b]?=some (.cells c e fr)→Nat.beq e 126=false→b≠t5→b≠t6→w'.heap[b]?=some (.cells c e fr)):=by
 obtain⟨v5,a5,o5⟩:=h.h5;obtain⟨v6,a6,o6⟩:=h.h6;obtain⟨b6,c6,rfl,-,s6,-,-⟩:=o6.form;obtain⟨b5,c5,rfl,-,s5,-,-⟩:=o5.form;have l5:=Aa a5;have l6:=Aa a6;obtain⟨p1,p2,p3,p4,p5,p6⟩:=ap;have hz:=h.chg.size;apply YK;intro K hK;unfold L6;refine sq a6 ?_;refine sd (λg=>?_) (λg=>?_)
 ·have hne:S.tx≠[]:=by intro e;rw[e] at g;simp at g
  have ef:S.flush={ S with ks:=S.ks++[⟨1,0,S.tx⟩],tx:=[] }:=by unfold Kst.flush;rw[rF hne]
  refine sr a5 a6 ?_;show OpX prog _ _ _ _;rw[KE (by kernel_rfl) (by kernel_rfl) s6];refine sn ?_;refine OpX.gen λw1 hw1=>?_;have hc1:Chg [] w w1:=by rw[hw1];exact sy
  have hsa:Sx w1 (some 126) Ky.cells (some ⟨w.heap.size,0,none⟩) [⟨1,0,S.tx⟩]:=Sx.built (c:=(⟨1,0,S.tx⟩:Ky).cells) (by rw[hw1];simp only[Ky.cells];simp -dsimp (disch:=first|omega|(simp only[go_sem,seval];try omega))only[go_sem,seval]) rfl;clear hw1;have k1:=h.chg0 hc1;have a51:=hc1.keep a5 Z;have a61:=hc1.keep a6 Z;have o51:=o5.chg0 hc1;have o61:=o6.chg0 hc1;refine Bd O8 Ky.len Ky.ok o51 hsa rfl (by rw[List.length_singleton];omega) O k1.chg.size ?_;intro v' w2 ho2 hc2 hown2;have hge:=o51.own_ge;have a52:=hc2.keep a51 (λhm=>by have:=hge _ hm;omega);have a62:=hc2.keep a61 (λhm=>by have:=hge _ hm;omega);have hs2:=hc2.keep k1.hs (λhm=>by have:=hge _ hm;omega);have m5:=Aa a52;have m6:=Aa a62;obtain⟨a2,cp2,rfl,-⟩:=ho2.form;refine sr a52 a62 ?_;have hc3:Chg [t5,t6] w2 (Ab (Ab w2 t5 (.cells #[.slice a2 (S.ks++[(⟨1,0,S.tx⟩:Ky)]).length cp2] 123)) t6 (.cells #[.slice none 0 0] 171)):=((sg _ _).set _ _ Z).set _ _ Z;refine hK _ _ ⟨?_,λb c e fr hb he n5 n6=>hc3.keep (hc2.keep (hc1.keep hb Z) λhm=>o51.off (hc1.keep hb Z) he (by simpa using hm)) (by simp;exact⟨n5,n6⟩)⟩;rw[ef];refine⟨((h.chg.trans0 hc1).trans hc2 (λx hx=>.inr (hge x hx))).trans hc3 Z,hc3.keep hs2 (by simp;omega),⟨_,?_,ho2.low hc3 (by simp;omega)⟩,⟨_,Aw _ _ _ _ rfl (by rw[EP];exact m6),Ox.nil _ _ _ _ _⟩⟩;rw[A5 _ _ _ _ O];exact Aw _ _ _ _ rfl m5
 ·have hne:S.tx=[]:=rQ O;have ef:S.flush=S:=by unfold Kst.flush;rw[rG hne]
  exact hK _ _ ⟨by rw[ef];exact h,λ_ _ _ _ hb _ _ _=>hb⟩
theorem Ql(h:KM x0 x1 x2 x3 x4 x7 x8 x9 w0 s t5 t6 w S)(ap:Kap w0 s t5 t6)(hk:S.ks.length≤90000)(ht:S.tx.length≤90000){t7 t2:Nat}(h7:w0.heap[t7]?=some (.cells #[.func (.func 92) #[] #[.pointer (some ⟨t6,0,none⟩),.pointer (some ⟨t5,0,none⟩)]] 1))(h2:w0.heap[t2]?=some (.cells #[.pointer (some ⟨s,5,none⟩)] 173))(n7:t7≠s∧t7≠t5∧t7≠t6)(n2:t2≠s∧t2≠t5∧t2≠t6)(m:Int × Int):
  Calls prog 93 #[.agg #[.int .i64 m.1,.int .i64 m.2],.pointer (some ⟨t7,0,none⟩),.pointer (some ⟨t5,0,none⟩),.pointer (some ⟨t2,0,none⟩)] w
  (Ac λ_ w'=>KM x0 x1 x2 x3 x4 x7 x8 x9 w0 s t5 t6 w' (S.tell m)):=by
 have hz:=h.chg.size;have ap0:=ap;obtain⟨p1,p2,p3,p4,p5,p6⟩:=ap;have h7w:=h.chg.keep h7 (by simp;exact n7);have l7:=Aa h7w;apply Vn;intro K hK;unfold OH;refine sq h7w ?_;refine OpX.gen λw1 hw1=>?_;have hc1:Chg [] w w1:=by rw[hw1];exact sy
 have a4:w1.heap[w.heap.size]?=some (.cells #[.int .i64 m.1,.int .i64 m.2] 175):=by rw[hw1];simp -dsimp (disch:=first|omega|(simp only[go_sem,seval];try omega))only[go_sem,seval]
 clear hw1;have k1:=h.chg0 hc1;refine OpX.callV (us:=[]) (cs:=[.pointer (some ⟨t6,0,none⟩),.pointer (some ⟨t5,0,none⟩)]) IT (Dg []) (se (IK k1 ap0 O O) ?_);rintro v w2 ⟨k2,hkeep⟩;have hfk:=S.flush_ks;have ls5:=Aa k1.hs;have a42:w2.heap[w.heap.size]?=some (.cells #[.int .i64 m.1,.int .i64 m.2] 175):=hkeep _ _ _ _ a4 rfl O O;obtain⟨v5,a5,o5⟩:=k2.h5;obtain⟨b5,c5,rfl,-,s5,-,-⟩:=o5.form;have l5:=Aa a5;refine sr a5 a42 ?_;refine OpX.gen λw3 hw3=>?_;have hc3:Chg [] w2 w3:=by rw[hw3];exact sy
 have hsa:Sx w3 (some 126) Ky.cells (some ⟨w2.heap.size,0,none⟩) [⟨m.1,m.2,[]⟩]:=Sx.built (c:=(⟨m.1,m.2,[]⟩:Ky).cells) (by rw[hw3];simp only[Ky.cells];refine sn ?_;rfl) rfl;clear hw3;have k3:=k2.chg0 hc3;have a53:=hc3.keep a5 Z;have o53:=o5.chg0 hc3;have a43:=hc3.keep a42 Z;have h23:=k3.chg.keep h2 (by simp;exact n2);refine Bd O8 Ky.len Ky.ok o53 hsa rfl (by rw[List.length_singleton];omega) O k3.chg.size ?_;intro v' w4 ho4 hc4 hown4;have hge:=o53.own_ge;have a54:=hc4.keep a53 (λhm=>by have:=hge _ hm;omega);have hs4:=hc4.keep k3.hs (λhm=>by have:=hge _ hm;omega);have a44:=hc4.keep a43 (λhm=>o53.off a43 rfl (by simpa using hm));have h24:=(k3.chg.trans hc4 (λx hx=>.inr (hge x hx))).keep h2 (by simp;exact n2);obtain⟨v6,a6,o6⟩:=k3.h6;have a64:=hc4.keep a6 (λhm=>by have:=hge _ hm;omega);have o64:Ox w0.heap.size w4 5 1 BC v6 S.flush.tx:=by
  refine o6.chg hc4 λb hb hm=>?_;rcases o6.2 with ⟨e,-⟩|⟨g,cap,cur,e,-,hg,-⟩
  ·rw[e] at hb;simp [Value.ownBlock] at hb
  ·rw[e] at hb;simp only[Value.ownBlock,Option.some.injEq] at hb;subst hb;exact o53.off hg rfl (by simpa using hm)
 have m5:=Aa a54;have ms:=Aa hs4;have m4:=Aa a44;have m2:=Aa h24;obtain⟨a2,cp2,rfl,-⟩:=ho4.form;refine sr a54 a44 ?_;have hS:S.tell m={ S.flush with ks:=S.flush.ks++[⟨m.1,m.2,[]⟩],cop:=EJ S.cop m.1 }:=rfl;have hcop:S.flush.cop=S.cop:=by unfold Kst.flush;split<;>rfl
 have hc5:Chg [t5] w4 (Ab w4 t5 (.cells #[.slice a2 (S.flush.ks++[(⟨m.1,m.2,[]⟩:Ky)]).length cp2] 123)):=(sg _ _).set _ _ Z;have q5:=Aw w4 t5 (.cells #[.slice a2 (S.flush.ks++[(⟨m.1,m.2,[]⟩:Ky)]).length cp2] 123) t5 rfl m5;have q2:=hc5.keep h24 (by simp;exact n2.2.1);have qs:=hc5.keep hs4 (by simp;exact p1);have q6:=hc5.keep a64 (by simp;omega);have hc05:Chg [s,t5,t6] w0 (Ab w4 t5 (.cells #[.slice a2 (S.flush.ks++[(⟨m.1,m.2,[]⟩:Ky)]).length cp2] 123)):=(k3.chg.trans hc4 (λx hx=>.inr (hge x hx))).trans hc5 Z;have r5:=ho4.low hc5 (by simp;omega);have r6:=o64.low hc5 (by simp;omega);generalize Ab w4 t5 _=w5 at hc5 q5 q2 qs q6 hc05 r5 r6 ⊢;have mq:=Aa qs;have mq2:=Aa q2;have fin:∀c:Bool,S.tell m={ S.flush with ks:=S.flush.ks++[⟨m.1,m.2,[]⟩],cop:=c }→KM x0 x1 x2 x3 x4 x7 x8 x9 w0 s t5 t6 (Ab w5 s (.cells #[x0,x1,x2,x3,x4,.bool c,.bool S.flush.pre,x7,x8,x9] 70)) (S.tell m):=by
  intro c e;rw[e];have hc6:Chg [s] w5 (Ab w5 s (.cells #[x0,x1,x2,x3,x4,.bool c,.bool S.flush.pre,x7,x8,x9] 70)):=(sg _ _).set _ _ Z;exact⟨hc05.trans hc6 Z,Aw _ _ _ _ rfl mq,⟨_,hc6.keep q5 (by simp;omega),r5.low hc6 (by simp;omega)⟩,⟨_,hc6.keep q6 (by simp;omega),r6.low hc6 (by simp;omega)⟩⟩
 refine sd (λg1=>?_) (λg1=>?_)
 ·refine sr q2 qs ?_;exact hK _ _ (fin true (by rw[hS];unfold EJ;rw[rG g1]))
 refine sn ?_;refine sd (λg2=>?_) (λg2=>?_)
 ·refine sr q2 qs ?_;exact hK _ _ (fin false (by rw[hS];unfold EJ;rw[rF g1,rG g2]))
 ·refine hK _ _ ?_;rw[hS];have:EJ S.cop m.1=S.flush.cop:=by unfold EJ;rw[rF g1,rF g2,hcop]
  rw[this];exact⟨hc05,qs,⟨_,q5,r5⟩,⟨_,q6,r6⟩⟩
theorem KM.setp(h:KM x0 x1 x2 x3 x4 x7 x8 x9 w0 s t5 t6 w S)(a:Kap w0 s t5 t6)(c:Bool):KM x0 x1 x2 x3 x4 x7 x8 x9 w0 s t5 t6 (Ab w s (.cells #[x0,x1,x2,x3,x4,.bool S.cop,.bool c,x7,x8,x9] 70)) { S with pre:=c }:=by
 obtain⟨b,d,e⟩:=h.h5;obtain⟨f,g,i⟩:=h.h6;have j:Chg [s] w (Ab w s (.cells #[x0,x1,x2,x3,x4,.bool S.cop,.bool c,x7,x8,x9] 70)):=(sg _ _).set _ _ Z;obtain⟨k,l,m,n,o,p⟩:=a;exact⟨h.chg.trans j Z,Aw _ _ _ _ rfl (Aa h.hs),⟨b,j.keep d (by simp;omega),e.low j (by simp;omega)⟩,⟨f,j.keep g (by simp;omega),i.low j (by simp;omega)⟩⟩
theorem Lb(h:KM x0 x1 x2 x3 x4 x7 x8 x9 w0 s t5 t6 w S)(ap:Kap w0 s t5 t6)(ht:S.tx.length≤90000)(b:UInt8){R:World→Prop}(hR:∀w',KM x0 x1 x2 x3 x4 x7 x8 x9 w0 s t5 t6 w' { S with tx:=S.tx++[b] }→R w'):
  xL 171 (.pointer (some ⟨t6,0,none⟩)) (λt44=>OpX prog (.buildSlice 171 1 #[(0,.const (.int .u8 b.toNat))]) 171 λt46=>OpX prog (.call { callee:=.builtin .append,args:=#[.const t44,.const t46],argTypes:=#[171,171] }) 171 λt47=>xS 171 (.pointer (some ⟨t6,0,none⟩)) t47 R) w:=by
 obtain⟨v5,a5,o5⟩:=h.h5;obtain⟨v6,a6,o6⟩:=h.h6;obtain⟨b6,c6,rfl,-,s6,-,-⟩:=o6.form;obtain⟨p1,p2,p3,p4,p5,p6⟩:=ap;refine sq a6 ?_;refine OpX.gen λw1 hw1=>?_;have hc1:Chg [] w w1:=by rw[hw1];exact sy
 have hsa:Sx w1 (some 5) BC (some ⟨w.heap.size,0,none⟩) [b]:=Sx.built (c:=BC b) (by rw[hw1];simp only[BC];simp -dsimp (disch:=first|omega|(simp only[go_sem,seval];try omega))only[go_sem,seval]) rfl;clear hw1;have k1:=h.chg0 hc1;have a51:=hc1.keep a5 Z;have a61:=hc1.keep a6 Z;have o51:=o5.chg0 hc1;have o61:=o6.chg0 hc1;have hz:=k1.chg.size;refine Bd IA Ny Ml o61 hsa rfl (by rw[List.length_singleton];omega) O hz ?_;intro v' w2 ho2 hc2 hown2;have hge:=o61.own_ge;have a52:=hc2.keep a51 (λhm=>by have:=hge _ hm;omega);have a62:=hc2.keep a61 (λhm=>by have:=hge _ hm;omega);have hs2:=hc2.keep k1.hs (λhm=>by have:=hge _ hm;omega);have m6:=Aa a62;have o52:Ox w0.heap.size w2 126 3 Ky.cells v5 S.ks:=by
  refine o51.chg hc2 λb hb hm=>?_;rcases o51.2 with ⟨e,-⟩|⟨g,cap,cur,e,-,hg,-⟩
  ·rw[e] at hb;simp [Value.ownBlock] at hb
  ·rw[e] at hb;simp only[Value.ownBlock,Option.some.injEq] at hb;subst hb;exact o61.off hg rfl (by simpa using hm)
 obtain⟨a2,cp2,rfl,-⟩:=ho2.form;refine sq a62 ?_;have hc3:Chg [t6] w2 (Ab w2 t6 (.cells #[.slice a2 (S.tx++[b]).length cp2] 171)):=(sg _ _).set _ _ Z;exact hR _ ⟨((h.chg.trans0 hc1).trans hc2 (λx hx=>.inr (hge x hx))).trans hc3 Z,hc3.keep hs2 (by simp;omega),⟨_,hc3.keep a52 (by simp;omega),o52.low hc3 (by simp;omega)⟩,⟨_,Aw _ _ _ _ rfl m6,ho2.low hc3 (by simp;omega)⟩⟩
theorem LW(w:World)(l:List UInt8)(b:UInt8):Calls prog 94 #[.string ⟨l.toArray⟩,.int .u8 b.toNat] w (Ac λv a=>v=.int .i64 (match Dm l b with|none=>-1|some i=>(i:Int))∧a=w):=by
 refine(Tryz.strings_IndexByte ⟨l.toArray⟩ b.toNat w).mono λe a h=>?_;obtain⟨rfl,rfl⟩:=h;refine⟨?_,rfl⟩;have:=av l b;have e:((b.toNat:Int)).toNat.toUInt8=b:=Z;rw[e];exact congrArg _ this
theorem FB{F:World→Prop}{w:World}(h:∀w0,w0=w→F w0):F w:=h w rfl
theorem YT{cop pre:Bool}(h:w.heap[s]?=some (.cells #[x0,x1,x2,x3,x4,.bool cop,.bool pre,x7,x8,x9] 70))(l:List UInt8)(hl:l.length≤2000):Calls prog 47 #[.pointer (some ⟨s,5,none⟩),.string (Aq l)] w
  (Ac λv w'=>Ox w.heap.size w' 126 3 Ky.cells v (Cc cop pre l).ks∧w'.heap[s]?=some (.cells #[x0,x1,x2,x3,x4,.bool (Cc cop pre l).cop,.bool (Cc cop pre l).pre,x7,x8,x9] 70)∧Chg [s] w w'):=by
 have ls:=Aa h;apply fC;intro K hK;unfold PV;refine sn ?_;refine FB (F:=Loop1 _ _) λw0 hw0=>?_;have hc0:Chg [] w w0:=by rw[hw0];exact sy
 have hz0:w0.heap.size=w.heap.size+4:=by rw[hw0];simp -dsimp (disch:=first|omega|(simp only[go_sem,seval];try omega))only[go_sem,seval]
 have a2:w0.heap[w.heap.size]?=some (.cells #[.pointer (some ⟨s,5,none⟩)] 173):=by rw[hw0];simp -dsimp (disch:=first|omega|(simp only[go_sem,seval];try omega))only[go_sem,seval]
 have a5:w0.heap[w.heap.size+1]?=some (.cells #[.slice none 0 0] 123):=by rw[hw0];simp -dsimp (disch:=first|omega|(simp only[go_sem,seval];try omega))only[go_sem,seval]
 have a6:w0.heap[w.heap.size+2]?=some (.cells #[.slice none 0 0] 171):=by rw[hw0];simp -dsimp (disch:=first|omega|(simp only[go_sem,seval];try omega))only[go_sem,seval]
 have a7:w0.heap[w.heap.size+3]?=some (.cells #[.func (.func 92) #[] #[.pointer (some ⟨w.heap.size+2,0,none⟩),.pointer (some ⟨w.heap.size+1,0,none⟩)]] 1):=by rw[hw0];simp -dsimp (disch:=first|omega|(simp only[go_sem,seval];try omega))only[go_sem,seval]
 clear hw0;have z1:∀o:Obj,(w.alloc o).heap.size=w.heap.size+1:=λo=>World.size_alloc _ _;have z2:∀o o':Obj,((w.alloc o).alloc o').heap.size=w.heap.size+2:=λo o'=>by rw[World.size_alloc,World.size_alloc]
 have z3:∀o o' o'':Obj,(((w.alloc o).alloc o').alloc o'').heap.size=w.heap.size+3:=λo o' o''=>by rw[World.size_alloc,World.size_alloc,World.size_alloc]
 rw[z3,z2,z1];have hs0:=hc0.keep h Z;have ap:Kap w0 s (w.heap.size+1) (w.heap.size+2):=⟨O,O,O,O,O,O⟩;have n7:w.heap.size+3≠s∧w.heap.size+3≠w.heap.size+1∧w.heap.size+3≠w.heap.size+2:=⟨O,O,O⟩;have n2:w.heap.size≠s∧w.heap.size≠w.heap.size+1∧w.heap.size≠w.heap.size+2:=⟨O,O,O⟩;have K0:KM x0 x1 x2 x3 x4 x7 x8 x9 w0 s (w.heap.size+1) (w.heap.size+2) w0 ⟨cop,pre,[],[]⟩:=⟨sg _ _,hs0,⟨_,a5,Ox.nil _ _ _ _ _⟩,⟨_,a6,Ox.nil _ _ _ _ _⟩⟩;refine Loop1.st (λi:Nat=>.int .i64 (i:Int)) (λi w'=>i≤l.length∧KM x0 x1 x2 x3 x4 x7 x8 x9 w0 s (w.heap.size+1) (w.heap.size+2) w' (Kst.feed ⟨cop,pre,[],[]⟩ (l.take i))) (λi=>l.length-i) 0 rfl ⟨Z,K0⟩ ?_;rintro next i wi hn ⟨hi,k⟩
 have hks:=Kst.feed_ks (l.take i) ⟨cop,pre,[],[]⟩;have htx:=Kst.feed_tx (l.take i) ⟨cop,pre,[],[]⟩;have hti:(l.take i).length≤2000:=by rw[List.length_take];omega
 simp only[List.length_nil,Nat.zero_add] at hks htx;obtain⟨S,hS⟩:∃S,S=Kst.feed ⟨cop,pre,[],[]⟩ (l.take i):=⟨_,rfl⟩;rw[←hS] at k hks htx;have q2:=k.chg.keep a2 (by simp;omega);have q7:=k.chg.keep a7 (by simp;omega);have qs:=k.hs;have mq2:=Aa q2;have mqs:=Aa qs;refine sn ?_;refine sd (λg=>?_) (λg=>?_)
 ·have hi':i<l.length:=O;obtain⟨b,hb⟩:∃b,b=l[i]:=⟨_,rfl⟩;have hli:l[i]?=some b:=by rw[rI hi',hb]
  have hstep:Kst.feed ⟨cop,pre,[],[]⟩ (l.take (i+1))=S.step b:=by
   rw[Cd hi',←hb,Kst.feed,List.foldl_append];exact congrArg (λz=>Kst.step z b) hS.symm
  refine si (λw'=>KM x0 x1 x2 x3 x4 x7 x8 x9 w0 s (w.heap.size+1) (w.heap.size+2) w' (S.step b)) ?_ ?_
  ·have e0:(0:Int)≤(i:Int):=O;obtain⟨T,hT⟩:∃T,T=S.step b:=⟨_,rfl⟩;rw[←hT];have hb2:((b.toNat:Int)=2)↔b=2:=⟨λh=>by apply UInt8.toNat_inj.1;show b.toNat=2;omega,λh=>by rw[h];rfl⟩;refine LX4 hli q2 qs e0 ?_;cases hp:S.pre
   ·refine sn ?_;have hpn:¬S.pre=true:=by rw[hp];decide
    refine sd (λg1=>?_) (λg1=>?_)
    ·have e:T={ S.flush with pre:=true }:=by rw[hT];unfold Kst.step;rw[rF hpn,rG (hb2.1 g1)]
     refine sq q7 ?_;refine OpX.callV (us:=[]) (cs:=[.pointer (some ⟨w.heap.size+2,0,none⟩),.pointer (some ⟨w.heap.size+1,0,none⟩)]) IT (Dg []) (se (IK k ap O O) ?_);rintro v w1 ⟨k1,-⟩;have r2:=k1.chg.keep a2 (by simp;omega);have rs:=k1.hs;have mr2:=Aa r2;have mrs:=Aa rs;have kp:=k1.setp ap true;refine sr r2 rs ?_;rw[e];exact kp
    ·refine sr q2 qs ?_;refine BrW.by (λhcp=>?_) (λhcp=>?_)
     ·have hcp:S.cop=false:=by simpa using hcp
      have e:T={ S with tx:=S.tx++[b] }:=by rw[hT];unfold Kst.step;rw[rF hpn,rF (λh=>g1 (hb2.2 h)),rG hcp]
      refine Lb k ap O b λw' k'=>?_;rw[e];exact k'
     ·have hcp:S.cop=true:=by simpa using hcp
      have e:T=S.look GF Hy b:=by rw[hT];unfold Kst.step;rw[rF hpn,rF (λh=>g1 (hb2.2 h)),rF (by rw[hcp];decide)]
      refine td MK rfl (LW wi GF b) ?_;rintro v w1 ⟨rfl,rfl⟩;unfold Kst.look at e;cases hx:Dm GF b with
      | none =>
       rw[hx] at e;refine sn ?_;rw[e];exact k
      | some j =>
       rw[hx] at e;have hj:=Qy hx;have hj:j<7:=hj;refine sn ?_;refine sd (λ_=>?_) (λg=>absurd (show(0:Int)≤(j:Int) by omega) g);refine td aM rfl (Ty w1) ?_;rintro v w2 ⟨rfl,hc2⟩;dsimp only;show OpX prog _ _ _ _;rw[S5,WA j hj,Dz];refine OpX.callV (us:=[]) (cs:=[.pointer (some ⟨w.heap.size+3,0,none⟩),.pointer (some ⟨w.heap.size+1,0,none⟩),.pointer (some ⟨w.heap.size,0,none⟩)]) Qa (Dg [_]) (se (Ql (k.chg0 hc2) ap (by first|omega|(dsimp only;omega)) (by first|omega|(dsimp only;omega)) a7 a2 n7 n2 _) ?_);rintro v w3 k3;rw[e];exact k3
   ·refine sr q2 qs ?_;have kp:=k.setp ap false;generalize hwp:Ab wi s _=wp at kp ⊢;refine sd (λg1=>?_) (λg1=>?_)
    ·have e:T={ S with pre:=false,tx:=S.tx++[b] }:=by rw[hT];unfold Kst.step;rw[rG hp,rG (hb2.1 g1)]
     refine Lb kp ap (by dsimp only;omega) b λw' k'=>?_;rw[e];exact k'
    ·have e:T=Kst.look { S with pre:=false } GM Hw b:=by rw[hT];unfold Kst.step;rw[rG hp,rF (λh=>g1 (hb2.2 h))]
     refine td MK rfl (LW wp GM b) ?_;rintro v w1 ⟨rfl,rfl⟩;unfold Kst.look at e;cases hx:Dm GM b with
     | none =>
      rw[hx] at e;refine sn ?_;rw[e];exact kp
     | some j =>
      rw[hx] at e;have hj:=Qy hx;have hj:j<22:=hj;refine sn ?_;refine sd (λ_=>?_) (λg=>absurd (show(0:Int)≤(j:Int) by omega) g);refine td V3 rfl (aJ w1) ?_;rintro v w2 ⟨rfl,hc2⟩;dsimp only;show OpX prog _ _ _ _;rw[S5,ax j hj,Dz];refine OpX.callV (us:=[]) (cs:=[.pointer (some ⟨w.heap.size+3,0,none⟩),.pointer (some ⟨w.heap.size+1,0,none⟩),.pointer (some ⟨w.heap.size,0,none⟩)]) Qa (Dg [_]) (se (Ql (kp.chg0 hc2) ap (by first|omega|(dsimp only;omega)) (by first|omega|(dsimp only;omega)) a7 a2 n7 n2 _) ?_);rintro v w3 k3;rw[e];exact k3
  ·intro w1 k1;have e1:(i:Int)+1=((i+1:Nat):Int):=O;refine sq e1 ?_;exact hn (i+1) _ ⟨O,by rw[hstep];exact k1⟩ O
 ·have hil:i=l.length:=O;rw[hil,List.take_length] at hS;refine sq q7 ?_;refine OpX.callV (us:=[]) (cs:=[.pointer (some ⟨w.heap.size+2,0,none⟩),.pointer (some ⟨w.heap.size+1,0,none⟩)]) IT (Dg []) (se (IK k ap O O) ?_);rintro v w1 ⟨k1,-⟩;have eK:S.flush=Cc cop pre l:=by rw[hS];rfl
  rw[eK] at k1;obtain⟨v5,c5,o5⟩:=k1.h5;refine sq c5 ?_;refine hK _ _ ⟨o5.base_le hc0.size,k1.hs,(hc0.mono Z).trans k1.chg ?_⟩;simp
end
structure Tp where
 win:Int
 pane:Int
 s:List UInt8
@[go_sem] def Tp.cells(t:Tp):List Value:=[.int .i64 t.win,.int .i64 t.pane,.string (Aq t.s)]
structure Ss where
 w:Int
 h:Int
 room:Int
 m:Nat
 mc:Nat
 wins:List Wn
 cur:Int
 cop:Bool
 pre:Bool
 back:Int
 typed:List Tp
 tv:Value
 dis:Int
def Ss.own(s:Nat)(S:Ss)(x:Nat):Prop:=x=s∨x=S.m∨S.tv.ownBlock=some x∨∃W∈S.wins,W.own x
structure SsAt (base:Nat) (w:World) (s:Nat) (S:Ss):Prop where
 hb:w.heap[s]?=some (.cells #[.int .i64 S.w,.int .i64 S.h,.int .i64 S.room,.map (some S.m),.int .i64 S.cur,.bool S.cop,.bool S.pre,.int .i64 S.back,S.tv,.int .i64 S.dis] 70)
 hm:w.heap[S.m]?=some (.map (AE .i64 (S.wins.map Wn.ent)) S.mc)
 each:∀W∈S.wins,WnAt base w W
 apart:S.wins.Pairwise λW V=>∀x,W.own x→¬V.own x
 ids:(S.wins.map (·.n)).Nodup
 ho:Ox base w 184 3 Tp.cells S.tv S.typed
 los:base≤s
 lom:base≤S.m
 far:∀W∈S.wins,¬W.own s∧¬W.own S.m
 born:∀W∈S.wins,W.born<S.mc
 bnd:(S.wins.map (·.born)).Nodup
structure Ss.ok (S:Ss) (lim:Int):Prop where
 w0:1≤S.w
 w1:S.w≤200
 h0:2≤S.h
 h1:S.h≤60
 win:∀W∈S.wins,W.ok∧W.L.R=⟨0,0,S.w,S.h-1⟩∧W.L.newest≤lim∧1≤W.n∧W.n≤9
 cur:S.cur∈S.wins.map (·.n)
 back0:0≤S.back
 back1:S.back≤1000
 few:S.typed.length≤100
 dis0:0≤S.dis
 dis1:S.dis≤lim
section
variable {base:Nat} {w w':World} {s:Nat} {S:Ss} {lim:Int}
theorem WnAt.tag{W:Wn}(h:WnAt base w W):∀x,W.own x→(∃c e a,w.heap[x]?=some (.cells c e a)∧Nat.beq e 70=false∧Nat.beq e 184=false)∨∃b c,w.heap[x]?=some (.map b c):=by
 rintro x (rfl|rfl|rfl|d|⟨p,f,d⟩)
 ·exact .inl ⟨_,_,_,h.hb,rfl,rfl⟩
 ·exact .inl ⟨_,_,_,h.lay.hb,rfl,rfl⟩
 ·exact .inr ⟨_,_,h.hm⟩
 ·obtain⟨c,a,e⟩:=h.lay.tree.tag x d;exact .inl ⟨_,_,_,e,rfl,rfl⟩
 ·obtain⟨c,e,a,g,i⟩:=(h.each p f).tag x d;refine .inl ⟨c,e,a,g,?_,?_⟩
  ·cases j:Nat.beq e 70
   ·rfl
   ·rw[Nat.eq_of_beq_eq_true j] at i;exact absurd i rC
  ·cases j:Nat.beq e 184
   ·rfl
   ·rw[Nat.eq_of_beq_eq_true j] at i;exact absurd i rC
theorem SsAt.tvoff(h:SsAt base w s S):S.tv.ownBlock≠some s∧S.tv.ownBlock≠some S.m∧s≠S.m∧∀W∈S.wins,∀x,W.own x→S.tv.ownBlock≠some x:=by
 refine⟨h.ho.off h.hb rfl,λe=>?_,λe=>?_,λW a x b e=>?_⟩
 ·rcases h.ho.2 with ⟨d,-⟩|⟨g,f,i,d,-,j,-⟩
  ·rw[d] at e;simp [Value.ownBlock] at e
  ·rw[d] at e;simp only[Value.ownBlock,Option.some.injEq] at e;subst e;rw[h.hm] at j;simp at j
 ·have:=h.hb;rw[e,h.hm] at this;simp at this
 ·rcases(h.each W a).tag x b with ⟨c,k,l,m,-,n⟩|⟨o,c,m⟩
  ·exact h.ho.off m n e
  ·rcases h.ho.2 with ⟨d,-⟩|⟨g,f,i,d,-,j,-⟩
   ·rw[d] at e;simp [Value.ownBlock] at e
   ·rw[d] at e;simp only[Value.ownBlock,Option.some.injEq] at e;subst e;rw[m] at j;simp at j
theorem SsAt.lt(h:SsAt base w s S):∀x,S.own s x→x<w.heap.size:=by
 rintro x (rfl|rfl|a|⟨W,b,a⟩)
 ·exact Aa h.hb
 ·exact Aa h.hm
 ·obtain⟨-,-,-,-,-,c,-⟩:=h.ho.form;exact(c x a.symm).2
 ·exact(h.each W b).lt x a
theorem SsAt.lo(h:SsAt base w s S):∀x,S.own s x→base≤x:=by
 rintro x (rfl|rfl|a|⟨W,b,a⟩)
 ·exact h.los
 ·exact h.lom
 ·exact h.ho.own_ge x (by simpa using a)
 ·exact(h.each W b).lo x a
theorem SsAt.chg{F:List Nat}(h:SsAt base w s S)(hc:Chg F w w')(hF:∀x∈F,¬S.own s x):SsAt base w' s S:=
 ⟨hc.keep h.hb λhm=>hF _ hm (.inl rfl),hc.keep h.hm λhm=>hF _ hm (.inr (.inl rfl)),λW hW=>(h.each W hW).chg hc λx hx ho=>hF x hx (.inr (.inr (.inr ⟨W,hW,ho⟩))),h.apart,h.ids,
  h.ho.chg hc λb hb hm=>hF b hm (.inr (.inr (.inl hb.symm))),h.los,h.lom,h.far,h.born,h.bnd⟩
theorem SsAt.chg0(h:SsAt base w s S)(a:Chg [] w w'):SsAt base w' s S:=h.chg a Z
theorem SsAt.self(h:SsAt base w s S)(a:Chg [s] w w'){cur:Int}{cop pre:Bool}{back dis x y:Int}(b:w'.heap[s]?=some (.cells #[.int .i64 x,.int .i64 y,.int .i64 S.room,.map (some S.m),.int .i64 cur,.bool cop,.bool pre,.int .i64 back,S.tv,.int .i64 dis] 70)):
  SsAt base w' s { S with w:=x,h:=y,cur:=cur,cop:=cop,pre:=pre,back:=back,dis:=dis }∧Trn (S.own s) (({ S with w:=x,h:=y,cur:=cur,cop:=cop,pre:=pre,back:=back,dis:=dis }:Ss).own s) w w':=by
 obtain⟨c,d,f,-⟩:=h.tvoff;exact⟨⟨b,a.keep h.hm (by simpa using λe=>f e.symm),λW g=>(h.each W g).chg a λx i j=>by simp at i;subst i;exact(h.far W g).1 j,h.apart,h.ids,h.ho.chg a λz e k=>c (by simp at k;rw[←k];exact e.symm),h.los,h.lom,h.far,h.born,h.bnd⟩,
  Trn.of a (by simp;exact .inl rfl) λx i=>.inl i⟩
def BD(l:List Wn)(V:Wn):List Wn:=l.map λW=>if W.n=V.n then V else W
theorem FA(l:List Wn)(V:Wn):(BD l V).map (·.n)=l.map (·.n):=by
 unfold BD;rw[List.map_map];apply List.map_congr_left;intro p _;simp only[Function.comp];split
 ·rename_i h;exact h.symm
 ·rfl
theorem Fs{l:List Wn}{V W:Wn}(h:W∈BD l V):W=V∨(W∈l∧W.n≠V.n):=by
 unfold BD at h;obtain⟨p,a,rfl⟩:=List.mem_map.1 h;split
 ·exact .inl rfl
 ·rename_i h;exact .inr ⟨a,h⟩
theorem IL{α β:Type}{f:α→β}{l:List α}(a:(l.map f).Nodup){x y:α}(b:x∈l)(c:y∈l)(d:f x=f y):x=y:=by
 induction l with
 | nil=>simp at b
 | cons z l e =>
  rw[List.map_cons,List.nodup_cons] at a;rcases rM.1 b with rfl|g<;>rcases rM.1 c with rfl|h
  ·rfl
  ·exact absurd (List.mem_map.2 ⟨y,h,d.symm⟩) a.1
  ·exact absurd (List.mem_map.2 ⟨x,g,d⟩) a.1
  ·exact e a.2 g h
theorem QC{α:Type}(f:Wn→α){l:List Wn}{W V:Wn}(a:W∈l)(b:(l.map (·.n)).Nodup)(c:V.n=W.n)(d:f V=f W):(BD l V).map f=l.map f:=by
 unfold BD;rw[List.map_map];apply List.map_congr_left;intro r e;simp only[Function.comp];split
 ·rename_i h;rw[IL b e a (h.trans c),d]
 ·rfl
theorem SsAt.turn(h:SsAt base w s S){W V:Wn}(hW:W∈S.wins)(hn:V.n=W.n)(hb:V.b=W.b)(hbo:V.born=W.born)(ht:Trn W.own V.own w w')(hV:WnAt base w' V)(hbase:base≤w.heap.size):
  SsAt base w' s { S with wins:=BD S.wins V }∧Trn (S.own s) (({ S with wins:=BD S.wins V }:Ss).own s) w w':=by
 obtain⟨t1,t2,t3,t4⟩:=h.tvoff;have hoth:∀U∈S.wins,U.n≠V.n→∀x,W.own x→¬U.own x:=by
  intro U hU hne x hx hxU;exact Nw (λa b hab x hb ha=>hab x ha hb) h.apart hW hU (by rintro rfl;omega) x hx hxU
 have hgrow:∀x,({ S with wins:=BD S.wins V }:Ss).own s x→S.own s x∨w.heap.size≤x:=by
  rintro x (rfl|rfl|hx|⟨U,hU,hx⟩)
  ·exact .inl (.inl rfl)
  ·exact .inl (.inr (.inl rfl))
  ·exact .inl (.inr (.inr (.inl hx)))
  ·rcases Fs hU with rfl|⟨hU,-⟩
   ·exact(ht.grow x hx).imp (λhx=>.inr (.inr (.inr ⟨W,hW,hx⟩))) id
   ·exact .inl (.inr (.inr (.inr ⟨U,hU,hx⟩)))
 have he:V.ent=W.ent:=by unfold Wn.ent;rw[hn,hb,hbo]
 have hfarW:=h.far W hW;have ls:=Aa h.hb;have lm:=Aa h.hm;refine⟨⟨ht.keep h.hb hfarW.1,?_,λU hU=>?_,?_,?_,?_,h.los,h.lom,λU hU=>?_,λU hU=>?_,?_⟩,⟨?_,hgrow⟩⟩
 ·dsimp only;rw[QC Wn.ent hW h.ids hn he];exact ht.keep h.hm hfarW.2
 ·rcases Fs hU with rfl|⟨hU,hne⟩
  ·exact hV
  ·exact(h.each U hU).trn ht (hoth U hU hne)
 ·dsimp only[BD];refine List.pairwise_map.2 ((List.pairwise_iff_getElem.2 λi j hi hj hij=>?_));have hap:=List.pairwise_iff_getElem.1 h.apart i j hi hj hij;have hids:S.wins[i].n≠S.wins[j].n:=by
   have:=List.pairwise_iff_getElem.1 (show(S.wins.map (·.n)).Pairwise (·≠·) from h.ids) i j (by simpa using hi) (by simpa using hj) hij;simpa using this
  have lti:=λx=>(h.each _ (rR hi)).lt x;have ltj:=λx=>(h.each _ (rR hj)).lt x;by_cases hi':S.wins[i].n=V.n
  ·have hj':¬S.wins[j].n=V.n:=λe=>hids (by rw[hi',e]);rw[rG hi',rF hj'];intro x hx hxj;rcases ht.grow x hx with h1|h1
   ·exact hoth _ (rR hj) hj' x h1 hxj
   ·have:=ltj x hxj;omega
  ·rw[rF hi'];by_cases hj':S.wins[j].n=V.n
   ·rw[rG hj'];intro x hxi hx;rcases ht.grow x hx with h1|h1
    ·exact hoth _ (rR hi) hi' x h1 hxi
    ·have:=lti x hxi;omega
   ·rw[rF hj'];exact hap
 ·dsimp only;rw[FA];exact h.ids
 ·obtain⟨F,hc,hF⟩:=ht.chg;exact h.ho.chg hc λb hb hm=>t4 W hW b (hF b hm) hb.symm
 ·rcases Fs hU with rfl|⟨hU,-⟩
  ·exact⟨λho=>(ht.grow _ ho).elim hfarW.1 λh=>O,λho=>(ht.grow _ ho).elim hfarW.2 λ(h:w.heap.size≤S.m)=>O⟩
  ·exact h.far U hU
 ·rcases Fs hU with rfl|⟨hU,-⟩
  ·show U.born<S.mc;rw[hbo];exact h.born W hW
  ·exact h.born U hU
 ·dsimp only;rw[QC (·.born) hW h.ids hn hbo];exact h.bnd
 ·obtain⟨F,hc,hF⟩:=ht.chg;exact⟨F,hc,λx hx=>.inr (.inr (.inr ⟨W,hW,hF x hx⟩))⟩
end
section
variable {base:Nat} {w w':World} {s:Nat} {S:Ss} {lim:Int}
def Ss.get(S:Ss)(n:Int):Option Wn:=S.wins.find? λW=>W.ent.1 == n
theorem Ss.get_mem{n:Int}{W:Wn}(h:S.get n=some W):W∈S.wins∧W.n=n:=⟨List.mem_of_find?_eq_some h,by simpa [Wn.ent] using List.find?_some h⟩
theorem Ss.get_none{n:Int}:S.get n=none↔n∉S.wins.map (·.n):=by
 unfold Ss.get;rw[List.find?_eq_none];constructor
 ·intro h a;obtain⟨W,b,e⟩:=List.mem_map.1 a;have:=h W b;simp [Wn.ent] at this;exact this e
 ·intro h W b a;exact h (List.mem_map.2 ⟨W,b,by simpa [Wn.ent] using a⟩)
theorem Ss.get_some{n:Int}(h:n∈S.wins.map (·.n)):∃W,S.get n=some W:=by
 cases a:S.get n with
 | none=>exact absurd h (Ss.get_none.1 a)
 | some W=>exact⟨W,rfl⟩
def CY(o:Option Wn):Value:=(o.map λW=>Value.pointer (some ⟨W.b,0,none⟩)).getD (.pointer none)
theorem HI(S:Ss)(n:Int):(BH (S.wins.map Wn.ent) n).getD (.pointer none)=CY (S.get n):=by rw[Ir];unfold CY Ss.get;cases (S.wins.find? λW=>W.ent.1 == n)<;>rfl
theorem E7(h:SsAt base w s S)(n:Int):Calls prog 17 #[.pointer (some ⟨s,0,none⟩),.int .i64 n] w (Ac λv w'=>v=CY (S.get n)∧w'=w):=by
 have a:=h.hb;have b:=h.hm;apply Wj;intro K c;unfold OD;simp -dsimp (disch:=first|omega|(simp only[go_sem,seval];try omega))only[go_sem,seval,a,b,HI];exact c _ _ ⟨rfl,rfl⟩
theorem cT (h:SsAt base w s S):Calls prog 30 #[.pointer (some ⟨s,0,none⟩)] w (Ac λv w'=>v=.tuple #[.int .i64 S.w,.int .i64 S.h]∧Chg [] w w'):=by
 have hb:=h.hb
 apply Uv
 intro K hK
 unfold MU
 refine sq hb ?_
 exact hK _ _ ⟨rfl,by(repeat (first|exact Chg.refl _ _|apply Chg.drew|apply Chg.alloc|(refine Chg.set ?_ _ _ (by first|(left;simp;done)|(right;omega)))))⟩
theorem G7(h:SsAt base w s S):Calls prog 18 #[.pointer (some ⟨s,0,none⟩)] w (Ac λv w'=>v=.int .i64 S.cur∧w'=w):=by
 have a:=h.hb;apply kg;intro K b;unfold MT;refine sq a ?_;exact b _ _ ⟨rfl,rfl⟩
theorem aL(h:SsAt base w s S):Calls prog 44 #[.pointer (some ⟨s,0,none⟩)] w (Ac λv w'=>v=.int .i64 S.back∧w'=w):=by
 have a:=h.hb;apply gq;intro K b;unfold NV;refine sq a ?_;exact b _ _ ⟨rfl,rfl⟩
theorem XY(h:SsAt base w s S):Calls prog 43 #[.pointer (some ⟨s,0,none⟩)] w (Ac λv w'=>v=.bool S.cop∧Chg [] w w'):=by
 have a:=h.hb;apply Wm;intro K b;unfold Pn;have c:∀d,Chg [] w d→Calls prog 88 #[.pointer (some ⟨s,5,none⟩)] d (Ac λv w'=>v=.bool S.cop∧w'=d):=by
  intro d e;have f:=e.keep a Z;apply fe;intro K b;unfold OA;refine sh (λv w'=>v=.bool S.cop∧w'=d) ?_ (λv w' h=>b _ _ h);exact LC1 f
 refine sh (λv w'=>v=.bool S.cop∧Chg [] w w') ?_ (λv w' h=>b _ _ h);refine sn ?_;refine td VZ rfl (c w (sg _ _)) ?_;rintro v d ⟨rfl,rfl⟩;exact⟨rfl,sg _ _⟩
theorem R8(h:SsAt base w s S){n:Int}{W:Wn}(a:S.get n=some W)(ok:W.ok):Calls prog 8 #[.pointer (some ⟨s,0,none⟩),.int .i64 n] w (Ac λv w'=>Ox w.heap.size w' 44 5 BV v (W.L.root.panes W.L.R)∧Chg [] w w'):=by
 have b:=h.each W (Ss.get_mem a).1;have c:=b.hb;apply Zl;intro K d;unfold RM;refine td E3 rfl (E7 h n) ?_;rintro v e ⟨rfl,rfl⟩;rw[a];simp only[CY,Option.map_some,Option.getD_some];refine sq c ?_;refine td H3 rfl (GO b.lay ok.lay) ?_;exact λv w2 h=>d _ _ h
theorem eZ(h:SsAt base w s S){n:Int}{W:Wn}(a:S.get n=some W)(ok:W.ok):Calls prog 34 #[.pointer (some ⟨s,0,none⟩),.int .i64 n] w (Ac λv w'=>Ox w.heap.size w' 42 4 Rc.cells v (W.L.root.bords W.L.R)∧Chg [] w w'):=by
 have b:=h.each W (Ss.get_mem a).1;have c:=b.hb;apply eN;intro K d;unfold Q4;refine td E3 rfl (E7 h n) ?_;rintro v e ⟨rfl,rfl⟩;rw[a];simp only[CY,Option.map_some,Option.getD_some];refine sq c ?_;refine td dG rfl (Y4 b.lay ok.lay) ?_;exact λv w2 h=>d _ _ h
theorem WN(h:SsAt base w s S)(a:S.wins.length≤1000):Calls prog 40 #[.pointer (some ⟨s,0,none⟩)] w (Ac λv w'=>∃b,b.Perm (S.wins.map (·.n))∧EZ b∧Ox w.heap.size w' 3 1 CJ v b∧Chg [] w w'):=by
 have c:=h.hb;have d:=h.hm;have e:(S.wins.map Wn.ent).map (·.1)=S.wins.map (·.n):=by simp [Wn.ent,Function.comp_def]
 have f:(S.wins.map Wn.ent).map ebo=S.wins.map (·.born):=by simp [Wn.ent,ebo,Function.comp_def]
 apply il;intro K g;unfold SH;refine sq c ?_;refine td XE rfl (Zc d) ?_;rintro v i ⟨rfl,j,k⟩;refine td Vr rfl (iv j (k.keep d Z) (λx l=>by obtain⟨y,m,rfl⟩:=List.mem_map.1 l;exact h.born y m) (by rw[f];exact h.bnd) (by simp;omega) (by rw[e];exact h.ids)) ?_;rintro v w2 ⟨b,n,o,p,q⟩;exact g _ _ ⟨b,by rw[←e];exact n,o,p.base_le k.size,k.trans0 q⟩
def bX(a:List Int)(b d:Int):Int:=match a.findIdx? (· == b) with
 | none=>b
 | some i=>a.getD (((i:Int)+d+a.length).toNat % a.length) 0
theorem Is{W:Wn}{p:Pt}(h:WnAt base w W)(a:p∈W.pts):(W.pts.find? λq=>q.ent.1 == p.id)=some p:=by
 cases b:W.pts.find? λq=>q.ent.1 == p.id with
 | none =>
  have:=List.find?_eq_none.1 b p a;simp [Pt.ent] at this
 | some q =>
  obtain⟨c,d⟩:=It b;rw[IL h.ids c a d]
theorem TI{W:Wn}(ok:W.ok):∃p∈W.pts,p.id=W.active:=by
 obtain⟨p,a,e⟩:=List.mem_map.1 ((ok.has W.active).2 ok.act);exact⟨p,a,e⟩
def Ss.backOf(S:Ss)(n:Int)(W:Wn)(a:Int):Int:=if n=S.cur∧a=W.active then S.back else 0
theorem fW(h:SsAt base w s S){n:Int}{W:Wn}(a:S.get n=some W){p:Pt}(b:p∈W.pts):Calls prog 33 #[.pointer (some ⟨s,0,none⟩),.int .i64 n,.int .i64 p.id] w
  (Ac λv w'=>GAt w.heap.size w' v (CC p.M.S p.G.list (S.backOf n W p.id))∧Chg [] w w'):=by
 have c:=h.each W (Ss.get_mem a).1;have d:=c.hb;have e:=h.hb;apply Xi;intro K f;unfold Ls;refine sn ?_;refine OpX.gen λw0 i=>?_;have j:Chg [] w w0:=by rw[i];exact sy
 have k:w0.heap.size=w.heap.size+1:=by rw[i];simp -dsimp (disch:=first|omega|(simp only[go_sem,seval];try omega))only[go_sem,seval]
 have l:w0.heap[w.heap.size]?=some (.cells #[.int .i64 0,.int .i64 0,.slice none 0 0] 50):=by rw[i];simp -dsimp (disch:=first|omega|(simp only[go_sem,seval];try omega))only[go_sem,seval]
 clear i;have m:=h.chg0 j;have o:=c.chg0 j;have q:=j.keep e Z;have r:=j.keep d Z;refine td E3 rfl (E7 m n) ?_;rintro v t ⟨rfl,rfl⟩;rw[a];simp only[CY,Option.map_some,Option.getD_some];refine sn ?_;refine sh (λv w'=>v=.int .i64 (S.backOf n W p.id)∧w'=t) ?_ ?_
 ·refine sh (λv w'=>v=.bool (decide (n=S.cur∧p.id=W.active))∧w'=t) ?_ ?_
  ·refine sq q ?_;refine sd (λg=>?_) (λg=>⟨sv (λh=>g h.1),rfl⟩);refine sq r ?_;exact sw ⟨λh=>⟨g,h⟩,λh=>h.2⟩
  ·rintro v w2 ⟨rfl,rfl⟩;refine sd (λg=>?_) (λg=>?_)
   ·refine sq q ?_;unfold Ss.backOf;rw[rG g]
   ·refine⟨?_,rfl⟩;unfold Ss.backOf;rw[rF g]
 rintro v w2 ⟨rfl,rfl⟩;refine td HC rfl (J2 o p.id) ?_;rintro v u ⟨rfl,rfl⟩;rw[Is o b];simp only[Option.map_some,Option.getD_some];refine sn ?_;refine td jC rfl (gM (o.each p b).1 (S.backOf n W p.id)) ?_;rintro v x ⟨⟨y,z,A,rfl,B,C,D⟩,E⟩;have F:=E.keep l Z;have G:=Aa F;generalize CC p.M.S p.G.list (S.backOf n W p.id)=V at *;simp -dsimp (disch:=first|omega|(simp only[go_sem,seval];try omega))only[go_sem,seval,Gr.val,F];have H:Chg [w.heap.size] x (Ab x w.heap.size (.cells #[.int .i64 V.w,.int .i64 V.h,.slice (some ⟨y,0,none⟩) V.cs.length z] 50)):=(sg _ _).set _ _ Z;exact f _ _ ⟨⟨y,z,A,rfl,B,O,H.keep D (by simp;omega)⟩,(j.trans0 E).trans H Z⟩
theorem LP(h:SsAt base w s S):Calls prog 99 #[.pointer (some ⟨s,0,none⟩)] w (Ac λ_ w'=>SsAt base w' s { S with cop:=false,back:=0 }∧Trn (S.own s) (S.own s) w w'):=by
 have a:=h.hb;have b:=Aa a;apply eX;intro K c;unfold Ma;refine sn ?_;have d:Calls prog 160 #[.pointer (some ⟨s,5,none⟩)] w (Ac λv w'=>w'=Ab w s (.cells #[.int .i64 S.w,.int .i64 S.h,.int .i64 S.room,.map (some S.m),.int .i64 S.cur,.bool false,.bool S.pre,.int .i64 S.back,S.tv,.int .i64 S.dis] 70)):=by
  apply Ue;intro K c;unfold Th;refine sq a ?_;exact c _ _ rfl
 refine td WL rfl (d) ?_;rintro v e rfl;have f:=Aw w s (.cells #[.int .i64 S.w,.int .i64 S.h,.int .i64 S.room,.map (some S.m),.int .i64 S.cur,.bool false,.bool S.pre,.int .i64 S.back,S.tv,.int .i64 S.dis] 70) s rfl b;refine sq f ?_;have g:Chg [s] w (Ab w s (.cells #[.int .i64 S.w,.int .i64 S.h,.int .i64 S.room,.map (some S.m),.int .i64 S.cur,.bool false,.bool S.pre,.int .i64 0,S.tv,.int .i64 S.dis] 70)):=(sg _ _).set _ _ Z;exact c _ _ (h.self g (Aw _ _ _ _ rfl b))
theorem Zd(h:SsAt base w s S){W:Wn}(a:S.get S.cur=some W)(ok:W.ok)(d:Int)(c:0≤S.back)(e:S.back≤1000)(f:-100000≤d)(g:d≤100000):Calls prog 54 #[.pointer (some ⟨s,0,none⟩),.int .i64 d] w
  (Ac λ_ w'=>∃b:Int,0≤b∧b≤1000∧(S.back+d≤0→b=0)∧SsAt base w' s { S with back:=b }∧Trn (S.own s) (S.own s) w w'):=by
 have i:=h.each W (Ss.get_mem a).1;obtain⟨p,j,k⟩:=TI ok;have l:=h.hb;have m:=h.hm;have n:=Aa l;have o:(BH (S.wins.map Wn.ent) S.cur).getD (.pointer none)=.pointer (some ⟨W.b,0,none⟩):=by rw[HI,a];rfl
 have q:=i.hb;apply VP;intro K r;unfold Lh;refine LX4 l m o q ?_;have t:=i.chg0 (show Chg [] w w.drew.drew from(sg _ _).drew.drew);have u:=J2 t W.active;rw[←k,Is t j] at u;simp only[Option.map_some,Option.getD_some] at u;rw[←k];refine td HC rfl (u) ?_;rintro v x ⟨rfl,rfl⟩;refine sq l ?_;refine td ie rfl (je (t.each p j).1) ?_;rintro v w2 ⟨rfl,y⟩;have y:Chg [] w w2:=y.low_drew.low_drew;have z:=y.keep l Z;have A:=Aa z;have B:p.G.list.length≤500:=by
  have C:=(t.each p j).1.his.fit;have D:=(t.each p j).1.his.room1;rw[p.G.list_len];omega
 refine sq z ?_;obtain⟨b,hbb⟩:∃b:Int,b=min (max (S.back+d) 0) (p.G.list.length:Int):=⟨_,rfl⟩;rw[←hbb];have E:Chg [s] w2 (Ab w2 s (.cells #[.int .i64 S.w,.int .i64 S.h,.int .i64 S.room,.map (some S.m),.int .i64 S.cur,.bool S.cop,.bool S.pre,.int .i64 b,S.tv,.int .i64 S.dis] 70)):=(sg _ _).set _ _ Z;obtain⟨C,F⟩:=(h.chg0 y).self E (Aw _ _ _ _ rfl A);exact r _ _ ⟨b,O,O,O,C,(Trn.of0 y λ_ h=>.inl h).trans F⟩
end
section
variable {base:Nat} {w w' w'':World} {s:Nat} {S:Ss} {lim:Int}
def fY(l:List Tp):List Tp:=l.drop (l.length-100)
theorem WnAt.base_le{a:Nat}{W:Wn}(h:WnAt base w W)(b:a≤base):WnAt a w W:=
 ⟨h.hb,h.lay,h.hm,λp c=>⟨(h.each p c).1.base_le b,(h.each p c).2⟩,h.apart,h.ids,λx d=>Nat.le_trans b (h.lo x d)⟩
theorem SsAt.addWin(h:SsAt base w s S){w1:World}(hc:Chg [] w w1){V:Wn}(hV:WnAt base w1 V)(hnew:∀x,V.own x→w.heap.size≤x)(hborn:V.born=S.mc)(hn:V.n∉S.wins.map (·.n))(hbase:base≤w.heap.size):
  SsAt base (Ab w1 S.m (.map (AE .i64 (S.wins.map Wn.ent++[V.ent])) (S.mc+1))) s { S with wins:=S.wins++[V],mc:=S.mc+1 }∧Trn (S.own s) (({ S with wins:=S.wins++[V],mc:=S.mc+1 }:Ss).own s) w (Ab w1 S.m (.map (AE .i64 (S.wins.map Wn.ent++[V.ent])) (S.mc+1))):=by
 obtain⟨t1,t2,t3,t4⟩:=h.tvoff;have h1:=h.chg0 hc;have lm:=Aa h.hm;have ls:=Aa h.hb;have hcs:Chg [S.m] w1 (Ab w1 S.m (.map (AE .i64 (S.wins.map Wn.ent++[V.ent])) (S.mc+1))):=(sg _ _).set _ _ Z;have hm2:=Aw w1 S.m (.map (AE .i64 (S.wins.map Wn.ent++[V.ent])) (S.mc+1)) S.m rfl (Aa h1.hm);refine⟨⟨hcs.keep h1.hb (by simpa using t3),?_,λU hU=>?_,?_,?_,?_,h.los,h.lom,λU hU=>?_,λU hU=>?_,?_⟩,Trn.of ((hc.mono Z).trans hcs (λx hx=>.inl hx)) (by simp;exact .inr (.inl rfl)) ?_⟩
 ·dsimp only;rw[List.map_append];exact hm2
 ·rcases List.mem_append.1 hU with hU|hU
  ·exact(h1.each U hU).chg hcs λx hx ho=>by simp at hx;subst hx;exact(h.far U hU).2 ho
  ·simp at hU;subst hU;exact hV.chg hcs λx hx ho=>by simp at hx;subst hx;have:=hnew _ ho;omega
 ·dsimp only;rw[List.pairwise_append];refine⟨h.apart,Z,λa ha b hb x hxa hxb=>?_⟩;simp at hb;subst hb;have:=hnew x hxb;have:=(h.each a ha).lt x hxa;omega
 ·dsimp only;rw[List.map_append,List.nodup_append];exact⟨h.ids,Z,λa ha b hb=>by simp at hb;subst hb;rintro rfl;exact hn ha⟩
 ·exact h1.ho.chg hcs λb hb hm=>t2 (by simp at hm;rw[←hm];exact hb.symm)
 ·rcases List.mem_append.1 hU with hU|hU
  ·exact h.far U hU
  ·simp at hU;subst hU;exact⟨λho=>by have:=hnew _ ho;omega,λho=>by have h9:w.heap.size≤S.m:=hnew _ ho;omega⟩
 ·show U.born<S.mc+1;rcases List.mem_append.1 hU with hU|hU
  ·have:=h.born U hU;omega
  ·simp at hU;subst hU;omega
 ·dsimp only;rw[List.map_append,List.nodup_append];exact⟨h.bnd,Z,λa ha b hb=>by simp at hb;subst hb;rintro rfl;obtain⟨U,hU,e⟩:=List.mem_map.1 ha;have:=h.born U hU;omega⟩
 ·rintro x (rfl|rfl|hx|⟨r,hr,hx⟩)
  ·exact .inl (.inl rfl)
  ·exact .inl (.inr (.inl rfl))
  ·exact .inl (.inr (.inr (.inl hx)))
  ·rcases List.mem_append.1 hr with hr|hr
   ·exact .inl (.inr (.inr (.inr ⟨r,hr,hx⟩)))
   ·simp at hr;subst hr;exact .inr (hnew x hx)
end
theorem gm{l:List Int}(a:l.Nodup){i j:Nat}(b:i<l.length)(c:j<l.length)(e:l[i]=l[j]):i=j:=by
 have h:=List.pairwise_iff_getElem.1 (show l.Pairwise (·≠·) from a);rcases Nat.lt_trichotomy i j with d|d|d
 ·exact absurd e (h i j b c d)
 ·exact d
 ·exact absurd e.symm (h j i c b d)
theorem S4:∀(k:Nat) {l:List Int},l.Nodup→(∀x∈l,1≤x∧x≤k)→l.length≤k
 | 0,l,_,hb=>by
  cases l with
  | nil=>simp
  | cons x l=>have:=hb x Z;omega
 | k+1,l,hn,hb=>by
  have a:=S4 k (l:=l.erase ((k+1:Nat):Int)) (hn.erase _) λx b=>by
   rw[hn.mem_erase_iff] at b;have:=hb x b.2;omega
  rw[List.length_erase] at a;split at a<;>omega
section
variable {base:Nat} {w w' w'':World} {s:Nat} {S:Ss} {lim:Int}
theorem Ss.ok.mono(ok:S.ok lim){e:Int}(h:lim≤e):S.ok e:=
 ⟨ok.w0,ok.w1,ok.h0,ok.h1,λW f=>let ⟨a,b,c,d⟩:=ok.win W f;⟨a,b,O,d⟩,ok.cur,ok.back0,ok.back1,ok.few,ok.dis0,by have:=ok.dis1;omega⟩
theorem Ss.ok.put(ok:S.ok lim){W V:Wn}(e:W∈S.wins)(f:V.n=W.n)(g:V.ok)(h:V.L.R=W.L.R)(i:V.L.newest≤W.L.newest+1):({ S with wins:=BD S.wins V }:Ss).ok (lim+1):=by
 obtain⟨a,b,c,d⟩:=ok.win W e;refine⟨ok.w0,ok.w1,ok.h0,ok.h1,λU j=>?_,by rw[FA];exact ok.cur,ok.back0,ok.back1,ok.few,ok.dis0,by have:=ok.dis1;show S.dis≤_;omega⟩;rcases Fs j with rfl|⟨j,-⟩
 ·exact⟨g,by rw[h];exact b,O,by rw[f];exact d⟩
 ·obtain⟨a,b,c,d⟩:=ok.win U j;exact⟨a,b,O,d⟩
theorem Ss.ok.left(ok:S.ok lim)(c:Bool):({ S with cop:=c,back:=0 }:Ss).ok lim:=⟨ok.w0,ok.w1,ok.h0,ok.h1,ok.win,ok.cur,Int.le_refl _,by show(0:Int)≤1000;decide,ok.few,ok.dis0,ok.dis1⟩
theorem iJ{l:List Int}(a:l.Nodup)(b:∀x∈l,1≤x∧x≤9):l.length≤9:=S4 9 a b
theorem SsAt.len(h:SsAt base w s S)(ok:S.ok lim):S.wins.length≤9:=by
 have:=iJ h.ids (λx a=>by obtain⟨W,b,rfl⟩:=List.mem_map.1 a;exact(ok.win W b).2.2.2);simpa using this
end
structure KRel (S:Ss) (k:Ky) (S':Ss) (word:List UInt8) (v:Value):Prop where
 w:S'.w=S.w
 h:S'.h=S.h
 room:S'.room=S.room
 pre:S'.pre=S.pre
 cop:S'.cop=S.cop∨S'.cop=false
 typ:k.kind≠1→S'.typed=S.typed
 k1:k.kind=1→v=.nilIface∧∃W,S.get S.cur=some W∧S'.typed=fY (S.typed++[⟨S.cur,W.active,k.s⟩])∧S'.wins=S.wins∧S'.cur=S.cur∧S'.back=S.back
 k2:k.kind=2→∃W,S.get S.cur=some W∧S'.cur=S.cur∧((v=.nilIface∧S'.cop=false∧∃W' nb n1 n2 R,(Mt.pane nb W.active,R)∈W.L.root.all W.L.R∧W'.n=W.n∧W'.L=Cy W.L true nb n1 n2 R W.active∧S'.wins=BD S.wins W') ∨
  (16≤W.L.root.ids.length∨∃nb R,(Mt.pane nb W.active,R)∈W.L.root.all W.L.R∧R.len true<3))
 k5:k.kind=5→∃W,S.get S.cur=some W∧((v=.nilIface∧2≤W.L.root.ids.length)∨(v=.nilIface∧W.L.root.ids.length=1∧2≤S.wins.length∧S'.wins=S.wins.eraseP (λx=>x.ent.1 == S.cur)∧S'.cur≠S.cur)∨(v=B6 13∧W.L.root.ids.length=1∧S.wins.length=1∧S'=S))
 k6:k.kind=6→(v=.nilIface∧∃(V:Wn) (n:Nat),1≤n∧n≤9∧V.n=n∧(n:Int)∉S.wins.map (·.n)∧(∀j:Nat,1≤j→j<n→(j:Int)∈S.wins.map (·.n))∧V.active=1∧(∃t,V.L.root=.pane t 1)∧S'.wins=S.wins++[V]∧S'.cur=n∧S'.back=0) ∨
  (v=B6 15∧word=[119,105,110,100,111,119]∧(∀j:Nat,1≤j→j≤9→(j:Int)∈S.wins.map (·.n))∧S'=S)
 k7:k.kind=7∨k.kind=8→v=.nilIface∧S'.wins=S.wins∧∃ks,ks.Perm (S.wins.map (·.n))∧EZ ks∧S'.cur=bX ks S.cur (if k.kind=7 then 1 else -1)
section
variable {base:Nat} {w w' w'':World} {s:Nat} {S:Ss} {lim:Int}
theorem Ss.get_cur(ok:S.ok lim):∃W,S.get S.cur=some W:=Ss.get_some ok.cur
end
def erV:Option (TypeId × Value)→Value
 | none=>.nilIface
 | some p=>.iface p.1 p.2
def erF(e:Option (TypeId × Value)):List Value:=[erV e]
theorem Lv(e:Option (TypeId × Value)):(erF e).length=1:=rfl
theorem R2(e:Option (TypeId × Value)):AV (erF e)=true:=by cases e<;>rfl
def BK(l:List (Option (TypeId × Value))):List (Option (TypeId × Value)):=l.filter Option.isSome
theorem iE(l:List (Option (TypeId × Value))):(BK l).length≤l.length:=List.length_filter_le _ _
theorem bw {w:World} {a:Option Addr} {cap:Nat} {xs:List (Option (TypeId × Value))} (hs:Sx w (some 32) erF a xs) (hlen:xs.length≤100000):Calls prog 51 #[.slice a xs.length cap] w
  (Ac λv w'=>Chg [] w w'∧((BK xs=[]∧v=.nilIface)∨(∃p,BK xs=[some p]∧v=.iface p.1 p.2)∨(2≤(BK xs).length∧∃t y,v=.iface t y))):=by
 apply iN
 intro K hK
 unfold QP
 refine sn ?_
 refine Loop2.st (λq:Nat × Option Addr × Nat=>.slice q.2.1 (BK (xs.take q.1)).length q.2.2) (λq=>.int .i64 (q.1:Int)) (λq w'=>q.1≤xs.length∧Chg [] w w'∧Ox w.heap.size w' 32 1 erF (.slice q.2.1 (BK (xs.take q.1)).length q.2.2) (BK (xs.take q.1))) (λq=>xs.length-q.1) (0,none,0) rfl rfl ⟨Nat.zero_le _,Chg.refl _ _,Ox.nil _ _ _ _ _⟩ ?_
 rintro next ⟨i,a3,c3⟩ wi hn ⟨hi,hc,ho⟩
 dsimp only at hi hc ho ⊢
 have hzi:=hc.size
 have hkl:=iE (xs.take i)
 have htl:(xs.take i).length≤100000:=by rw[List.length_take];omega
 refine sn ?_
 refine BrW.dec (λg=>?_) (λg=>?_)
 ·have hi':i<xs.length:=by omega
  have hx:xs[i]?=some xs[i]:=List.getElem?_eq_getElem hi'
  have ht:BK (xs.take (i+1))=if xs[i].isSome then BK (xs.take i)++[xs[i]] else BK (xs.take i):=by
   unfold BK
   rw[Cd hi',List.filter_append]
   split<;>simp_all
  generalize xs[i]=x at *
  have e1:(i:Int)+1=((i+1:Nat):Int):=by omega
  refine Join1.cut (λv w'=>∃a' c',v=.slice a' (BK (xs.take (i+1))).length c'∧Chg [] w w'∧Ox w.heap.size w' 32 1 erF (.slice a' (BK (xs.take (i+1))).length c') (BK (xs.take (i+1)))) ?_ ?_
  ·obtain⟨b,o,rfl,hbl,hcell⟩:=(hs.chg0 hc).get1 (g:=erV) (λ_=>rfl) hx
   cases x with
   | none =>
    simp only[erV] at hcell
    refine sq hcell ?_
    rw[ht]
    exact⟨a3,c3,rfl,hc,ho⟩
   | some p =>
    simp only[erV] at hcell
    refine sq hcell ?_
    refine OpX.gen λw1 hw1=>?_
    have hc1:Chg [] wi w1:=by rw[hw1];(repeat (first|exact Chg.refl _ _|apply Chg.drew|apply Chg.alloc|(refine Chg.set ?_ _ _ (by first|(left;simp;done)|(right;omega)))))
    have hsa:Sx w1 (some 32) erF (some ⟨wi.heap.size,0,none⟩) [some p]:=Sx.built (c:=erF (some p)) (by rw[hw1];simp only[erF,erV];exact so) (by simp)
    clear hw1
    have hz1:=hc1.size
    refine Bd Qg Lv R2 (ho.chg0 hc1) hsa rfl (by rw[List.length_singleton];omega) (by omega) (by omega) ?_
    intro v' w2 ho2 hc2 hown2
    have ht':BK (xs.take (i+1))=BK (xs.take i)++[some p]:=ht
    rw[←ht'] at ho2
    obtain⟨a2,c2,rfl,-⟩:=ho2.form
    exact⟨a2,c2,rfl,(hc.trans0 hc1).trans hc2 (λx hx=>.inr ((ho.chg0 hc1).own_ge x hx)),ho2⟩
  ·rintro v w2 ⟨a',c',rfl,hc2,ho2⟩
   refine sq e1 ?_
   exact hn (i+1,a',c') _ ⟨by dsimp only;omega,hc2,ho2⟩ (by dsimp only;omega)
 ·have hil:i=xs.length:=by omega
  subst hil
  rw[List.take_length] at ho hkl ⊢
  obtain⟨a9,c9,e9,-,hs3,-,-⟩:=ho.form
  simp only[Value.slice.injEq] at e9
  obtain⟨rfl,-,rfl⟩:=e9
  have hsome:∀x∈BK xs,x.isSome=true:=λx hx=>(List.mem_filter.1 hx).2
  generalize BK xs=ks at *
  refine sn ?_
  refine BrW.dec (λg=>?_) (λg0=>?_)
  ·exact hK _ _ ⟨hc,.inl ⟨List.eq_nil_of_length_eq_zero (by omega),rfl⟩⟩
  refine sn ?_
  refine BrW.dec (λg=>?_) (λg1=>?_)
  ·have hl0:0<ks.length:=by omega
   obtain⟨b,o,rfl,hbl,hcell⟩:=hs3.get1 (g:=erV) (λ_=>rfl) (List.getElem?_eq_getElem hl0)
   have hs1:=hsome _ (List.getElem_mem hl0)
   have hk1:ks=[ks[0]]:=by
    cases ks with
    | nil=>simp at hl0
    | cons y l =>
     cases l with
     | nil=>rfl
     | cons z l=>simp only[List.length_cons] at g;omega
   generalize ks[0]=y at *
   subst hk1
   cases y with
   | none=>simp at hs1
   | some p =>
    simp only[erV,Nat.add_zero] at hcell
    refine sq hcell ?_
    exact hK _ _ ⟨hc,.inr (.inl ⟨p,rfl,rfl⟩)⟩
  ·refine sn ?_
   exact hK _ _ ⟨hc.trans0 (by(repeat (first|exact Chg.refl _ _|apply Chg.drew|apply Chg.alloc|(refine Chg.set ?_ _ _ (by first|(left;simp;done)|(right;omega)))))),.inr (.inr ⟨by omega,_,_,rfl⟩)⟩
end Go.Proofs.YtnpkidnbhlepkaaGreat
namespace Lyc
open Go
theorem iQ(a pre:Bool)(l:List UInt8):(Cc a pre l).ks.length≤2*l.length+1:=by
 have b:=Kst.feed_ks l ⟨a,pre,[],[]⟩;have c:=(Kst.feed ⟨a,pre,[],[]⟩ l).flush_ks;simp only[List.length_nil,Nat.zero_add] at b;unfold Cc;omega
end Lyc
namespace Go.Proofs.YtnpkidnbhlepkaaGreat
open Lyc Go Go.Proofs.Tryz
inductive KRun (S:Ss):List Ky→Ss→List (List UInt8 × Value)→Prop
 | nil:KRun S [] S []
 | snoc {ks:List Ky} {k:Ky} {S1 S2:Ss} {vs:List (List UInt8 × Value)} {word:List UInt8} {v:Value}:KRun S ks S1 vs→KRel S1 k S2 word v→KRun S (ks++[k]) S2 (vs++[(word,v)])
theorem _root_.Lyc.Trn.priv{o a:Nat→Prop}{w w' w'':World}{F:List Nat}(h:Trn o a w w')(b:Chg F w' w'')(c:∀x∈F,w.heap.size≤x):Trn o a w w'':=by
 obtain⟨G,d,e⟩:=h.chg;exact Trn.low (F:=G++F) ((d.mono λx f=>.inl (List.mem_append_left _ f)).trans b λx f=>.inl (List.mem_append_right _ f)) (λx f=>(List.mem_append.1 f).elim (λh=>.inl (e x h)) λh=>.inr (c x h)) h.grow
section
variable {base:Nat} {w w' w'':World} {s:Nat} {S:Ss} {lim:Int}
end
section
variable {base:Nat} {w w' w'':World} {s:Nat} {S:Ss} {lim:Int}
theorem WZ(h:SsAt base w s S)(ok:S.ok lim)(hbase:base≤w.heap.size)(win pane:Int)(l:List UInt8)(hl:l.length≤2000):Calls prog 21 #[.pointer (some ⟨s,0,none⟩),.int .i64 win,.int .i64 pane,.string (Aq l)] w
  (Ac λv w'=>(v=B6 12∧w'=w∧∀W,S.get win=some W→pane∉W.pts.map (·.id))∨(v=.nilIface∧∃W p q b,S.get win=some W∧p∈W.pts∧p.id=pane∧q.ent=p.ent∧q.W=p.W∧q.H=p.H∧(q.M.S,q.T.kept,q.T.E)=({ (BW (p.M.S,p.T.kept,p.T.E) [l]).1 with gone:=[] },(BW (p.M.S,p.T.kept,p.T.E) [l]).2.1,(BW (p.M.S,p.T.kept,p.T.E) [l]).2.2) ∧
   (S.back≤0→b=0)∧({ W with pts:=Be W.pts q }:Wn).ok∧({ S with wins:=BD S.wins { W with pts:=Be W.pts q },back:=b }:Ss).ok (lim+1)∧SsAt base w' s { S with wins:=BD S.wins { W with pts:=Be W.pts q },back:=b }∧Trn (S.own s) (({ S with wins:=BD S.wins { W with pts:=Be W.pts q },back:=b }:Ss).own s) w w')):=by
 apply iz;intro K hK;unfold OO;refine td E3 rfl (E7 h win) ?_;rintro v w1 ⟨rfl,rfl⟩;cases hg:S.get win with
 | none =>
  simp only[CY,Option.map_none,Option.getD_none];refine td HC rfl (Vs w1 pane) ?_;rintro v w2 ⟨rfl,rfl⟩;refine sn ?_;refine td GZ rfl (Ho _ 12) ?_;rintro v w2 ⟨rfl,rfl⟩;exact hK _ _ (.inl ⟨rfl,rfl,λW h=>by rw[hg] at h;cases h⟩)
 | some W =>
  simp only[CY,Option.map_some,Option.getD_some];obtain⟨hWm,hWn⟩:=Ss.get_mem hg;have hA:=h.each W hWm;obtain⟨wok,wR,wnew,wn⟩:=ok.win W hWm;refine td HC rfl (J2 hA pane) ?_;rintro v w2 ⟨rfl,rfl⟩;cases hf:W.pts.find? λp=>p.ent.1 == pane with
  | none =>
   simp only[Option.map_none,Option.getD_none];refine sn ?_;refine td GZ rfl (Ho _ 12) ?_;rintro v w2 ⟨rfl,rfl⟩;refine hK _ _ (.inl ⟨rfl,rfl,λV hV=>?_⟩);rw[hg] at hV;cases hV;intro hm;obtain⟨p,hp,e⟩:=List.mem_map.1 hm;have:=List.find?_eq_none.1 hf p hp;simp [Pt.ent] at this;exact this e
  | some p =>
   simp only[Option.map_some,Option.getD_some];obtain⟨hp,hpi⟩:=It hf;have hP:=hA.each p hp;refine sn ?_;refine OpX.gen λw3 hw3=>?_;have hc3:Chg [] w2 w3:=by rw[hw3];exact sy
   have hsa:Sx w3 (some 9) bsF (some ⟨w2.heap.size,0,none⟩) [l]:=Sx.built (c:=bsF l) (by rw[hw3];simp only[bsF];exact so) Z;clear hw3;have hz3:=hc3.size;have hP3:=hP.chg0 hc3;have hlt:∀x∈p.t::p.T.s::p.M.blk,x<w2.heap.size:=by
    intro x hx;simp only[rM] at hx;refine hP.lt x ?_;rcases hx with rfl|rfl|hx
    ·exact .inl rfl
    ·exact .inr (.inl rfl)
    ·exact .inr (.inr (.inl hx))
   refine td Wb rfl (X2 hP3.1 O hsa (by simp;omega) (λb o e hne hm=>by cases e;have:=hlt _ hm;omega) 1 Z) ?_;rintro v w4 ⟨M',G',k,E,hT,hfed,hroom,hlist,hc4,hrows,hgrow⟩;obtain⟨q,hq⟩:∃q:Pt,q={ p with T:={ p.T with kept:=k,E:=E },M:=M',G:=G' }:=⟨_,rfl⟩;have hPq:B4 base w4 q:=by rw[hq];exact⟨hT,hrows⟩
   have hqe:q.ent=p.ent:=by rw[hq];rfl
   have Tq:Trn p.own q.own w2 w4:=by
    refine Trn.of ((hc3.mono Z).trans hc4 λx hx=>.inl hx) (λx hx=>?_) (λx hx=>?_)
    ·simp only[List.cons_append,rM,List.mem_append] at hx;rcases hx with rfl|rfl|hx|rfl|hx
     ·exact .inl rfl
     ·exact .inr (.inl rfl)
     ·exact .inr (.inr (.inl hx))
     ·exact .inr (.inr (.inr (.inl rfl)))
     ·exact .inr (.inr (.inr (.inr (.inl hx))))
    ·rw[hq] at hx;exact(hgrow x hx).imp id λh=>by omega
   have hfq:(q.M.S,q.T.kept,q.T.E)=({ (BW (p.M.S,p.T.kept,p.T.E) [l]).1 with gone:=[] },(BW (p.M.S,p.T.kept,p.T.E) [l]).2.1,(BW (p.M.S,p.T.kept,p.T.E) [l]).2.2):=by rw[hq];exact hfed
   have hqW:q.W=p.W:=by rw[hq]
   have hqH:q.H=p.H:=by rw[hq]
   clear hq;obtain⟨A1,T1⟩:=hA.turn hp hqe Tq hPq hbase;have wok1:({ W with pts:=Be W.pts q }:Wn).ok:=⟨wok.lay,wok.act,by dsimp only;rw[I9];exact wok.has,λr hr x hx=>by
    rcases Hx hr with rfl|⟨hr,-⟩
    ·rw[hqW,hqH];exact wok.size p hp x (by rw[show p.id=r.id from(congrArg Prod.fst hqe).symm];exact hx)
    ·exact wok.size r hr x hx⟩
   obtain⟨A2,T2⟩:=h.turn (V:={ W with pts:=Be W.pts q }) hWm rfl rfl rfl T1 A1 hbase;have ok2:=ok.put (V:={ W with pts:=Be W.pts q }) hWm rfl wok1 rfl (by show W.L.newest≤_;omega);obtain⟨W2,hg2⟩:=Ss.get_cur ok2;have hW2:=ok2.win W2 (Ss.get_mem hg2).1;refine td bR rfl (Zd A2 hg2 hW2.1 0 ok.back0 ok.back1 rC rC) ?_;rintro v w5 ⟨b,b0,b1,b2,A3,T3⟩;have ok3:({ S with wins:=BD S.wins { W with pts:=Be W.pts q },back:=b }:Ss).ok (lim+1):=⟨ok2.w0,ok2.w1,ok2.h0,ok2.h1,ok2.win,ok2.cur,b0,b1,ok2.few,ok2.dis0,ok2.dis1⟩;exact hK _ _ (.inr ⟨rfl,W,p,q,b,hg,hp,hpi,hqe,hqW,hqH,hfq,λhb=>b2 (by show S.back+0≤0;omega),wok1,ok3,A3,T2.trans T3⟩)
end
def ro(φ:Nat→Rc)(W:Wn):Wn:={ W with L:={ W.L with R:=φ W.born } }
def upd(φ:Nat→Rc)(b:Nat)(R:Rc):Nat→Rc:=λx=>if x=b then R else φ x
def Ss.ro(S:Ss)(φ:Nat→Rc):Ss:={ S with wins:=S.wins.map (Go.Proofs.YtnpkidnbhlepkaaGreat.ro φ) }
section
variable {base:Nat} {w w' w'':World} {s:Nat} {S:Ss} {lim:Int}
theorem bO(w:World)(x y:Int):Calls prog 15 #[.int .i64 x,.int .i64 y] w (Ac λv w'=>v=.bool (decide (1≤x∧x≤200∧2≤y∧y≤60))∧w'=w):=by
 apply eO;intro K a;unfold Qw;refine sh (λv w'=>v=.bool (decide (1≤x∧x≤200∧2≤y∧y≤60))∧w'=w) ?_ (λv w' h=>a _ _ h);refine sn ?_;refine sd (λg1=>?_) (λg1=>⟨sv O,rfl⟩);refine sn ?_;refine sd (λg2=>?_) (λg2=>⟨sv O,rfl⟩);refine sn ?_;refine sd (λg3=>?_) (λg3=>⟨sv O,rfl⟩);refine sn ?_;exact sw ⟨λh=>O,λh=>O⟩
end
structure Ev where
 kind:Int
 win:Int
 pane:Int
 s:List UInt8
 w:Int
 h:Int
inductive DRel (S:Ss) (e:Ev) (S':Ss) (v:Value) (w':World):Prop
 | long:2000<e.s.length→v=B6 16→S'=S→DRel S e S' v w'
 | keys (vs:List (List UInt8 × Value)):e.s.length≤2000→e.kind=1→KRun { S with cop:=(Cc S.cop S.pre e.s).cop,pre:=(Cc S.cop S.pre e.s).pre } (Cc S.cop S.pre e.s).ks S' vs→((∀p∈vs,p.2=.nilIface)→v=.nilIface) →
   (∀word c,vs=[(word,B6 c)]→∃b b2,v=.iface 190 (.pointer (some ⟨b,0,none⟩))∧w'.heap[b]?=some (.cells #[.iface 193 (.pointer (some ⟨b2,0,none⟩)),.int .i64 0] 192)∧w'.heap[b2]?=some (.cells #[B6 c,.string (Aq word)] 195))→DRel S e S' v w'
 | outN:e.s.length≤2000→e.kind=2→v=B6 12→S'=S→(∀W,S.get e.win=some W→e.pane∉W.pts.map (·.id))→DRel S e S' v w'
 | outY (W:Wn) (p q:Pt) (b:Int):e.s.length≤2000→e.kind=2→v=.nilIface→S.get e.win=some W→p∈W.pts→p.id=e.pane→q.ent=p.ent→q.W=p.W→q.H=p.H →
   (q.M.S,q.T.kept,q.T.E)=({ (BW (p.M.S,p.T.kept,p.T.E) [e.s]).1 with gone:=[] },(BW (p.M.S,p.T.kept,p.T.E) [e.s]).2.1,(BW (p.M.S,p.T.kept,p.T.E) [e.s]).2.2)→(S.back≤0→b=0)→S'={ S with wins:=BD S.wins { W with pts:=Be W.pts q },back:=b }→DRel S e S' v w'
 | sizeA:e.s.length≤2000→e.kind=3→¬(1≤e.w∧e.w≤200∧2≤e.h∧e.h≤60)→v=B6 1→S'=S→DRel S e S' v w'
 | sizeN:e.s.length≤2000→e.kind=3→(1≤e.w∧e.w≤200∧2≤e.h∧e.h≤60)→v=B6 19→S'=S→DRel S e S' v w'
 | sizeY (wl:List Wn):e.s.length≤2000→e.kind=3→(1≤e.w∧e.w≤200∧2≤e.h∧e.h≤60)→v=.nilIface→S'={ S with w:=e.w,h:=e.h,wins:=wl }→wl.map (·.n)=S.wins.map (·.n)→(∀V∈wl,∃W∈S.wins,V.n=W.n∧V.L.root=W.L.root∧V.active=W.active)→DRel S e S' v w'
 | kind:e.s.length≤2000→e.kind≠1→e.kind≠2→e.kind≠3→v=B6 18→S'=S→DRel S e S' v w'
section
variable {base:Nat} {w w' w'':World} {s:Nat} {S:Ss} {lim:Int}
structure Ss.fresh (S:Ss) (x y room:Int):Prop where
 w:S.w=x
 h:S.h=y
 room:S.room=room
 cur:S.cur=1
 cop:S.cop=false
 pre:S.pre=false
 back:S.back=0
 typed:S.typed=[]
 wins:∃V,S.wins=[V]∧V.n=1∧V.active=1∧∃t,V.L.root=.pane t 1
 nw:∀W∈S.wins,∀p∈W.pts,p.new
theorem QW(w:World)(x y a:Int):Calls prog 6 #[.int .i64 x,.int .i64 y,.int .i64 a] w
  (Ac λv w'=>(¬(1≤x∧x≤200∧2≤y∧y≤60)∧v=.pointer none∧w'=w)∨((1≤x∧x≤200∧2≤y∧y≤60)∧∃s S,v=.pointer (some ⟨s,0,none⟩)∧SsAt w.heap.size w' s S∧S.ok 1∧S.fresh x y a∧Chg [] w w')):=by
 apply VH;intro K b;unfold NZ;refine td Z2 rfl (bO w x y) ?_;rintro v c ⟨rfl,rfl⟩;by_cases d:1≤x∧x≤200∧2≤y∧y≤60
 ·rw[decide_eq_true d];obtain⟨e,f,g,h⟩:=d;refine sn ?_;refine OpX.gen λw2 i=>?_;have j:Chg [] c w2:=by rw[i];exact sy
  have k:w2.heap.size=c.heap.size+2:=by rw[i];exact so
  have l:w2.heap[c.heap.size]?=some (.map #[] 0):=by rw[i];exact so
  have m:w2.heap[c.heap.size+1]?=some (.cells #[.int .i64 x,.int .i64 y,.int .i64 a,.map (some c.heap.size),.int .i64 1,.bool false,.bool false,.int .i64 0,.slice none 0 0,.int .i64 0] 70):=by rw[i];exact so
  clear i;have o:(c.alloc (Obj.map #[] 0)).heap.size=c.heap.size+1:=by exact so
  refine td gJ rfl (WJ w2 x (y-1) a e f O O) ?_;rintro v p ⟨q,rfl,r,t,u,z,A,B,C,D,E⟩;have F:=D.keep l Z;have G:=D.keep m Z;obtain⟨H,hS0⟩:∃H:Ss,H=⟨x,y,a,c.heap.size,0,[],1,false,false,0,[],.slice none 0 0,0⟩:=⟨_,rfl⟩;have I:SsAt c.heap.size w2 (c.heap.size+1) H:=by
   rw[hS0];exact⟨m,l,Z,Z,Z,Ox.nil _ _ _ _ _,O,by dsimp only;omega,Z,Z,Z⟩
  have J:BH ([]:AQ) 1=none:=rfl;have L:DV ([]:AQ) 1 0=0+1:=rfl;have M:p.heap[c.heap.size]?=some (.map (AE .i64 []) 0):=F;rw[o];simp -dsimp (disch:=first|omega|(simp only[go_sem,seval];try omega))only[go_sem,seval,G,M,Pz J,L];obtain⟨V,hVe⟩:∃V:Wn,V={ q with n:=1,born:=0 }:=⟨_,rfl⟩;have N:WnAt w2.heap.size p V:=by rw[hVe];exact⟨r.hb,r.lay,r.hm,r.each,r.apart,r.ids,r.lo⟩
  have P:V.ok:=by rw[hVe];exact⟨t.lay,t.act,t.has,t.size⟩
  obtain⟨Q,R⟩:=I.addWin D (N.base_le O) (λx T=>N.lo x T) (by rw[hVe,hS0]) (by rw[hS0];simp) O;subst hS0;rw[show V.ent=((1:Int),Value.pointer (some ⟨q.b,0,none⟩),0) by rw[hVe];rfl] at Q R;refine b _ _ (.inr ⟨⟨e,f,g,h⟩,c.heap.size+1,_,rfl,Q,⟨e,f,g,h,λW U=>?_,?_,Int.le_refl _,by show(0:Int)≤1000;decide,Z,Int.le_refl _,by show(0:Int)≤1;decide⟩,⟨rfl,rfl,rfl,rfl,rfl,rfl,rfl,rfl,⟨V,rfl,by rw[hVe],by rw[hVe];exact u,by rw[hVe];exact C⟩,λU W=>by rw[List.nil_append,List.mem_singleton] at W;rw[W,hVe];exact E⟩,?_⟩)
  ·simp only[List.nil_append,List.mem_singleton] at U;subst U;exact⟨P,by rw[hVe];exact A,by rw[hVe];dsimp only;omega,by rw[hVe];dsimp only;decide⟩
  ·simp [hVe]
  ·exact R.base j I.lo
 ·rw[decide_eq_false d];refine sn ?_;exact b _ _ (.inl ⟨d,rfl,rfl⟩)
end
def D8(n m k:Int):Int:=k+(n.tmod m+m).tmod m
theorem Re{n m k:Int}(h:0<m):k≤D8 n m k∧D8 n m k<m+k:=by
 have a:=Int.lt_tmod_of_pos n h;have b:=Int.tmod_nonneg m (show 0≤n.tmod m+m by omega);have c:=Int.tmod_lt_of_pos (n.tmod m+m) h;unfold D8;omega
set_option maxRecDepth 100000
def Ns(a b:Value)(K:rD):rE:=xA 50 λc=>xO .eql 28 a (.pointer none) λd=>xW d (xQ (.build 50 #[]) 50 λd=>xS 50 c d<|xD 50 c λd=>K d)<|xC 30 [.const a] [28] 26 λd=>xE d 0 3 λe=>xE d 1 3 λd=>xC 31 [.const e,.const d] [3,3] 50 λf=>xA 50 λg=>xS 50 g f<|xC 18 [.const a] [28] 3 λf=>xC 8 [.const a,.const f] [28,3] 36 λh=>xU h 36 λi=>Loop1 (.int .i64 0) λj l=>xO .lss 3 j i λi=>xW i (xI 36 h j λi=>xL 44 i λi=>xA 44 λh=>xS 44 h i<|Ag<|qL 50 g λi=>qF 44 h 0 λm=>qL 3 m λm=>qF 44 h 1 λn=>qF 42 n 0 λn=>qL 3 n λo=>qF 44 h 1 λh=>qF 42 h 1 λh=>qL 3 h λp=>xC 33 [.const a,.const f,.const m] [28,3,3] 50 λm=>xT (qZ 3 h p)<|xT (qZ 3 n o)<|xT (qZ 50 g i)<|xC 32 [.const i,.const m,.const o,.const p] [50,50,3,3] 50 λm=>xS 50 g m<|xO .add 3 j (.int .i64 1) λm=>l m)<|xC 34 [.const a,.const f] [28,3] 110 λm=>xU m 110 λl=>Loop1 (.int .i64 0) λf j=>xO .lss 3 f l λl=>xW l (xI 110 m f λl=>xL 42 l λl=>xA 42 λm=>xS 42 m l<|xC 35 [] [] 60 λl=>xA 60 λp=>xS 60 p l<|xF 60 p 0 λl=>xS 21 l (.int .i32 45)<|Join0 (λl=>xF 42 m 2 λh=>xL 3 h λh=>xO .eql 3 h (.int .i64 1) λh=>xW h (xF 60 p 0 λh=>xS 21 h (.int .i32 124)<|l)<|l)<|xL 50 g λh=>xL 42 m λm=>xL 60 p λp=>xC 36 [.const h,.const m,.const p] [50,42,60] 50 λp=>xS 50 g p<|xO .add 3 f (.int .i64 1) λp=>j p)<|Ag<|qL 50 g λp=>qP .sub 3 d (.int .i64 1) λd=>xC 14 [.const a,.const b] [28,3] 9 λj=>xT (qZ 50 g p)<|xC 38 [.const e,.const j] [3,9] 48 λj=>xT (qZ 50 g p)<|xC 37 [.const p,.const (.int .i64 0),.const d,.const j] [50,3,3,48] 50 λj=>xS 50 c j<|xD 50 c λj=>K j
theorem TN(a b:Value):Lk 11 #[a,b] (Ns a b):=lk [a,b] [(20,[31]),(37,[53]),(52,[])] func11
theorem ZX:Ad prog 11:=bd func11
def Oz(a b:Value)(K:rD):rE:=xO .eql 28 a (.pointer none) λc=>xW c (K (.string { data:=#[] }))<|xC 40 [.const a] [28] 117 λc=>xU c 117 λd=>Loop2 (.string { data:=#[] }) (.int .i64 0) λe f g=>xO .lss 3 f d λd=>xW d (xI 117 c f λd=>xL 3 d λd=>Join1 (λc=>xC 18 [.const a] [28] 3 λh=>xO .eql 3 d h λh=>xW h (c (.string { data:=#[42] }))<|c (.string { data:=#[] })) λh=>xC 42 [.const d] [3] 9 λd=>xQ (.buildSlice 170 4 #[(0,.const e),(1,.const (.string { data:=#[32] })),(2,.const d),(3,.const h)]) 170 λd=>xC 41 [.const d] [170] 9 λd=>xO .add 3 f (.int .i64 1) λf=>g d f)<|Join1 (λf=>xC 43 [.const a] [28] 4 λd=>xW d (xC 44 [.const a] [28] 3 λd=>xC 42 [.const d] [3] 9 λd=>xQ (.buildSlice 170 3 #[(0,.const e),(1,.const (.string { data:=#[32,99,111,112,121,32] })),(2,.const d)]) 170 λd=>xC 41 [.const d] [170] 9 λd=>f d)<|f e) λd=>Join1 (λf=>xO .gtr 3 b (.int .i64 0) λe=>xW e (xC 42 [.const b] [3] 9 λe=>xQ (.buildSlice 170 3 #[(0,.const d),(1,.const (.string { data:=#[32,104,97,110,100,115,32] })),(2,.const e)]) 170 λe=>xC 41 [.const e] [170] 9 λe=>f e)<|f d) λe=>K e
theorem Wo(a b:Value):Lk 14 #[a,b] (Oz a b):=lk [a,b] [(16,[5,14]),(29,[8]),(37,[5]),(43,[5])] func14
theorem R0:Ad prog 14:=bd func14
def LX(a b:Value)(K:rD):rE:=xQ (.makeSlice 48 (.const a) (.const a)) 48 λc=>xU c 48 λd=>Loop1 (.int .i64 0) λe f=>xO .lss 3 e d λd=>xW d (xC 35 [] [] 60 λd=>xI 48 c e λg=>xS 60 g d<|Join0 (λg=>xU b 9 λd=>xO .lss 3 e d λd=>xW d (xQ (.index 9 (.const b) (.const e)) 5 λd=>xQ (.convert 5 21 (.const d)) 21 λd=>xI 48 c e λh=>xF 60 h 0 λh=>xS 21 h d<|g)<|g)<|xI 48 c e λh=>xF 60 h 3 λh=>xS 5 h (.int .u8 32)<|xO .add 3 e (.int .i64 1) λh=>f h)<|K c
theorem dK(a b:Value):Lk 38 #[a,b] (LX a b):=lk [a,b] [(8,[11]),(21,[])] func38
theorem dI:Ad prog 38:=bd func38
def Rq(a:Value)(K:rD):rE:=xU a 170 λb=>Loop2 (.int .i64 0) (.int .i64 0) λc d e=>xO .lss 3 d b λb=>xW b (xI 170 a d λb=>xL 9 b λb=>xU b 9 λb=>xO .add 3 c b λb=>xO .add 3 d (.int .i64 1) λd=>e b d)<|xQ (.makeSlice 171 (.const (.int .i64 0)) (.const c)) 171 λd=>xU a 170 λb=>Loop2 d (.int .i64 0) λd e c=>xO .lss 3 e b λb=>xW b (xI 170 a e λb=>xL 9 b λb=>xV d b 171 9 171 λb=>xO .add 3 e (.int .i64 1) λe=>c b e)<|xQ (.convert 171 9 (.const d)) 9 λe=>K e
theorem jk(a:Value):Lk 41 #[a] (Rq a):=lk [a] [(8,[3,11]),(27,[6,24])] func41
theorem Kj:Ad prog 41:=bd func41
def MG(a:Value)(K:rD):rE:=xA 171 λb=>xA 135 λc=>xQ (.makeFunc (.func 87) #[] #[.const c,.const b]) 135 λd=>xS 135 c d<|xL 135 c λd=>xQ (.call { callee:=.value (.const d),args:=#[.const a],argTypes:=#[3] }) 0 λ_=>xL 171 b λd=>xQ (.convert 171 9 (.const d)) 9 λd=>K d
theorem Y5(a:Value):Lk 42 #[a] (MG a):=lk [a] [] func42
theorem JG:Ad prog 42:=bd func42
def MJ(a b c:Value)(K:rD):rE:=Join0 (λd=>xO .geq 3 a (.int .i64 10) λe=>xW e (xL 135 b λe=>xO .quo 3 a (.int .i64 10) λf=>xQ (.call { callee:=.value (.const e),args:=#[.const f],argTypes:=#[3] }) 0 λ_=>d)<|d)<|xL 171 c λf=>xO .rem 3 a (.int .i64 10) λe=>xO .add 3 (.int .i64 48) e λe=>xQ (.convert 3 5 (.const e)) 5 λe=>xQ (.buildSlice 171 1 #[(0,.const e)]) 171 λe=>xV f e 171 171 171 λe=>xS 171 c e<|K (.tuple #[])
theorem fL(a b c:Value):Lk 87 #[a,b,c] (MJ a b c):=lk [a,b,c] [(0,[])] func87
theorem MS:Ad prog 87:=bd func87
def RT(a b c:Value)(K:rD):rE:=xB 23 a λd=>xC 4 [] [] 4 λe=>xL 23 d λd=>xC 5 [.const d] [23] 26 λd=>xE d 0 3 λf=>xE d 1 3 λd=>xC 6 [.const f,.const d,.const (.int .i64 6)] [3,3,3] 28 λd=>xO .eql 28 d (.pointer none) λf=>xW f (K (.bool false))<|Loop1 (.int .i64 0) λf g=>xO .lss 3 f (.int .i64 6) λh=>xW h (Join1 (λh=>xO .mul 3 (.int .i64 2) f λi=>xQ (.convert 3 30 (.const i)) 30 λi=>xO .shr 3 b i λi=>xO .and 3 i (.int .i64 1) λi=>xO .eql 3 i (.int .i64 1) λi=>xW i (h (.string { data:=#[2,34] }))<|h (.string { data:=#[2,37] })) λi=>Join1 (λh=>xO .mul 3 (.int .i64 2) f λj=>xO .add 3 j (.int .i64 1) λj=>xQ (.convert 3 30 (.const j)) 30 λj=>xO .shr 3 b j λj=>xO .and 3 j (.int .i64 1) λj=>xO .eql 3 j (.int .i64 1) λj=>xW j (xO .add 9 i (.string { data:=#[2,111] }) λj=>h j)<|h i) λj=>xQ (.build 35 #[(0,.const (.int .i64 1)),(3,.const j)]) 35 λj=>xC 7 [.const d,.const j] [28,35] 32 λ_=>xO .add 3 f (.int .i64 1) λj=>g j)<|xC 8 [.const d,.const (.int .i64 1)] [28,3] 36 λj=>Loop2 (.slice none 0 0) (.int .i64 0) λg f h=>xU j 36 λi=>xO .lss 3 f i λi=>xW i (Ag<|xP (.indexAddr 36 (.const j) (.const f)) 0 λi=>qF 44 i 1 λi=>qF 42 i 2 λi=>qL 3 i λi=>xP (.indexAddr 36 (.const j) (.const f)) 0 λl=>qF 44 l 1 λl=>qF 42 l 3 λl=>qL 3 l λl=>xC 9 [.const i,.const l,.const (.int .i64 6)] [3,3,3] 39 λl=>xQ (.buildSlice 38 1 #[(0,.const l)]) 38 λl=>xV g l 38 38 38 λl=>xO .add 3 f (.int .i64 1) λf=>h l f)<|xU j 36 λf=>xO .eql 3 f (.int .i64 0) λf=>xW f (K (.bool false))<|Loop1 (.int .i64 0) λf l=>Join1 (λh=>xU c 24 λi=>xO .lss 3 f i λi=>xW i (xO .lss 3 f (.int .i64 20) λi=>h i)<|h (.bool false)) λi=>xW i (xI 24 c f λi=>xF 46 i 0 λi=>xL 3 i λi=>xU j 36 λh=>xO .rem 3 i h λh=>xU j 36 λi=>xO .add 3 h i λi=>xU j 36 λh=>xO .rem 3 i h λh=>xI 24 c f λi=>xF 46 i 1 λi=>xL 9 i λi=>Join1 (λm=>xU i 9 λn=>xO .gtr 3 n (.int .i64 30) λn=>xW n (xQ (.slice 9 (.const i) none (some (.const (.int .i64 30))) none) 9 λn=>m n)<|m i) λn=>xI 36 j h λm=>xF 44 m 0 λm=>xL 3 m λm=>xQ (.build 35 #[(0,.const (.int .i64 2)),(1,.const (.int .i64 1)),(2,.const m),(3,.const n)]) 35 λm=>xC 7 [.const d,.const m] [28,35] 32 λ_=>xI 38 g h λm=>xL 39 m λm=>xC 10 [.const m,.const n] [39,9] 0 λ_=>xO .add 3 f (.int .i64 1) λm=>l m)<|xC 11 [.const d,.const (.int .i64 0)] [28,3] 50 λm=>xA 50 λl=>xS 50 l m<|Loop1 (.int .i64 0) λm d=>xU j 36 λn=>xO .lss 3 m n λn=>xW n (xI 36 j m λn=>xF 44 n 1 λn=>xL 42 n λn=>xA 42 λj=>xS 42 j n<|xI 38 g m λn=>xL 39 n λn=>xH n λn=>xF 57 n 2 λn=>xL 54 n λn=>xC 12 [.const n] [54] 50 λn=>xA 50 λg=>xS 50 g n<|Loop1 (.int .i64 0) λn f=>xF 42 j 3 λh=>xL 3 h λh=>xO .lss 3 n h λh=>xW h (Loop1 (.int .i64 0) λh i=>xF 42 j 2 λo=>xL 3 o λo=>xO .lss 3 h o λo=>xW o (Ag<|qL 50 l λo=>qF 42 j 0 λl=>qL 3 l λl=>qP .add 3 l h λl=>qF 42 j 1 λj=>qL 3 j λj=>qP .add 3 j n λj=>qL 50 g λp=>xC 13 [.const o,.const l,.const j] [50,3,3] 60 λj=>xT (qZ 50 g p)<|xC 13 [.const p,.const h,.const n] [50,3,3] 60 λp=>qR .neq 60 j p λp=>xW p (K (.bool false))<|xO .add 3 h (.int .i64 1) λp=>i p)<|xO .add 3 n (.int .i64 1) λp=>f p)<|xO .add 3 m (.int .i64 1) λp=>d p)<|K e
theorem Xx(a b c:Value):Lk 3 #[a,b,c] (RT a b c):=lk [a,b,c] [(20,[11]),(31,[12]),(37,[12]),(53,[14,15]),(76,[16]),(79,[95]),(89,[18]),(105,[20]),(121,[23]),(133,[24])] func3
def Q7(K:rD):rE:=xC 6 [.const (.int .i64 9),.const (.int .i64 4),.const (.int .i64 5)] [3,3,3] 28 λa=>xQ (.build 35 #[(0,.const (.int .i64 1)),(3,.const (.string { data:=#[2,37] }))]) 35 λb=>xC 7 [.const a,.const b] [28,35] 32 λ_=>xC 14 [.const a,.const (.int .i64 0)] [28,3] 9 λb=>xO .eql 9 b (.string { data:=#[32,49,42] }) λb=>K b
theorem dm:Lk 4 #[] (Q7):=lk [] [] func4
theorem jE:Ad prog 4:=bd func4
def On(a:Value)(K:rD):rE:=xB 23 a λb=>Ag<|qF 23 b 0 λc=>qL 3 c λc=>qP .rem 3 c (.int .i64 40) λc=>qP .add 3 c (.int .i64 40) λc=>qP .rem 3 c (.int .i64 40) λc=>qP .add 3 (.int .i64 1) c λc=>qF 23 b 1 λb=>qL 3 b λb=>qP .rem 3 b (.int .i64 19) λb=>qP .add 3 b (.int .i64 19) λb=>qP .rem 3 b (.int .i64 19) λb=>qP .add 3 (.int .i64 2) b λb=>K (.tuple #[c,b])
theorem XU(a:Value):Lk 5 #[a] (On a):=lk [a] [] func5
theorem gN:Ad prog 5:=bd func5
end Go.Proofs.YtnpkidnbhlepkaaGreat
namespace Lyc
open Go
section
variable {P:Program}
theorem Wt(l:List UInt8):Go.Lib.strCells (Aq l)=l.flatMap BC:=by rw[Qz];rfl
theorem eP{t u a e:TypeId}{base:Nat}{v:Value}{l m:List UInt8}{K:Value→World→Prop}{w:World}(b:BO P t=some (e,1,1))(c:(P.info? e).bind (·.zero)=some (.int .u8 0))(d:Ae P u=some 3)(h:Ox base w e 1 BC v l)(f:l.length+m.length≤1000000000)(g:base≤w.heap.size)(j:∀k w',Ox base w' e 1 BC k (l++m)→Chg v.ownBlock.toList w w'→K k w'):
  OpX P (.call { callee:=.builtin .append,args:=#[.const v,.const (.string (Aq m))],argTypes:=#[t,u] }) a K w:=by
 obtain⟨n,i,z,o,p,q,r,s,-⟩:=EA b;rw[o] at c;have c:i.zero=some (.int .u8 0):=c;have x:=h;unfold Ox at x;have y:(1000000000:Nat)≤maxLen:=by simp [maxLen]
 obtain⟨k,w',A,B,C,-⟩:=Go.Lib.run_append_own_string (P:=P) w base t u a e i n (FR d) o c q r v l.length _ x (Aq m) (by rw[GV];omega) (by rw[GV];omega) g;rw[Bc (v:=k) (w':=w') λρ D=>by simp [execOp,Ap,resolve,invoke,builtin,D.1,A]];refine j k w' ?_ (F8 C);unfold Ox;rw[rS,List.flatMap_append,←Wt m];rw[GV] at B;exact B
end
end Lyc
namespace Go.Proofs.YtnpkidnbhlepkaaGreat
open Lyc Go Go.Proofs.Tryz
def AU(n:Nat):List UInt8:=if h:n<10 then[UInt8.ofNat (48+n)] else AU (n / 10)++[UInt8.ofNat (48+n % 10)]
termination_by n
theorem KG:∀(k n:Nat),n<10 ^ (k+1)→(AU n).length≤k+1
 | 0,n,h=>by
  rw[AU,dif_pos (by simpa using h)];simp
 | k+1,n,h=>by
  rw[AU];split
  ·simp
  ·have:=KG k (n / 10) (by rw[Nat.div_lt_iff_lt_mul rC];rw[Nat.pow_succ] at h;exact h);simp only[rS,List.length_singleton];omega
structure DM (w0:World) (t3 t4:Nat) (w:World) (l:List UInt8):Prop where
 chg:Chg [t3] w0 w
 h3:∃v,w.heap[t3]?=some (.cells #[v] 171)∧Ox w0.heap.size w 5 1 BC v l
theorem jz{w0:World}{t3 t4:Nat}(l3:t3<w0.heap.size)(n34:t3≠t4)(h4:w0.heap[t4]?=some (.cells #[.func (.func 87) #[] #[.pointer (some ⟨t4,0,none⟩),.pointer (some ⟨t3,0,none⟩)]] 135)):
  ∀(n k:Nat) (w:World) (l:List UInt8),DM w0 t3 t4 w l→n<10 ^ (k+1)→n≤9223372036854775807→l.length+k≤100000000→Calls prog 87 #[.int .i64 n,.pointer (some ⟨t4,0,none⟩),.pointer (some ⟨t3,0,none⟩)] w (Ac λ_ w'=>DM w0 t3 t4 w' (l++AU n)):=by
 intro n
 induction n using Nat.strongRecOn with
 | _ n ih =>
  intro k w l h hk hn hl;have h4w:=h.chg.keep h4 (by simp;exact λe=>n34 e.symm);apply fL;intro K hK;unfold MJ;refine si (λw'=>DM w0 t3 t4 w' (if n<10 then l else l++AU (n / 10))) ?_ ?_
  ·refine sn ?_;refine sd (λg=>?_) (λg=>?_)
   ·have hlt:n / 10<n:=O;obtain⟨j,rfl⟩:∃j,k=j+1:=by
     cases k with
     | zero=>omega
     | succ j=>exact⟨j,rfl⟩
    have hq:=ih (n / 10) hlt j w l h (by rw[Nat.div_lt_iff_lt_mul rC];rw[Nat.pow_succ] at hk;exact hk) O O;have eq:(n:Int).tdiv 10=((n / 10:Nat):Int):=rfl;refine sr h4w eq ?_;refine OpX.callV (us:=[]) (cs:=[.pointer (some ⟨t4,0,none⟩),.pointer (some ⟨t3,0,none⟩)]) MS (Dg [_]) (se hq ?_);rintro v w1 h1;rw[rF O];exact h1
   ·rw[rG O];exact h
  ·intro w1 h1;obtain⟨v,a3,o3⟩:=h1.h3;obtain⟨a,c,rfl,-,-,-,-⟩:=o3.form;have em:(n:Int).tmod 10=((n % 10:Nat):Int):=rfl;have hmod:n % 10<10:=Nat.mod_lt _ rC;refine sr a3 em ?_;have hdl:=KG k n hk;have hdn:(if n<10 then l else l++AU (n / 10))++[UInt8.ofNat (48+n % 10)]=l++AU n:=by
    conv=>rhs;rw[AU]
    split
    ·rename_i h9;rw[Nat.mod_eq_of_lt h9]
    ·rw[rJ]
   have hql:(if n<10 then l else l++AU (n / 10)).length≤100000100:=by
    have:=congrArg List.length hdn;simp only[rS,List.length_singleton] at this;omega
   have hbv:((UInt8.ofNat (48+n % 10)).toNat:Int)=48+((n % 10:Nat):Int):=by
    rw[UInt8.toNat_ofNat'];omega
   generalize (if n<10 then l else l++AU (n / 10))=q at *;refine OpX.gen λw2 hw2=>?_;have hc2:Chg [] w1 w2:=by rw[hw2];exact sy
   have hsa:Sx w2 (some 5) BC (some ⟨w1.heap.size,0,none⟩) [UInt8.ofNat (48+n % 10)]:=Sx.built (c:=BC (UInt8.ofNat (48+n % 10))) (by rw[hw2];simp only[BC];rw[hbv];exact so) Z;clear hw2;have hz:=h1.chg.size;have hz2:=hc2.size;refine Bd IA Ny Ml (o3.chg0 hc2) hsa rfl (by rw[List.length_singleton];omega) O O ?_;intro v4 w4 ho4 hc4 hown4;have a34:=hc4.keep (hc2.keep a3 Z) (λhm=>by have:=o3.own_ge _ hm;omega);have l34:=Aa a34;obtain⟨a9,c9,rfl,-⟩:=ho4.form;refine sq a34 ?_;rw[hdn] at ho4;refine hK _ _ ⟨((h1.chg.trans0 hc2).trans hc4 (λx hx=>.inr (o3.own_ge x hx))).set _ _ Z,_,Aw _ _ _ _ rfl l34,?_⟩;rw[hdn];exact ho4.low ((sg [t3] _).set _ _ Z) (by simp;exact l3)
theorem J7(w:World)(n:Int)(h0:0≤n)(h1:n≤9223372036854775807):Calls prog 42 #[.int .i64 n] w (Ac λv w'=>v=.string (Aq (AU n.toNat))∧Chg [] w w'):=by
 obtain⟨m,rfl⟩:=Int.eq_ofNat_of_zero_le h0;apply Y5;intro K hK;unfold MG;refine sn ?_;refine OpX.gen λw1 hw1=>?_;have hc1:Chg [] w w1:=by rw[hw1];exact sy
 have hz1:w1.heap.size=w.heap.size+2:=by rw[hw1];exact so
 have a3:w1.heap[w.heap.size]?=some (.cells #[.slice none 0 0] 171):=by rw[hw1];exact so
 have a4:w1.heap[w.heap.size+1]?=some (.cells #[.func (.func 87) #[] #[.pointer (some ⟨w.heap.size+1,0,none⟩),.pointer (some ⟨w.heap.size,0,none⟩)]] 135):=by rw[hw1];exact so
 clear hw1;have hd:=jz (w0:=w1) (t3:=w.heap.size) (t4:=w.heap.size+1) O O a4 m 18 w1 [] ⟨sg _ _,_,a3,Ox.nil _ _ _ _ _⟩ O O Z;refine OpX.callV (us:=[]) (cs:=[.pointer (some ⟨w.heap.size+1,0,none⟩),.pointer (some ⟨w.heap.size,0,none⟩)]) MS (Dg [_]) (se hd ?_);rintro v w2 ⟨hc2,v3,b3,o3⟩;obtain⟨a9,c9,rfl,-,hs9,-,-⟩:=o3.form;rw[List.nil_append] at b3 hs9;refine sq b3 ?_;show OpX prog _ _ _ _;rw[KE (by kernel_rfl) (by kernel_rfl) hs9];exact hK _ _ ⟨rfl,hc1.trans hc2 Z⟩
theorem JE(w:World){e:Option TypeId}{a:Option Addr}{c:List (List UInt8)}(d:Sx w e bsF a c)(cap:Nat)(j:c.length≤8)(k:∀p∈c,p.length≤10000):Calls prog 41 #[.slice a c.length cap] w (Ac λv m=>v=.string (Aq c.flatten)∧Chg [] w m):=by
 have n:∀l:List (List UInt8),(∀p∈l,p.length≤10000)→l.flatten.length≤10000*l.length:=by
  intro l
  induction l with
  | nil=>simp
  | cons x l r =>
   intro h;have s:=h x Z;have t:=r λp u=>h p (by simp [u]);simp only[List.flatten_cons,rS,List.length_cons];omega
 apply jk;intro K z;unfold Rq;refine sn ?_;refine Loop2.st (λq:Nat=>.int .i64 ((c.take q).flatten.length:Int)) (λq=>.int .i64 (q:Int)) (λq m=>q≤c.length∧m=w) (λq=>c.length-q) 0 rfl rfl ⟨Z,rfl⟩ ?_;rintro next i A B ⟨C,rfl⟩
 have D:=n (c.take i) λp u=>k p (List.mem_of_mem_take u);rw[List.length_take] at D;refine sn ?_;refine sd (λg=>?_) (λg=>?_)
 ·have E:i<c.length:=O;obtain⟨b,o,rfl,F,G⟩:=d.get1 (g:=λl=>.string (Aq l)) (λ_=>rfl) (rI E);have H:=k _ (rR E);have I:(i:Int)+1=((i+1:Nat):Int):=O;have J:(c.take (i+1)).flatten.length=(c.take i).flatten.length+c[i].length:=by rw[Cd E,List.flatten_append];simp
  generalize c[i]=x at *;have L:((c.take i).flatten.length:Int)+(x.length:Int)=((c.take (i+1)).flatten.length:Int):=by rw[J];omega
  refine LX3 G I L ?_;exact B (i+1) _ ⟨O,rfl⟩ O
 have M:i=c.length:=O;subst M;rw[List.take_length] at D ⊢;refine Iy (f:=BC) (base:=A.heap.size) XX rfl O O rC rC (rH _) ?_;intro N Q R;have S:Chg [] A N:=by rw[Q];exact sy
 clear Q;generalize (((c.flatten.length:Nat):Int)).toNat=cp at R ⊢;refine sn ?_;refine Loop2.st (λq:Nat × Option Addr × Nat=>.slice q.2.1 (c.take q.1).flatten.length q.2.2) (λq=>.int .i64 (q.1:Int)) (λq m=>q.1≤c.length∧Chg [] A m∧Ox A.heap.size m 5 1 BC (.slice q.2.1 (c.take q.1).flatten.length q.2.2) (c.take q.1).flatten) (λq=>c.length-q.1) (0,some ⟨A.heap.size,0,none⟩,cp) rfl rfl ⟨Nat.zero_le _,S,R⟩ ?_;rintro T ⟨i,U,V⟩ W X ⟨C,Y,j⟩;dsimp only at C Y j ⊢;have s:=n (c.take i) λp u=>k p (List.mem_of_mem_take u);rw[List.length_take] at s;refine sn ?_;refine sd (λg=>?_) (λg=>?_)
 ·have E:i<c.length:=O;obtain⟨b,o,rfl,F,G⟩:=(d.chg0 Y).get1 (g:=λl=>.string (Aq l)) (λ_=>rfl) (rI E);have H:=k _ (rR E);have I:(i:Int)+1=((i+1:Nat):Int):=O;have J:(c.take (i+1)).flatten=(c.take i).flatten++c[i]:=by rw[Cd E,List.flatten_append];simp
  generalize c[i]=x at *;refine sq G ?_;refine eP IA (by kernel_rfl) (by kernel_rfl) j O (by have:=Y.size;omega) ?_;intro t r B L;rw[←J] at B;obtain⟨D,m,rfl,-⟩:=B.form;refine sq I ?_;exact X (i+1,D,m) _ ⟨by dsimp only;omega,Y.trans L (λy A=>.inr (j.own_ge y A)),B⟩ (by dsimp only;omega)
 ·have M:i=c.length:=O;subst M;rw[List.take_length] at j ⊢;obtain⟨D,m,N,-,Q,-,-⟩:=j.form;simp only[Value.slice.injEq] at N;obtain⟨rfl,-,rfl⟩:=N;show OpX prog _ _ _ _;rw[KE (by kernel_rfl) (by kernel_rfl) Q];exact z _ _ ⟨rfl,Y⟩
def BR(a:List Int)(b:Int):List UInt8:=(a.map λk=>[32]++AU k.toNat++(if k=b then[42] else[])).flatten
def CE(a:List Int)(b:Int)(c:Bool)(d e:Int):List UInt8:=
 BR a b++(if c then[32,99,111,112,121,32]++AU d.toNat else[])++(if 0<e then[32,104,97,110,100,115,32]++AU e.toNat else[])
theorem EC{n:Int}(h:n≤9223372036854775807):(AU n.toNat).length≤19:=KG 18 _ O
theorem Kf(a:Int):∀b:List Int,(∀k∈b,1≤k∧k≤9)→(BR b a).length≤30*b.length
 | [],_=>by simp [BR]
 | k::b,h=>by
  have c:=Kf a b λx d=>h x (by simp [d]);have f:=EC (n:=k) (by have:=h k Z;omega);have g:(if k=a then[42] else([]:List UInt8)).length≤1:=by split<;>simp
  have e:BR (k::b) a=([32]++AU k.toNat++(if k=a then[42] else[]))++BR b a:=rfl;rw[e];generalize (if k=a then[42] else([]:List UInt8))=m at *;simp only[rS,List.length_cons,List.length_nil];omega
section
variable {base:Nat} {w w':World} {s:Nat} {S:Ss} {lim:Int}
theorem Mc(h:SsAt base w s S)(ok:S.ok lim)(hands:Int)(hh:hands≤9223372036854775807):Calls prog 14 #[.pointer (some ⟨s,0,none⟩),.int .i64 hands] w
  (Ac λv w'=>∃ks,ks.Perm (S.wins.map (·.n))∧EZ ks∧v=.string (Aq (CE ks S.cur S.cop S.back hands))∧Chg [] w w'):=by
 have hlen:=h.len ok;apply Wo;intro K hK;unfold Oz;refine sn ?_;refine td kC rfl (WN h O) ?_;rintro v w1 ⟨ks,k1,k2,ko,hc1⟩;obtain⟨a,cap,rfl,-,hs,-,-⟩:=ko.form;have hkl:ks.length≤9:=by rw[k1.length_eq,List.length_map];exact hlen
 have hkb:∀k∈ks,1≤k∧k≤9:=λk hk=>by
  obtain⟨W,hW,e⟩:=List.mem_map.1 (k1.mem_iff.1 hk);have:=(ok.win W hW).2.2.2;omega
 refine sn ?_;refine Loop2.st (λq:Nat=>.string (Aq (BR (ks.take q) S.cur))) (λq=>.int .i64 (q:Int)) (λq w'=>q≤ks.length∧Chg [] w w'∧Chg [] w1 w') (λq=>ks.length-q) 0 rfl rfl ⟨Z,hc1,sg _ _⟩ ?_;rintro next i wi hn ⟨hi,hc,hci⟩
 have hsl:=Kf S.cur (ks.take i) λk hk=>hkb k (List.mem_of_mem_take hk);rw[List.length_take] at hsl;have hA:=h.chg0 hc;refine sn ?_;refine sd (λg=>?_) (λg=>?_)
 ·have hi':i<ks.length:=O;obtain⟨b,o,rfl,hbl,hcell⟩:=(hs.chg0 hci).get1 (g:=λn=>.int .i64 n) (λ_=>rfl) (rI hi');have hkm:=hkb _ (rR hi');have e1:(i:Int)+1=((i+1:Nat):Int):=O;have ht:BR (ks.take (i+1)) S.cur=[BR (ks.take i) S.cur,[32],AU ks[i].toNat,if ks[i]=S.cur then[42] else[]].flatten:=by unfold BR;rw[Cd hi',List.map_append,List.flatten_append];simp only[List.map_cons,List.map_nil,List.flatten_cons,List.flatten_nil,List.append_nil,rJ]
  generalize ks[i]=x at *;refine sq hcell ?_;refine sh (λv w'=>v=.string (Aq (if x=S.cur then[42] else[]))∧w'=wi) ?_ ?_
  ·refine td Gx rfl (G7 hA) ?_;rintro v w2 ⟨rfl,rfl⟩;refine sn ?_;refine sd (λg=>?_) (λg=>?_)
   ·rw[rG g];exact⟨rfl,rfl⟩
   ·rw[rF g];exact⟨rfl,rfl⟩
  ·rintro v w2 ⟨rfl,rfl⟩;refine td JG rfl (J7 w2 x O O) ?_;rintro v w3 ⟨rfl,hc3⟩;have hdl:=EC (n:=x) O;refine sn ?_;refine OpX.gen λw4 hw4=>?_;have hc4:Chg [] w3 w4:=by rw[hw4];exact sy
   have hsa:Sx w4 (some 9) bsF (some ⟨w3.heap.size,0,none⟩) [BR (ks.take i) S.cur,[32],AU x.toNat,if x=S.cur then[42] else[]]:=Sx.built (c:=bsF (BR (ks.take i) S.cur)++bsF [32]++bsF (AU x.toNat)++bsF (if x=S.cur then[42] else[])) (by rw[hw4];simp only[bsF];refine sn ?_;rfl) Z;clear hw4;have hall:∀p∈([BR (ks.take i) S.cur,[32],AU x.toNat,if x=S.cur then[42] else[]]:List (List UInt8)),p.length≤10000:=by
    intro p hp;simp only[rM,List.not_mem_nil,or_false] at hp;rcases hp with rfl|rfl|rfl|rfl
    ·omega
    ·simp
    ·omega
    ·split<;>simp
   refine td Kj rfl (JE w4 hsa 4 Z hall) ?_;rintro v w5 ⟨rfl,hc5⟩;rw[←ht];refine sq e1 ?_;exact hn (i+1) _ ⟨O,((hc.trans0 hc3).trans0 hc4).trans0 hc5,((hci.trans0 hc3).trans0 hc4).trans0 hc5⟩ O
 ·have hil:i=ks.length:=O;subst hil;rw[List.take_length] at hsl ⊢;have hb0:=ok.back0;have hb1:=ok.back1;have hbl:=EC (n:=S.back) O;refine sh (λv w'=>v=.string (Aq (BR ks S.cur++(if S.cop then[32,99,111,112,121,32]++AU S.back.toNat else[])))∧Chg [] w w') ?_ ?_
  ·refine td VY rfl (XY hA) ?_;rintro v w2 ⟨rfl,hc2⟩;have hc02:=hc.trans0 hc2;have hA2:=h.chg0 hc02;cases hcop:S.cop
   ·refine sn ?_;simp only[Bool.false_eq_true,if_false,List.append_nil];exact⟨trivial,hc02⟩
   ·refine sn ?_;refine td kb rfl (aL hA2) ?_;rintro v w3 ⟨rfl,rfl⟩;refine td JG rfl (J7 _ S.back O O) ?_;rintro v w4 ⟨rfl,hc4⟩;refine sn ?_;refine OpX.gen λw5 hw5=>?_;have hc5:Chg [] w4 w5:=by rw[hw5];exact sy
    have hsa:Sx w5 (some 9) bsF (some ⟨w4.heap.size,0,none⟩) [BR ks S.cur,[32,99,111,112,121,32],AU S.back.toNat]:=Sx.built (c:=bsF (BR ks S.cur)++bsF [32,99,111,112,121,32]++bsF (AU S.back.toNat)) (by rw[hw5];simp only[bsF];refine sn ?_;rfl) Z;clear hw5;have hall:∀p∈([BR ks S.cur,[32,99,111,112,121,32],AU S.back.toNat]:List (List UInt8)),p.length≤10000:=by
     intro p hp;simp only[rM,List.not_mem_nil,or_false] at hp;rcases hp with rfl|rfl|rfl
     ·omega
     ·simp
     ·omega
    refine td Kj rfl (JE w5 hsa 3 Z hall) ?_;rintro v w6 ⟨rfl,hc6⟩;refine⟨?_,((hc02.trans0 hc4).trans0 hc5).trans0 hc6⟩;simp
  ·rintro v w2 ⟨rfl,hc2⟩;have hcl:(if S.cop then[32,99,111,112,121,32]++AU S.back.toNat else([]:List UInt8)).length≤30:=by split<;>simp;omega
   have hhl:=EC hh;obtain⟨q,hq⟩:∃q,q=BR ks S.cur++(if S.cop then[32,99,111,112,121,32]++AU S.back.toNat else[]):=⟨_,rfl⟩;rw[←hq];have hql:q.length≤400:=by rw[hq,rS];omega
   have hfin:CE ks S.cur S.cop S.back hands=q++(if 0<hands then[32,104,97,110,100,115,32]++AU hands.toNat else[]):=by rw[hq];rfl
   refine sh (λv w'=>v=.string (Aq (CE ks S.cur S.cop S.back hands))∧Chg [] w w') ?_ (λv w' h=>hK _ _ ⟨ks,k1,k2,h⟩);rw[hfin];refine sn ?_;refine sd (λg=>?_) (λg=>?_)
   ·refine td JG rfl (J7 _ hands O hh) ?_;rintro v w4 ⟨rfl,hc4⟩;refine sn ?_;refine OpX.gen λw5 hw5=>?_;have hc5:Chg [] w4 w5:=by rw[hw5];exact sy
    have hsa:Sx w5 (some 9) bsF (some ⟨w4.heap.size,0,none⟩) [q,[32,104,97,110,100,115,32],AU hands.toNat]:=Sx.built (c:=bsF q++bsF [32,104,97,110,100,115,32]++bsF (AU hands.toNat)) (by rw[hw5];simp only[bsF];refine sn ?_;rfl) Z;clear hw5;have hall:∀p∈([q,[32,104,97,110,100,115,32],AU hands.toNat]:List (List UInt8)),p.length≤10000:=by
     intro p hp;simp only[rM,List.not_mem_nil,or_false] at hp;rcases hp with rfl|rfl|rfl
     ·omega
     ·simp
     ·omega
    refine td Kj rfl (JE w5 hsa 3 Z hall) ?_;rintro v w6 ⟨rfl,hc6⟩;rw[rG g];refine⟨?_,((hc2.trans0 hc4).trans0 hc5).trans0 hc6⟩;simp
   ·rw[rF g,List.append_nil];exact⟨rfl,hc2⟩
end
def B9(t:List UInt8)(x:Nat):Cel:=⟨(t[x]?.map λb=>(b.toNat:Int)).getD 32,0,0,32⟩
def F7(n:Nat)(t:List UInt8):List Cel:=Av n (B9 t)
def CS(r:Rc):Cel:=⟨if r.w=1 then 124 else 45,0,0,0⟩
theorem _root_.Lyc.Ox.open_{α:Type}{base:Nat}{w:World}{e:TypeId}{m:Nat}{f:α→List Value}{v:Value}{l:List α}(h:Ox base w e m f v l)(a:∀x,(f x).length=m){i:Nat}{x:α}(b:l[i]?=some x):
  ∃g c d j,v=.slice (some ⟨g,0,none⟩) l.length c∧base≤g∧g<w.heap.size∧d.length=i*m∧w.heap[g]?=some (.cells (d++f x++j).toArray e (0,0))∧∀y k,k.heap[g]?=some (.cells (d++f y++j).toArray e (0,0))→Ox base k e m f v (l.set i y):=by
 have n:i<l.length:=(rO.1 b).1;obtain⟨o,h⟩:=h;rcases h with ⟨rfl,p⟩|⟨g,c,q,rfl,r,s,t,u,z,A⟩
 ·omega
 ·have B:=λy=>Gy a l i x y b;obtain⟨d,j,C,D,-⟩:=B x;have E:∀y,(l.set i y).flatMap f=d++f y++j:=by
   intro y;obtain⟨F,G,H,I,J⟩:=B y;rw[J];have K:=C.symm.trans H;rw[rJ,rJ] at K;obtain⟨L,M⟩:=List.append_inj K O;obtain⟨N,P⟩:=List.append_inj M rfl;rw[←L,←P]
  have Q:q=(d++f x++(j++q.toList.drop (l.length*m))).toArray:=by
   have K:q.toList=l.flatMap f++q.toList.drop (l.length*m):=by rw[←A];simp
   apply Array.ext';rw[C] at K;simpa using K
  refine⟨g,c,d,j++q.toList.drop (l.length*m),rfl,r,Aa s,D,by rw[←Q];exact s,λy k R=>?_⟩;refine⟨by simp [AH a],.inr ⟨g,c,_,Z,r,R,by simpa using t,u,?_,?_⟩⟩
  ·have:=congrArg Array.size Q;simp [a] at this;simp [a];omega
  ·have S:(d++f y++j).length=(l.set i y).length*m:=by rw[←E,AH a]
   show(d++f y++(j++q.toList.drop (l.length*m))).take _=_;rw[E,←rJ,List.take_append_of_le_length O,List.take_of_length_le O]
theorem fQ(w:World)(n:Nat)(n1:n≤200)(t:List UInt8)(ht:t.length≤10000):Calls prog 38 #[.int .i64 n,.string (Aq t)] w (Ac λv w'=>Ox w.heap.size w' 60 4 Cel.cells v (F7 n t)∧Chg [] w w'):=by
 apply dK;intro K hK;unfold LX;refine DJ (z:=Cel.none) (f:=Cel.cells) (base:=w.heap.size) Fp Cel.len rfl O rC rC (rH _) ?_;intro w1 hw1 ho1;have hc1:Chg [] w w1:=by rw[hw1];exact sy
 clear hw1;refine sn ?_;refine Loop1.st (λq:Nat=>.int .i64 (q:Int)) (λq w'=>q≤n∧Chg [] w w'∧Ox w.heap.size w' 60 4 Cel.cells (.slice (some ⟨w.heap.size,0,none⟩) n n) (Av n λx=>if x<q then B9 t x else Cel.none)) (λq=>n-q) 0 rfl ⟨O,hc1,?_⟩ ?_
 ·have e:(Av n λx=>if x<0 then B9 t x else Cel.none)=List.replicate n Cel.none:=by
   unfold Av;simp only[Nat.not_lt_zero,if_false];exact List.map_const'.trans (by rw[List.length_range])
  rw[e];exact ho1
 rintro next i wi hn ⟨hi,hc,ho⟩
 refine sn ?_;refine sd (λg=>?_) (λg=>?_)
 ·have hi':i<n:=O;refine td Ei rfl (Ej wi) ?_;rintro v w2 ⟨rfl,hc2⟩;have ho2:=ho.chg0 hc2;have e1:(i:Int)+1=((i+1:Nat):Int):=O;have hll:(Av n λx=>if x<i then B9 t x else Cel.none).length=n:=AP _ _;obtain⟨gb,cap,pre,post,ev,hgb,hgl,hpre,hblk,hcl⟩:=ho2.open_ Cel.len (Dw hi');rw[hll] at ev;simp only[Value.slice.injEq,Option.some.injEq,Addr.mk.injEq,and_true,true_and] at ev;obtain⟨rfl,rfl⟩:=ev;rw[rF O] at hblk;generalize hgs:w.heap.size=gb at *;have hp1:Ao w2.heap[gb]? (i*4) Cel.blank.cells=some (.cells (pre++Cel.blank.cells++post).toArray 60):=by rw[hblk];exact Cw _ _ _ _ _ _ hpre rfl
  have hlast:∀y:Cel,Ao (some (.cells (pre++y.cells++post).toArray 60)) (i*4+3) [.int .u8 32]=some (.cells (pre++({ y with a:=32 }:Cel).cells++post).toArray 60):=by
   intro y;have:=Cw (pre++[.int .i32 y.r,.int .u8 y.fg.toNat,.int .u8 y.bg.toNat]) [.int .u8 y.a.toNat] [.int .u8 32] post 60 (i*4+3) (by simp;omega) rfl;simpa [Cel.cells] using this
  have hfst:∀(y:Cel) (r:Int),Ao (some (.cells (pre++y.cells++post).toArray 60)) (i*4) [.int .i32 r]=some (.cells (pre++({ y with r:=r }:Cel).cells++post).toArray 60):=by
   intro y r;have:=Cw pre [.int .i32 y.r] [.int .i32 r] ([.int .u8 y.fg.toNat,.int .u8 y.bg.toNat,.int .u8 y.a.toNat]++post) 60 (i*4) hpre rfl;simpa [Cel.cells] using this
  simp only[Cel.val,Cel.cells] at hp1 ⊢;refine sq hp1 ?_;have lg:=hgl;refine FB (F:=Join0 _ _) λw3 hw3=>?_;have hc3:Chg [gb] w2 w3:=by rw[hw3];exact sy
  have hb3:w3.heap[gb]?=some (.cells (pre++Cel.blank.cells++post).toArray 60):=by rw[hw3];simp only[Cel.cells,rJ,List.cons_append,List.nil_append];exact Aw _ _ _ _ rfl hgl
  clear hw3;refine si (λw'=>w'.heap[gb]?=some (.cells (pre++({ Cel.blank with r:=(B9 t i).r }:Cel).cells++post).toArray 60)∧Chg [gb] w2 w') ?_ ?_
  ·refine sn ?_;refine sd (λg9=>?_) (λg9=>?_)
   ·have hti:i<t.length:=O;have hch:chL (Aq t) i=some (.int .u8 t[i].toNat):=by rw[UY,rG O,Int.toNat_natCast,rI hti];rfl
    have hr:(B9 t i).r=(t[i].toNat:Int):=by unfold B9;rw[rI hti];rfl
    have hub:=t[i].toNat_lt;rw[hr];generalize t[i]=b at *;have l3:=Aa hb3;have hf3:=hfst Cel.blank (b.toNat:Int);rw[←hb3] at hf3;refine sr hch hf3 ?_;exact hc3.set _ _ Z
   ·have hr:B9 t i={ Cel.blank with a:=32 }:=by unfold B9;rw[List.getElem?_eq_none O];rfl
    rw[hr];exact⟨hb3,hc3⟩
  ·rintro w4 ⟨hb4,hc4⟩;have l4:=Aa hb4;have hl4:=hlast { Cel.blank with r:=(B9 t i).r };rw[←hb4] at hl4;refine sr hl4 e1 ?_;have hfin:=hcl { Cel.blank with r:=(B9 t i).r,a:=32 } (Ab w4 gb (.cells (pre++({ Cel.blank with r:=(B9 t i).r,a:=32 }:Cel).cells++post).toArray 60)) (Aw _ _ _ _ rfl l4);have hset:(Av n λx=>if x<i then B9 t x else Cel.none).set i { Cel.blank with r:=(B9 t i).r,a:=32 }=Av n λx=>if x<i+1 then B9 t x else Cel.none:=by
    refine NL hi' (by rw[rG O];rfl) λk hk hne=>?_;by_cases h9:k<i
    ·rw[rG h9,rG O]
    ·rw[rF h9,rF O]
   rw[hset] at hfin;simp only[Cel.cells,rJ,List.cons_append,List.nil_append] at hfin;refine hn (i+1) _ ⟨O,?_,hfin⟩ O;exact((hc.trans0 hc2).trans hc4 (λx hx=>.inr (by simp at hx;omega))).set _ _ (.inr O)
 ·have hil:i=n:=O;subst hil;refine hK _ _ ⟨?_,hc⟩;have e:(Av i λx=>if x<i then B9 t x else Cel.none)=F7 i t:=AX λx hx=>rG hx;rw[e] at ho;exact ho
end Go.Proofs.YtnpkidnbhlepkaaGreat
