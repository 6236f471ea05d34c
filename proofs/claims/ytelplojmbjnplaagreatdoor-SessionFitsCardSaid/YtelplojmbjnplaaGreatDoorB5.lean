/- Helpers of this claim, part 5: engine, translated functions, contracts, plain laws. -/
import Derived.Test.YtelplojmbjnplaaGreatDoorB0
import Derived.Test.YtelplojmbjnplaaGreatDoorB1
import Derived.Test.YtelplojmbjnplaaGreatDoorB4
import Derived.Test.YtelplojmbjnplaaGreatDoorRows
import Derived.Test.YtelplojmbjnplaaGreatDoorTie
import Derived.Test.YtelplojmbjnplaaGreatDoorCards
import Derived.Lib.SmallJoins
import Derived.LaidLaws
import Derived.LaidHandle
import Derived.SevenTiedAt
import Derived.Test.YtelplojmbjnplaaGreatDoorB2
set_option linter.unusedSimpArgs false
set_option linter.unusedVariables false
namespace Go.Proofs.YtelplojmbjnplaaGreatDoor
open Lyc Go
set_option maxRecDepth 100000
def OI (p0 p1:Value) (K:Value→World→Prop):World→Prop :=
 xB 23 p0 fun t2 =>
 xC 8 [] [] 4 fun t24 =>
 xL 23 t2 fun t26 =>
 xC 9 [.const t26] [23] 25 fun t27 =>
 xE t27 0 3 fun t28 =>
 xE t27 1 3 fun t29 =>
 xC 10 [.const t28,.const t29,.const (.int .i64 6)] [3,3,3] 27 fun t32 =>
 xO .eql 27 t32 (.pointer none) fun t34 =>
 xW t34
 (K (.bool false)) <|
 Loop1 (.int .i64 0) fun t9 next1 =>
 Join1 (fun k2 =>
 xU p1 43 fun t37 =>
 xO .lss 3 t9 t37 fun t38 =>
 xW t38
 (xO .lss 3 t9 (.int .i64 30) fun t41 =>
 k2 t41) <|
 k2 (.bool false)) fun t42 =>
 xW t42
 (xI 43 p1 t9 fun t48 =>
 xL 45 t48 fun t49 =>
 xC 17 [.const t49] [45] 33 fun t50 =>
 xC 11 [.const t32,.const t50] [27,33] 30 fun _ =>
 xC 18 [.const t32] [27] 25 fun t54 =>
 xE t54 0 3 fun t55 =>
 xE t54 1 3 fun t56 =>
 xC 16 [.const t32] [27] 40 fun t58 =>
 Loop2 (.bool false) (.int .i64 0) fun t11 t12 next3 =>
 xU t58 40 fun t61 =>
 xO .lss 3 t12 t61 fun t62 =>
 xW t62
 (xI 40 t58 t12 fun t68 =>
 xL 3 t68 fun t69 =>
 xC 14 [.const t32,.const t69] [27,3] 37 fun t70 =>
 Loop3 (.int .i64 0) (.bool false) (.int .i64 0) fun t13 t14 t16 next4 =>
 xU t70 37 fun t73 =>
 xO .lss 3 t16 t73 fun t74 =>
 xW t74
 (Ai <|
 Join1 (fun k5 =>
 xP (.indexAddr 40 (.const t58) (.const t12)) 0 fun t80 =>
 qL 3 t80 fun t81 =>
 xP (.indexAddr 37 (.const t70) (.const t16)) 0 fun t84 =>
 qF 51 t84 0 fun t85 =>
 qL 3 t85 fun t86 =>
 xT (xC 21 [.const t32,.const t81,.const t86] [27,3,3] 59 fun t87 =>
 xA 59 fun t17 =>
 xS 59 t17 t87 <|
 k5 t17) <|
 xA 59 fun t17_1 =>
 xT (qZ 3 t85 t86) <|
 xT (qZ 3 t80 t81) <|
 xC 21 [.const t32,.const t81,.const t86] [27,3,3] 59 fun t87_1 =>
 xS 59 t17_1 t87_1 <|
 k5 t17_1) fun t17_2 =>
 xL 59 t17_2 fun t88 =>
 xC 23 [.const t88] [59] 4 fun t89 =>
 Ai <|
 xP (.indexAddr 40 (.const t58) (.const t12)) 0 fun t94 =>
 qL 3 t94 fun t95 =>
 xP (.indexAddr 37 (.const t70) (.const t16)) 0 fun t98 =>
 qF 51 t98 0 fun t99 =>
 qL 3 t99 fun t100 =>
 xC 24 [.const t32,.const t95,.const t100] [27,3,3] 64 fun t101 =>
 xP (.extract (.const t101) 0) 3 fun t102 =>
 xP (.extract (.const t101) 1) 3 fun t103 =>
 xP (.extract (.const t101) 2) 4 fun _ =>
 Ai <|
 Join1 (fun k6 =>
 xP (.unOp .not 4 (.const t89)) 4 fun t106 =>
 xW t106
 (k6 (.bool true)) <|
 qF 59 t17_2 0 fun t108 =>
 qL 3 t108 fun t109 =>
 xP (.indexAddr 37 (.const t70) (.const t16)) 0 fun t112 =>
 qF 51 t112 1 fun t113 =>
 qF 49 t113 2 fun t114 =>
 qL 3 t114 fun t115 =>
 qR .neq 3 t109 t115 fun t116 =>
 xW t116
 (k6 (.bool true)) <|
 qF 59 t17_2 1 fun t119 =>
 qL 3 t119 fun t120 =>
 xP (.indexAddr 37 (.const t70) (.const t16)) 0 fun t123 =>
 qF 51 t123 1 fun t124 =>
 qF 49 t124 3 fun t125 =>
 qL 3 t125 fun t126 =>
 qR .neq 3 t120 t126 fun t127 =>
 xW t127
 (k6 (.bool true)) <|
 qP .lss 3 t102 (.int .i64 0) fun t131 =>
 xW t131
 (k6 (.bool true)) <|
 qF 59 t17_2 0 fun t135 =>
 qL 3 t135 fun t136 =>
 qP .geq 3 t102 t136 fun t137 =>
 xW t137
 (k6 (.bool true)) <|
 qP .lss 3 t103 (.int .i64 0) fun t141 =>
 xW t141
 (k6 (.bool true)) <|
 qF 59 t17_2 1 fun t145 =>
 qL 3 t145 fun t146 =>
 qP .geq 3 t103 t146 fun t147 =>
 k6 t147) fun t148 =>
 xW t148
 (K (.bool false)) <|
 xF 59 t17_2 0 fun t150 =>
 xL 3 t150 fun t151 =>
 xF 59 t17_2 1 fun t152 =>
 xL 3 t152 fun t153 =>
 xO .mul 3 t151 t153 fun t154 =>
 xO .add 3 t13 t154 fun t155 =>
 Ai <|
 Join1 (fun k7 =>
 xW t14
 (k7 (.bool true)) <|
 xP (.indexAddr 37 (.const t70) (.const t16)) 0 fun t160 =>
 qF 51 t160 0 fun t161 =>
 qL 3 t161 fun t162 =>
 xP (.indexAddr 40 (.const t58) (.const t12)) 0 fun t166 =>
 qL 3 t166 fun t167 =>
 xC 15 [.const t32,.const t167] [27,3] 3 fun t168 =>
 xT (qZ 3 t161 t162) <|
 qR .eql 3 t162 t168 fun t169 =>
 k7 t169) fun t14_1 =>
 xO .add 3 t16 (.int .i64 1) fun t76 =>
 next4 t155 t14_1 t76) <|
 xI 40 t58 t12 fun t174 =>
 xL 3 t174 fun t175 =>
 xC 25 [.const t32,.const t175] [27,3] 66 fun t176 =>
 Loop2 t13 (.int .i64 0) fun t13_1 t23 next8 =>
 xU t176 66 fun t179 =>
 xO .lss 3 t23 t179 fun t180 =>
 xW t180
 (Ai <|
 xP (.indexAddr 66 (.const t176) (.const t23)) 0 fun t186 =>
 qF 49 t186 2 fun t187 =>
 qL 3 t187 fun t188 =>
 xP (.indexAddr 66 (.const t176) (.const t23)) 0 fun t191 =>
 qF 49 t191 3 fun t192 =>
 qL 3 t192 fun t193 =>
 qP .mul 3 t188 t193 fun t194 =>
 qP .add 3 t13_1 t194 fun t195 =>
 xO .add 3 t23 (.int .i64 1) fun t182 =>
 next8 t195 t182) <|
 Join1 (fun k9 =>
 xO .sub 3 t56 (.int .i64 1) fun t199 =>
 xO .mul 3 t55 t199 fun t200 =>
 xO .neq 3 t13_1 t200 fun t201 =>
 xW t201
 (k9 (.bool true)) <|
 xN 4 t14 fun t204 =>
 xW t204
 (k9 (.bool true)) <|
 xI 40 t58 t12 fun t209 =>
 xL 3 t209 fun t210 =>
 xO .lss 3 t210 (.int .i64 1) fun t211 =>
 xW t211
 (k9 (.bool true)) <|
 xI 40 t58 t12 fun t216 =>
 xL 3 t216 fun t217 =>
 xO .gtr 3 t217 (.int .i64 9) fun t218 =>
 k9 t218) fun t219 =>
 xW t219
 (K (.bool false)) <|
 Ai <|
 Join1 (fun k10 =>
 xW t11
 (k10 (.bool true)) <|
 xP (.indexAddr 40 (.const t58) (.const t12)) 0 fun t224 =>
 qL 3 t224 fun t225 =>
 xC 13 [.const t32] [27] 3 fun t227 =>
 xT (qZ 3 t224 t225) <|
 qR .eql 3 t225 t227 fun t228 =>
 k10 t228) fun t11_1 =>
 xO .add 3 t12 (.int .i64 1) fun t64 =>
 next3 t11_1 t64) <|
 Join1 (fun k11 =>
 xN 4 t11 fun t231 =>
 xW t231
 (k11 (.bool true)) <|
 xU t58 40 fun t234 =>
 xO .lss 3 t234 (.int .i64 1) fun t235 =>
 xW t235
 (k11 (.bool true)) <|
 xU t58 40 fun t239 =>
 xO .gtr 3 t239 (.int .i64 9) fun t240 =>
 k11 t240) fun t241 =>
 xW t241
 (K (.bool false)) <|
 xO .add 3 t9 (.int .i64 1) fun t44 =>
 next1 t44) <|
 K t24
theorem Wd (p0 p1:Value):Lk 6 #[p0,p1] (OI p0 p1):=lk [p0,p1] [(20,[9]),(23,[42]),(41,[11,12]),(60,[13,14,16]),(70,[17]),(77,[148]),(85,[14]),(93,[13,23]),(106,[219]),(112,[11]),(115,[241])] Tryz.func6
def Lx (K:Value→World→Prop):World→Prop :=
 xC 10 [.const (.int .i64 9),.const (.int .i64 4),.const (.int .i64 5)] [3,3,3] 27 fun t4 =>
 OpX Tryz.prog (.build 33 #[(0,.const (.int .i64 1)),(3,.const (.string { data:=#[2,37] }))]) 33 fun t6 =>
 xC 11 [.const t4,.const t6] [27,33] 30 fun t7 =>
 xC 14 [.const t4,.const (.int .i64 1)] [27,3] 37 fun t9 =>
 Join1 (fun k1 =>
 xC 12 [.const t7] [30] 34 fun t11 =>
 xO .eql 34 t11 (.int .i64 0) fun t12 =>
 xW t12
 (xU t9 37 fun t15 =>
 xO .eql 3 t15 (.int .i64 2) fun t16 =>
 xW t16
 (xI 37 t9 (.int .i64 0) fun t20 =>
 xF 51 t20 1 fun t21 =>
 xF 49 t21 2 fun t22 =>
 xL 3 t22 fun t23 =>
 xO .eql 3 t23 (.int .i64 4) fun t24 =>
 xW t24
 (xI 37 t9 (.int .i64 1) fun t28 =>
 xF 51 t28 1 fun t29 =>
 xF 49 t29 0 fun t30 =>
 xL 3 t30 fun t31 =>
 xO .eql 3 t31 (.int .i64 5) fun t32 =>
 xW t32
 (xI 37 t9 (.int .i64 1) fun t36 =>
 xF 51 t36 1 fun t37 =>
 xF 49 t37 3 fun t38 =>
 xL 3 t38 fun t39 =>
 xO .eql 3 t39 (.int .i64 3) fun t40 =>
 k1 t40) <|
 k1 (.bool false)) <|
 k1 (.bool false)) <|
 k1 (.bool false)) <|
 k1 (.bool false)) fun t0 =>
 K t0
theorem WJ:Lk 8 #[] (Lx):=lk [] [(9,[0])] Tryz.func8
theorem Tu:Ad Tryz.prog 8:=bd Tryz.func8
def Nf (p0:Value) (K:Value→World→Prop):World→Prop :=
 xB 23 p0 fun t1 =>
 Ai <|
 qF 23 t1 0 fun t4 =>
 qL 3 t4 fun t5 =>
 qP .rem 3 t5 (.int .i64 40) fun t6 =>
 qP .add 3 t6 (.int .i64 40) fun t7 =>
 qP .rem 3 t7 (.int .i64 40) fun t8 =>
 qP .add 3 (.int .i64 1) t8 fun t9 =>
 qF 23 t1 1 fun t10 =>
 qL 3 t10 fun t11 =>
 qP .rem 3 t11 (.int .i64 19) fun t12 =>
 qP .add 3 t12 (.int .i64 19) fun t13 =>
 qP .rem 3 t13 (.int .i64 19) fun t14 =>
 qP .add 3 (.int .i64 2) t14 fun t15 =>
 K (.tuple #[t9,t15])
theorem XY (p0:Value):Lk 9 #[p0] (Nf p0):=lk [p0] [] Tryz.func9
theorem TU:Ad Tryz.prog 9:=bd Tryz.func9
def NU (p0:Value) (K:Value→World→Prop):World→Prop :=
 xB 45 p0 fun t1 =>
 xA 33 fun t2 =>
 xF 45 t1 0 fun t4 =>
 xL 33 t4 fun t5 =>
 xA 33 fun t3 =>
 xS 33 t3 t5 <|
 Join0 (fun k1 =>
 xF 33 t3 3 fun t6 =>
 xL 9 t6 fun t7 =>
 xU t7 9 fun t8 =>
 xO .gtr 3 t8 (.int .i64 40) fun t9 =>
 xW t9
 (xF 33 t3 3 fun t10 =>
 xL 9 t10 fun t11 =>
 OpX Tryz.prog (.slice 9 (.const t11) none (some (.const (.int .i64 40))) none) 9 fun t12 =>
 xF 33 t3 3 fun t13 =>
 xS 9 t13 t12 <|
 k1) <|
 k1) <|
 Join0 (fun k2 =>
 xF 45 t1 1 fun t14 =>
 xL 4 t14 fun t15 =>
 xN 4 t15 fun t16 =>
 xW t16
 (xF 33 t3 0 fun t17 =>
 xL 3 t17 fun t18 =>
 xO .and 3 t18 (.int .i64 3) fun t19 =>
 xF 33 t3 0 fun t20 =>
 xS 3 t20 t19 <|
 xF 33 t3 1 fun t21 =>
 xL 3 t21 fun t22 =>
 xO .and 3 t22 (.int .i64 15) fun t23 =>
 xF 33 t3 1 fun t24 =>
 xS 3 t24 t23 <|
 xF 33 t3 2 fun t25 =>
 xL 3 t25 fun t26 =>
 xO .and 3 t26 (.int .i64 15) fun t27 =>
 xF 33 t3 2 fun t28 =>
 xS 3 t28 t27 <|
 xF 33 t3 4 fun t29 =>
 xL 3 t29 fun t30 =>
 xO .and 3 t30 (.int .i64 63) fun t31 =>
 xF 33 t3 4 fun t32 =>
 xS 3 t32 t31 <|
 xF 33 t3 5 fun t33 =>
 xL 3 t33 fun t34 =>
 xO .and 3 t34 (.int .i64 63) fun t35 =>
 xF 33 t3 5 fun t36 =>
 xS 3 t36 t35 <|
 k2) <|
 k2) <|
 xL 33 t3 fun t37 =>
 xS 33 t2 t37 <|
 xD 33 t2 fun t2_1 =>
 K t2_1
theorem Zf (p0:Value):Lk 17 #[p0] (NU p0):=lk [p0] [(4,[]),(10,[])] Tryz.func17
theorem Zw:Ad Tryz.prog 17:=bd Tryz.func17
theorem YB (w:World) (x y:Int):Calls Tryz.prog 9 #[.agg #[.int .i64 x,.int .i64 y]] w
  (Ac fun v w'=>v=.tuple #[.int .i64 (DO x 40 1),.int .i64 (DO y 19 2)]∧Chg [] w w'):=by
 have b1:=F7 x 40 (by omega)
 have b2:=F7 y 19 (by omega)
 have b3:=F7 (x.tmod 40+40) 40 (by omega)
 have b4:=F7 (y.tmod 19+19) 19 (by omega)
 apply XY
 intro K hK
 unfold Nf
 simp -dsimp (disch:=first|omega|(simp only[go_sem,seval];try omega))only[go_sem,seval]
 exact hK _ _ ⟨rfl,(Az _ _).drew⟩
theorem Z4 (w:World):Calls Tryz.prog 12 #[.nilIface] w (Ac fun v w'=>v=.int .i64 0∧Chg [] w w'):=by
 apply P9
 intro K hK
 unfold PG
 simp -dsimp (disch:=first|omega|(simp only[go_sem,seval];try omega))only[go_sem,seval]
 refine Join1.cut (fun v w'=>v=.bool false∧Chg [] w w') ?_ ?_
 ·simp -dsimp (disch:=first|omega|(simp only[go_sem,seval];try omega))only[go_sem,seval]
  exact Az _ _
 ·rintro v w1 ⟨rfl,hc⟩
  simp -dsimp (disch:=first|omega|(simp only[go_sem,seval];try omega))only[go_sem,seval]
  exact hK _ _ ⟨rfl,hc⟩
theorem DRel.key1 {S:Ss} {e:Ev} {S':Ss} {v:Value} {w':World} (h:DRel S e S' v w') (hl:e.s.length≤2000) (hk:e.kind=1) {k:Ky} {c p:Bool} (hks:BR S.cop S.pre e.s=⟨c,p,[k],[]⟩) :
  ∃word v0,KRel { S with cop:=c,pre:=p } k S' word v0∧(v0=.nilIface→v=.nilIface)∧(∀c,v0=AQ c→∃b b2,v=.iface 109 (.pointer (some ⟨b,0,none⟩))∧w'.heap[b]?=some (.cells #[.iface 112 (.pointer (some ⟨b2,0,none⟩)),.int .i64 0] 111)∧w'.heap[b2]?=some (.cells #[AQ c,.string (Au word)] 114)):=by
 cases h with
 | keys vs h1 h2 run h3 h4 =>
  rw[hks] at run
  obtain⟨word,v0,rel,rfl⟩:=run.one
  exact⟨word,v0,rel,fun e=>h3 (by simp [e]),fun c e=>h4 word c (by rw[e])⟩
 | long h=>omega
 | outN _ h=>omega
 | outY _ _ _ _ _ h=>omega
 | sizeA _ h=>omega
 | sizeN _ h=>omega
 | sizeY _ _ h=>omega
 | kind _ h=>exact absurd hk h
theorem aU (w:World):Calls Tryz.prog 8 #[] w (Ac fun v w'=>v=.bool true∧Chg [] w w'):=by
 apply WJ
 intro K hK
 unfold Lx
 refine OpX.call Pb rfl (Calls.ret (Mp w 9 4 5) ?_)
 rintro v w1 (⟨hno,-⟩|⟨-,s,S,rfl,A1,ok1,fr,hc1⟩)
 ·exact absurd ⟨by decide,by decide,by decide,by decide⟩ hno
 simp -dsimp (disch:=first|omega|(simp only[go_sem,seval];try omega))only[go_sem,seval]
 obtain⟨V,hw,hn,hact,t,hroot⟩:=fr.wins
 refine OpX.call LQ rfl (Calls.ret (J9 A1 ok1 hc1.size (by decide) ⟨1,0,0,[2,37],0,0⟩) ?_)
 rintro v w2 ⟨S',A2,ok2,T2,rel⟩
 have hc2:Chg [] w w2:=T2.base hc1 A1.lo
 have hks:BR S.cop S.pre [2,37]=⟨false,false,[⟨2,0,[]⟩],[]⟩:=by rw[fr.cop,fr.pre];rfl
 have hR0:=(ok1.win V (by rw[hw];simp)).2.1
 have hfin:v=.nilIface∧∃W',S'.get 1=some W'∧W'.L.root.panes W'.L.R=[(1,⟨0,0,4,3⟩),(V.L.newest+1,⟨5,0,4,3⟩)]:=by
  obtain⟨word,v0,rel,hv,-⟩:=rel.key1 (by decide) rfl hks
  obtain⟨W,hg,hcur,hd⟩:=rel.k2 rfl
  have hWV:W=V:=by
   have:=(Ss.get_mem hg).1
   rw[show({ S with cop:=false,pre:=false }:Ss).wins=S.wins from rfl,hw] at this
   simpa using this
  subst hWV
  rcases hd with ⟨e0,hcop,W',nb,n1,n2,R,hall,hn',hL,hwins⟩|hd
  ·refine⟨hv e0,W',?_,?_⟩
   ·unfold Ss.get
    rw[hwins]
    show(A6 S.wins W').find? _=_
    rw[hw]
    unfold A6
    simp [Wn.ent,hn',hn]
   ·rw[hroot] at hall
    simp only[Mt.all,List.mem_singleton,Prod.mk.injEq,Mt.pane.injEq] at hall
    obtain⟨⟨rfl,-⟩,rfl⟩:=hall
    rw[hL]
    unfold Cd
    rw[hroot,hR0,fr.w,fr.h,hact]
    dsimp only
    rw[Mt.put_self (by rfl)]
    rfl
  ·exfalso
   rcases hd with hd|⟨nb,R,hR,hlt⟩
   ·rw[hroot] at hd
    simp [Mt.ids] at hd
   ·rw[hroot] at hR
    simp only[Mt.all,List.mem_singleton,Prod.mk.injEq] at hR
    obtain⟨-,rfl⟩:=hR
    rw[hR0,fr.w] at hlt
    simp [Rc.len] at hlt
 obtain⟨rfl,W',hg',hp⟩:=hfin
 refine OpX.call Ja rfl (Calls.ret (J0 A2 hg' (ok2.win W' (Ss.get_mem hg').1).1) ?_)
 rintro v w3 ⟨ho,hc3⟩
 rw[hp] at ho
 obtain⟨a,cap,rfl,-,hs,-,-⟩:=ho.form
 have hc03:=hc2.trans0 hc3
 refine Join1.cut (fun v w'=>v=.bool true∧Chg [] w w') ?_ (fun v w' h=>hK _ _ h)
 refine OpX.call Qm rfl (Calls.ret (Z4 w3) ?_)
 rintro v w4 ⟨rfl,hc4⟩
 have hc04:=hc03.trans0 hc4
 obtain⟨b0,o0,e0,hb0,hcell0⟩:=(hs.chg0 hc4).get (m:=5) (fun _=>rfl) (i:=0) (x:=(1,⟨0,0,4,3⟩)) rfl
 obtain⟨b1,o1,e1,hb1,hcell1⟩:=(hs.chg0 hc4).get (m:=5) (fun _=>rfl) (i:=1) (x:=(V.L.newest+1,⟨5,0,4,3⟩)) rfl
 subst e0
 simp only[Option.some.injEq,Addr.mk.injEq,and_true] at e1
 obtain⟨rfl,rfl⟩:=e1
 have f0:Aw w4.heap[b0]? (o0+0*5+3)=some (.int .i64 4):=BE hcell0 3 (by omega)
 have f1:Aw w4.heap[b0]? (o0+1*5+1)=some (.int .i64 5):=BE hcell1 1 (by omega)
 have f3:Aw w4.heap[b0]? (o0+1*5+4)=some (.int .i64 3):=BE hcell1 4 (by omega)
 simp -dsimp (disch:=first|omega|(simp only[go_sem,seval];try omega))only[go_sem,seval,f0,f1,f3]
 exact hc04
end Go.Proofs.YtelplojmbjnplaaGreatDoor
namespace Go.Proofs.YtelplojmbjnplaaGreatDoor
open Lyc Go Go.Joins Go.ChangeShapes Go.WideShapes Go.ChangeAt Go.RowKit Go.Deep
set_option maxRecDepth 100000
theorem own:ownKnob Tryz.prog.godebug=none:=by kernel_rfl
theorem X8:laidOutB Tryz.prog=true:=by kernel_rfl
noncomputable def LP (os:Os):World :=
 let w0:=World.holding Tryz.prog os ⟨#[],#[],[]⟩
 { w0 with heap:=w0.heap.modify ((Tryz.prog.globalNamed "errors.errorType").getD 0) fun
   | .cells _ t frozen=>.cells #[.iface 207 (.agg #[typeHandle Tryz.prog 30])] t frozen
   | o=>o }
theorem R5 (os:Os) (args:Array Value):laidMetH Tryz.prog Rows.sessionTurnsRow.laid ((LP os).forCall (fun _ _=>0) ⟨#[],args,[]⟩).memory :=
 laidMetH_of_parts (laidMet_nil _ _) (by kernel_rfl)
theorem Uz {H:Type} {enc:TypeId × Value→H} {w:World} {base b0:Nat} {spare:Nat→Bool} {held:Bool} {v:Value} {d:DataW H} {p:List MemPlace} (hv:Value.okWide Tryz.prog w .any b0 23 v) (h:DataW.Trod enc Tryz.prog w base spare held 23 v d p):∃x y:Int,v=.agg #[.int .i64 x,.int .i64 y]:=by
 obtain⟨x0,x1,y0,y1,n,rfl,-,-,t0,t1⟩:=open_agg2 Tryz.underlying23 (by kernel_rfl) (by kernel_rfl) hv h
 obtain⟨k0,e0,-,-⟩:=DataW.trod_int Tryz.underlying3 t0
 obtain⟨k1,e1,-,-⟩:=DataW.trod_int Tryz.underlying3 t1
 cases e0;cases e1
 exact⟨k0,k1,rfl⟩
theorem TD {H:Type} {enc:TypeId × Value→H} {w:World} {base:Nat} {spare:Nat→Bool} {held:Bool} (n:Nat) (cs:List Value) (y:DataW H × List MemPlace) (h:DataW.trod enc Tryz.prog w base spare held n 33 cs=some y):∃e:Ev,cs=evF e∧True:=by
 have hlen:cs.length=6:=by
  obtain⟨-,-,-,-,hl,-⟩:=DataW.trod_struct Tryz.underlying33 h
  rw[hl];kernel_rfl
 obtain⟨_,_,f0⟩:=Dh Tryz.underlying33 h 0 _ rfl (ft:=3) (off:=0) (sz:=1) rfl rfl (by kernel_rfl)
 obtain⟨_,_,f1⟩:=Dh Tryz.underlying33 h 1 _ rfl (ft:=3) (off:=1) (sz:=1) rfl rfl (by kernel_rfl)
 obtain⟨_,_,f2⟩:=Dh Tryz.underlying33 h 2 _ rfl (ft:=3) (off:=2) (sz:=1) rfl rfl (by kernel_rfl)
 obtain⟨_,_,f3⟩:=Dh Tryz.underlying33 h 3 _ rfl (ft:=9) (off:=3) (sz:=1) rfl rfl (by kernel_rfl)
 obtain⟨_,_,f4⟩:=Dh Tryz.underlying33 h 4 _ rfl (ft:=3) (off:=4) (sz:=1) rfl rfl (by kernel_rfl)
 obtain⟨_,_,f5⟩:=Dh Tryz.underlying33 h 5 _ rfl (ft:=3) (off:=5) (sz:=1) rfl rfl (by kernel_rfl)
 obtain⟨k0,e0,-,-⟩:=E4 Tryz.underlying3 f0
 obtain⟨k1,e1,-,-⟩:=E4 Tryz.underlying3 f1
 obtain⟨k2,e2,-,-⟩:=E4 Tryz.underlying3 f2
 obtain⟨s3,e3,-,-⟩:=DataW.trod_string Tryz.underlying9 f3
 obtain⟨k4,e4,-,-⟩:=E4 Tryz.underlying3 f4
 obtain⟨k5,e5,-,-⟩:=E4 Tryz.underlying3 f5
 refine⟨⟨k0,k1,k2,s3.toList,k4,k5⟩,?_,trivial⟩
 have s:=DC e0
 rw[List.drop_zero,DC e1,DC e2,DC e3,DC e4,DC e5,List.drop_eq_nil_of_le (by omega)] at s
 rw[s]
 unfold evF
 rw[OO]
 rfl
end Go.Proofs.YtelplojmbjnplaaGreatDoor
namespace Go.Proofs.YtelplojmbjnplaaGreatDoor
open Lyc Go
def Ek (n:Ev × Bool):List Value:=[.int .i64 n.1.kind,.int .i64 n.1.win,.int .i64 n.1.pane,.string (Au n.1.s),.int .i64 n.1.w,.int .i64 n.1.h,.bool n.2]
theorem KU (n:Ev × Bool):(Ek n).length=7:=rfl
theorem XN (w:World) (e:Ev) (far:Bool):Calls Tryz.prog 17 #[.agg #[.int .i64 e.kind,.int .i64 e.win,.int .i64 e.pane,.string (Au e.s),.int .i64 e.w,.int .i64 e.h,.bool far]] w (Ac fun v w'=>∃e':Ev,v=e'.val∧Chg [] w w'):=by
 apply Zf
 intro K hK
 unfold NU
 simp -dsimp (disch:=first|omega|(simp only[go_sem,seval];try omega))only[go_sem,seval]
 refine Fq (F:=Join0 _ _) fun w1 hw1=>?_
 have hc1:Chg [] w w1:=by rw[hw1];(repeat (first|exact Chg.refl _ _|apply Chg.drew|apply Chg.alloc|(refine Chg.set ?_ _ _ (by first|(left;simp;done)|(right;omega)))))
 have a0:w1.heap[w.heap.size]?=some (.cells #[.int .i64 e.kind,.int .i64 e.win,.int .i64 e.pane,.string (Au e.s),.int .i64 e.w,.int .i64 e.h,.bool far] 45):=by rw[hw1];simp -dsimp (disch:=first|omega|(simp only[go_sem,seval];try omega))only[go_sem,seval]
 have a1:w1.heap[w.heap.size+1]?=some (.cells #[.int .i64 0,.int .i64 0,.int .i64 0,.string (Au []),.int .i64 0,.int .i64 0] 33):=by rw[hw1];simp -dsimp (disch:=first|omega|(simp only[go_sem,seval];try omega))only[go_sem,seval];rfl
 have a2:w1.heap[w.heap.size+2]?=some (.cells #[.int .i64 e.kind,.int .i64 e.win,.int .i64 e.pane,.string (Au e.s),.int .i64 e.w,.int .i64 e.h] 33):=by rw[hw1];simp -dsimp (disch:=first|omega|(simp only[go_sem,seval];try omega))only[go_sem,seval]
 clear hw1
 refine Join0.cut (fun w'=>∃l:List UInt8,w'.heap[w.heap.size+2]?=some (.cells #[.int .i64 e.kind,.int .i64 e.win,.int .i64 e.pane,.string (Au l),.int .i64 e.w,.int .i64 e.h] 33)∧w'.heap[w.heap.size]?=some (.cells #[.int .i64 e.kind,.int .i64 e.win,.int .i64 e.pane,.string (Au e.s),.int .i64 e.w,.int .i64 e.h,.bool far] 45)∧w'.heap[w.heap.size+1]?=some (.cells #[.int .i64 0,.int .i64 0,.int .i64 0,.string (Au []),.int .i64 0,.int .i64 0] 33)∧Chg [] w w') ?_ ?_
 ·have l1:=Aa a2
  simp -dsimp (disch:=first|omega|(simp only[go_sem,seval];try omega))only[go_sem,seval,a2]
  refine BrW.dec (fun g=>?_) (fun g=>⟨e.s,a2,a0,a1,hc1⟩)
  simp -dsimp (disch:=first|omega|(simp only[go_sem,seval];try omega))only[go_sem,seval,a2]
  exact⟨((Au e.s).extract 0 40).toList,by rw[OO],a0,a1,hc1.set _ _ (.inr (by omega))⟩
 ·rintro w2 ⟨l,c2,c0,c1,hc2⟩
  have l1:=Aa c2
  refine Join0.cut (fun w'=>∃e':Ev,w'.heap[w.heap.size+2]?=some (.cells #[.int .i64 e'.kind,.int .i64 e'.win,.int .i64 e'.pane,.string (Au e'.s),.int .i64 e'.w,.int .i64 e'.h] 33)∧w'.heap[w.heap.size+1]?=some (.cells #[.int .i64 0,.int .i64 0,.int .i64 0,.string (Au []),.int .i64 0,.int .i64 0] 33)∧Chg [] w w') ?_ ?_
  ·cases far
   ·simp -dsimp (disch:=first|omega|(simp only[go_sem,seval];try omega))only[go_sem,seval,c0,c2]
    exact⟨⟨_,_,_,l,_,_⟩,rfl,c1,hc2.set _ _ (.inr (by omega))⟩
   ·simp -dsimp (disch:=first|omega|(simp only[go_sem,seval];try omega))only[go_sem,seval,c0]
    exact⟨⟨_,_,_,l,_,_⟩,c2,c1,hc2⟩
  ·rintro w3 ⟨e',d2,d1,hc3⟩
   have l2:=Aa d2
   simp -dsimp (disch:=first|omega|(simp only[go_sem,seval];try omega))only[go_sem,seval,d2,d1]
   exact hK _ _ ⟨⟨_,_,_,e'.s,_,_⟩,rfl,hc3.set _ _ (.inr (by omega))⟩
end Go.Proofs.YtelplojmbjnplaaGreatDoor
namespace Go.Proofs.YtelplojmbjnplaaGreatDoor
open Lyc Go Go.Joins Go.ChangeShapes Go.WideShapes Go.ChangeAt Go.RowKit Go.Deep
set_option maxRecDepth 100000
theorem Su {H:Type} {enc:TypeId × Value→H} {w:World} {base:Nat} {spare:Nat→Bool} {held:Bool} (n:Nat) (cs:List Value) (y:DataW H × List MemPlace) (h:DataW.trod enc Tryz.prog w base spare held n 45 cs=some y):∃e:Ev × Bool,cs=Ek e∧True:=by
 have hlen:cs.length=7:=by
  obtain⟨-,-,-,-,hl,-⟩:=DataW.trod_struct Tryz.underlying45 h
  rw[hl];kernel_rfl
 obtain⟨_,_,f0⟩:=Dh Tryz.underlying45 h 0 _ rfl (ft:=33) (off:=0) (sz:=6) rfl rfl (by kernel_rfl)
 obtain⟨_,_,f1⟩:=Dh Tryz.underlying45 h 1 _ rfl (ft:=4) (off:=6) (sz:=1) rfl rfl (by kernel_rfl)
 obtain⟨e,he,-⟩:=TD _ _ _ f0
 obtain⟨b,hb,-⟩:=DataW.trod_bool Tryz.underlying4 f1
 refine⟨(e,b),?_,trivial⟩
 have s:=DC he
 rw[List.drop_zero,DC hb,List.drop_eq_nil_of_le (by omega)] at s
 rw[s]
 rfl
theorem QF {H:Type} {enc:TypeId × Value→H} {w:World} {base b0:Nat} {spare:Nat→Bool} {held:Bool} {v:Value} {d:DataW H} {p:List MemPlace} (hv:Value.okWide Tryz.prog w .any b0 43 v) (h:DataW.Trod enc Tryz.prog w base spare held 43 v d p) :
  ∃(a:Option Addr) (l:List (Ev × Bool)) (cap:Nat),v=.slice a l.length cap∧Sx w none Ek a l∧l.length≤maxLen:=by
 obtain⟨a,l,cap,rfl,hs,-,hm,-⟩:=Zz (m:=7) Ek (fun _=>True) Tryz.underlying43 (by kernel_rfl) (by omega) KU (fun n cs y h=>Su n cs y h) hv h
 exact⟨a,l,cap,rfl,hs,hm⟩
end Go.Proofs.YtelplojmbjnplaaGreatDoor
namespace Go.Proofs.YtelplojmbjnplaaGreatDoor
open Lyc Go
set_option maxRecDepth 100000
def MR (p0:Value) (K:Value→World→Prop):World→Prop :=
 xB 59 p0 fun t1 =>
 xF 59 t1 0 fun t6 =>
 xL 3 t6 fun t7 =>
 xF 59 t1 1 fun t8 =>
 xL 3 t8 fun t9 =>
 xC 42 [.const t7,.const t9] [3,3] 4 fun t10 =>
 Join1 (fun k1 =>
 xN 4 t10 fun t12 =>
 xW t12
 (k1 (.bool true)) <|
 xF 59 t1 2 fun t14 =>
 xL 57 t14 fun t15 =>
 xU t15 57 fun t16 =>
 xF 59 t1 0 fun t17 =>
 xL 3 t17 fun t18 =>
 xF 59 t1 1 fun t19 =>
 xL 3 t19 fun t20 =>
 xO .mul 3 t18 t20 fun t21 =>
 xO .neq 3 t16 t21 fun t22 =>
 k1 t22) fun t23 =>
 xW t23
 (K (.bool false)) <|
 Loop1 (.int .i64 0) fun t4 next2 =>
 xF 59 t1 1 fun t25 =>
 xL 3 t25 fun t26 =>
 xO .lss 3 t4 t26 fun t27 =>
 xW t27
 (xL 59 t1 fun t30 =>
 xC 44 [.const t30,.const t4] [59,3] 57 fun t32 =>
 xC 43 [.const t32] [57] 4 fun t33 =>
 xN 4 t33 fun t35 =>
 xW t35
 (K (.bool false)) <|
 xO .add 3 t4 (.int .i64 1) fun t29 =>
 next2 t29) <|
 K (.bool true)
theorem aS (p0:Value):Lk 23 #[p0] (MR p0):=lk [p0] [(6,[23]),(16,[4])] Tryz.func23
theorem SG:Ad Tryz.prog 23:=bd Tryz.func23
def PR (p0 p1:Value) (K:Value→World→Prop):World→Prop :=
 Join1 (fun k1 =>
 xO .geq 3 p0 (.int .i64 1) fun t6 =>
 xW t6
 (xO .leq 3 p0 (.int .i64 200) fun t9 =>
 xW t9
 (xO .geq 3 p1 (.int .i64 1) fun t13 =>
 xW t13
 (xO .leq 3 p1 (.int .i64 60) fun t17 =>
 k1 t17) <|
 k1 (.bool false)) <|
 k1 (.bool false)) <|
 k1 (.bool false)) fun t4 =>
 K t4
theorem Yf (p0 p1:Value):Lk 42 #[p0,p1] (PR p0 p1):=lk [p0,p1] [(3,[4])] Tryz.func42
theorem WX:Ad Tryz.prog 42:=bd Tryz.func42
def Mz (p0 p1:Value) (K:Value→World→Prop):World→Prop :=
 xB 59 p0 fun t2 =>
 Ai <|
 Join1 (fun k1 =>
 qP .lss 3 p1 (.int .i64 0) fun t6 =>
 xW t6
 (k1 (.bool true)) <|
 qF 59 t2 1 fun t9 =>
 qL 3 t9 fun t10 =>
 qP .geq 3 p1 t10 fun t11 =>
 xW t11
 (k1 (.bool true)) <|
 qF 59 t2 0 fun t14 =>
 qL 3 t14 fun t15 =>
 qP .lss 3 t15 (.int .i64 1) fun t16 =>
 xW t16
 (k1 (.bool true)) <|
 qF 59 t2 1 fun t19 =>
 qL 3 t19 fun t20 =>
 qF 59 t2 2 fun t21 =>
 qL 57 t21 fun t22 =>
 xR (.call { callee:=.builtin .len,args:=#[.const t22],argTypes:=#[57] }) 3 fun t23 =>
 qF 59 t2 0 fun t24 =>
 qL 3 t24 fun t25 =>
 qP .quo 3 t23 t25 fun t26 =>
 qP .gtr 3 t20 t26 fun t27 =>
 k1 t27) fun t28 =>
 xW t28
 (K (.slice none 0 0)) <|
 OpX Tryz.prog (.buildSlice 57 0 #[]) 57 fun t29 =>
 xF 59 t2 2 fun t30 =>
 xL 57 t30 fun t31 =>
 xF 59 t2 0 fun t33 =>
 xL 3 t33 fun t34 =>
 xO .mul 3 p1 t34 fun t35 =>
 xF 59 t2 0 fun t37 =>
 xL 3 t37 fun t38 =>
 xO .mul 3 p1 t38 fun t39 =>
 xF 59 t2 0 fun t40 =>
 xL 3 t40 fun t41 =>
 xO .add 3 t39 t41 fun t42 =>
 OpX Tryz.prog (.slice 57 (.const t31) (some (.const t35)) (some (.const t42)) none) 57 fun t43 =>
 OpX Tryz.prog (.call { callee:=.builtin .append,args:=#[.const t29,.const t43],argTypes:=#[57,57] }) 57 fun t44 =>
 K t44
theorem PT (p0 p1:Value):Lk 44 #[p0,p1] (Mz p0 p1):=lk [p0,p1] [(4,[28])] Tryz.func44
theorem Ut:Ad Tryz.prog 44:=bd Tryz.func44
theorem ZX (x:BitVec 8):(x.toNat:Int).tmod 64=((x &&& 63#8).toNat:Int):=by
 have h:∀x:BitVec 8,x.toNat % 64=(x &&& 63#8).toNat:=by decide +kernel
 rw[show(64:Int)=((64:Nat):Int) from rfl,←Int.ofNat_tmod,h]
theorem S5 (x:BitVec 8):(x &&& 63#8).toNat<64:=by
 have h:∀x:BitVec 8,(x &&& 63#8).toNat<64:=by decide +kernel
 exact h x
theorem YP (x:BitVec 8):((x &&& 63#8).toNat:Int)+128=(((x &&& 63#8) ||| 128#8).toNat:Int):=by
 have h:∀x:BitVec 8,(x &&& 63#8).toNat+128=((x &&& 63#8) ||| 128#8).toNat:=by decide +kernel
 have:=h x;omega
theorem Qp (w:World) (r:Int):Calls Tryz.prog 163 #[.int .i32 r] w (Ac fun v w'=>v=.bool (decide (r<0∨1114111<r∨(55296≤r∧r≤57343)))∧w'=w):=by
 apply Xm
 intro K hK
 unfold JC
 refine Join1.inl ?_
 simp -dsimp (disch:=first|omega|(simp only[go_sem,seval];try omega))only[go_sem,seval]
 refine BrW.dec (fun h1=>?_) (fun h1=>?_)
 ·exact hK _ _ ⟨by simp [h1],rfl⟩
 ·simp -dsimp (disch:=first|omega|(simp only[go_sem,seval];try omega))only[go_sem,seval]
  refine BrW.dec (fun h2=>?_) (fun h2=>?_)
  ·exact hK _ _ ⟨by simp [h2],rfl⟩
  ·simp -dsimp (disch:=first|omega|(simp only[go_sem,seval];try omega))only[go_sem,seval]
   refine BrW.dec (fun h3=>?_) (fun h3=>?_)
   ·simp -dsimp (disch:=first|omega|(simp only[go_sem,seval];try omega))only[go_sem,seval]
    refine hK _ _ ⟨?_,rfl⟩
    congr 1
    simp [h1,h2,h3]
   ·simp -dsimp (disch:=first|omega|(simp only[go_sem,seval];try omega))only[go_sem,seval]
    refine hK _ _ ⟨?_,rfl⟩
    congr 1
    simp [h1,h2,h3]
theorem BZ (w:World) (r a b:Int) (h1:-2147483648≤r) (h2:r≤2147483647):Calls Tryz.prog 164 #[.int .i32 r,.int .i64 a,.int .i64 b] w (Ac fun v w'=>v=.bool (decide (a≤r∧r≤b))∧w'=w):=by
 apply YN
 intro K hK
 unfold MQ
 refine Join1.inl ?_
 simp -dsimp (disch:=first|omega|(simp only[go_sem,seval];try omega))only[go_sem,seval]
 refine BrW.dec (fun h3=>?_) (fun h3=>?_)
 ·simp -dsimp (disch:=first|omega|(simp only[go_sem,seval];try omega))only[go_sem,seval]
  exact hK _ _ ⟨by simp [h3],rfl⟩
 ·simp -dsimp (disch:=first|omega|(simp only[go_sem,seval];try omega))only[go_sem,seval]
  exact hK _ _ ⟨by simp [h3],rfl⟩
def w0 (r:Int):Prop:=(r<0∨1114111<r∨(55296≤r∧r≤57343))∨r<32∨(127≤r∧r≤159)∨(768≤r∧r≤879)∨(8203≤r∧r≤8207)∨(65024≤r∧r≤65039)
def w2 (r:Int):Prop:=(4352≤r∧r≤4447)∨(11904≤r∧r≤12350)∨(12353≤r∧r≤42191)∨(44032≤r∧r≤55203)∨(63744≤r∧r≤64255)∨(65072≤r∧r≤65135)∨(65281≤r∧r≤65376)∨(65504≤r∧r≤65510)∨(127744≤r∧r≤128591)∨(129280≤r∧r≤129535)∨(131072≤r∧r≤262141)
instance (r:Int):Decidable (w0 r):=by unfold w0;infer_instance
instance (r:Int):Decidable (w2 r):=by unfold w2;infer_instance
theorem YF {r:Int} (h:w0 r):AN r=0:=by
 unfold w0 at h
 simp only[AN,Bw,BX]
 repeat' split
 all_goals first|rfl|omega
theorem RT {r:Int} (h0:¬w0 r) (h:w2 r):AN r=2:=by
 unfold w0 at h0
 unfold w2 at h
 simp only[AN,Bw,BX]
 repeat' split
 all_goals first|rfl|omega
theorem Qu {r:Int} (h0:¬w0 r) (h:¬w2 r):AN r=1:=by
 unfold w0 at h0
 unfold w2 at h
 simp only[AN,Bw,BX]
 repeat' split
 all_goals first|rfl|omega
theorem XB (w:World) (r:Int) (h1:-2147483648≤r) (h2:r≤2147483647):Calls Tryz.prog 120 #[.int .i32 r] w (Ac fun v w'=>v=.int .i64 (AN r)∧w'=w):=by
 apply Qa
 intro K hK
 unfold Mu
 refine Join1.cut (fun v w'=>v=.bool (decide (w0 r))∧w'=w) ?_ ?_
 ·refine OpX.call TT rfl (Calls.ret (Qp w r) ?_)
  rintro v w1 ⟨rfl,rfl⟩
  refine BrW.dec (fun h=>⟨by simp [w0,h],rfl⟩) (fun h3=>?_)
  simp -dsimp (disch:=first|omega|(simp only[go_sem,seval];try omega))only[go_sem,seval]
  refine BrW.dec (fun h=>⟨by simp [w0,h],rfl⟩) (fun h4=>?_)
  refine OpX.call BY rfl (Calls.ret (BZ _ r 127 159 h1 h2) ?_)
  rintro v w1 ⟨rfl,rfl⟩
  refine BrW.dec (fun h=>⟨by simp [w0,h],rfl⟩) (fun h5=>?_)
  refine OpX.call BY rfl (Calls.ret (BZ _ r 768 879 h1 h2) ?_)
  rintro v w1 ⟨rfl,rfl⟩
  refine BrW.dec (fun h=>⟨by simp [w0,h],rfl⟩) (fun h6=>?_)
  refine OpX.call BY rfl (Calls.ret (BZ _ r 8203 8207 h1 h2) ?_)
  rintro v w1 ⟨rfl,rfl⟩
  refine BrW.dec (fun h=>⟨by simp [w0,h],rfl⟩) (fun h7=>?_)
  refine OpX.call BY rfl (Calls.ret (BZ _ r 65024 65039 h1 h2) ?_)
  rintro v w1 ⟨rfl,rfl⟩
  refine⟨?_,rfl⟩
  congr 1
  unfold w0
  simp only[h3,h4,h5,h6,h7,false_or]
 ·rintro v w1 ⟨rfl,rfl⟩
  refine BrW.dec (fun h=>hK _ _ ⟨by rw[YF h],rfl⟩) (fun h0=>?_)
  refine Join1.cut (fun v w'=>v=.bool (decide (w2 r))∧w'=w1) ?_ ?_
  ·refine OpX.call BY rfl (Calls.ret (BZ _ r 4352 4447 h1 h2) ?_)
   rintro v w1 ⟨rfl,rfl⟩
   refine BrW.dec (fun h=>⟨by simp [w2,h],rfl⟩) (fun h3=>?_)
   refine OpX.call BY rfl (Calls.ret (BZ _ r 11904 12350 h1 h2) ?_)
   rintro v w1 ⟨rfl,rfl⟩
   refine BrW.dec (fun h=>⟨by simp [w2,h],rfl⟩) (fun h4=>?_)
   refine OpX.call BY rfl (Calls.ret (BZ _ r 12353 42191 h1 h2) ?_)
   rintro v w1 ⟨rfl,rfl⟩
   refine BrW.dec (fun h=>⟨by simp [w2,h],rfl⟩) (fun h5=>?_)
   refine OpX.call BY rfl (Calls.ret (BZ _ r 44032 55203 h1 h2) ?_)
   rintro v w1 ⟨rfl,rfl⟩
   refine BrW.dec (fun h=>⟨by simp [w2,h],rfl⟩) (fun h6=>?_)
   refine OpX.call BY rfl (Calls.ret (BZ _ r 63744 64255 h1 h2) ?_)
   rintro v w1 ⟨rfl,rfl⟩
   refine BrW.dec (fun h=>⟨by simp [w2,h],rfl⟩) (fun h7=>?_)
   refine OpX.call BY rfl (Calls.ret (BZ _ r 65072 65135 h1 h2) ?_)
   rintro v w1 ⟨rfl,rfl⟩
   refine BrW.dec (fun h=>⟨by simp [w2,h],rfl⟩) (fun h8=>?_)
   refine OpX.call BY rfl (Calls.ret (BZ _ r 65281 65376 h1 h2) ?_)
   rintro v w1 ⟨rfl,rfl⟩
   refine BrW.dec (fun h=>⟨by simp [w2,h],rfl⟩) (fun h9=>?_)
   refine OpX.call BY rfl (Calls.ret (BZ _ r 65504 65510 h1 h2) ?_)
   rintro v w1 ⟨rfl,rfl⟩
   refine BrW.dec (fun h=>⟨by simp [w2,h],rfl⟩) (fun h10=>?_)
   refine OpX.call BY rfl (Calls.ret (BZ _ r 127744 128591 h1 h2) ?_)
   rintro v w1 ⟨rfl,rfl⟩
   refine BrW.dec (fun h=>⟨by simp [w2,h],rfl⟩) (fun h11=>?_)
   refine OpX.call BY rfl (Calls.ret (BZ _ r 129280 129535 h1 h2) ?_)
   rintro v w1 ⟨rfl,rfl⟩
   refine BrW.dec (fun h=>⟨by simp [w2,h],rfl⟩) (fun h12=>?_)
   refine OpX.call BY rfl (Calls.ret (BZ _ r 131072 262141 h1 h2) ?_)
   rintro v w1 ⟨rfl,rfl⟩
   refine⟨?_,rfl⟩
   congr 1
   unfold w2
   simp only[h3,h4,h5,h6,h7,h8,h9,h10,h11,h12,false_or]
  ·rintro v w1 ⟨rfl,rfl⟩
   refine BrW.dec (fun h=>hK _ _ ⟨by rw[RT h0 h],rfl⟩) (fun h=>hK _ _ ⟨by rw[Qu h0 h],rfl⟩)
theorem Ye (w:World) (c:Cel):Calls Tryz.prog 121 #[c.val] w (Ac fun v w'=>v=(⟨0,c.fg,c.bg,(c.a &&& 63#8) ||| 128#8⟩:Cel).val∧Chg [] w w'):=by
 have:=S5 c.a
 apply Tk
 intro K hK
 unfold KW
 simp -dsimp (disch:=first|omega|(simp only[go_sem,seval];try omega))only[go_sem,seval,ZX,YP]
 exact hK _ _ ⟨rfl,((Chg.refl [] w).alloc _).alloc _⟩
theorem T8 (c:Cel):(⟨0,c.fg,c.bg,(c.a &&& 63#8) ||| 128#8⟩:Cel)=c.tailOf:=by
 have h:∀a:BitVec 8,(a &&& 63#8) ||| 128#8=(a &&& ~~~64#8) ||| 128#8:=by decide
 simp only[Cel.tailOf,h]
theorem Fe (w:World) (c:Cel):Calls Tryz.prog 73 #[c.val] w (Ac fun v w'=>v=.bool c.wide∧Chg [] w w'):=by
 have h:∀a:BitVec 8,decide (a.toNat / 64 % 2=1)=decide (¬a &&& 64#8=0#8):=by decide
 have hb:=c.a.isLt
 apply VL
 intro K hK
 unfold OU
 simp -dsimp (disch:=first|omega|(simp only[go_sem,seval];try omega))only[go_sem,seval]
 refine hK _ _ ⟨?_,Az _ _⟩
 unfold Cel.wide
 rw[←h c.a]
 congr 1
 apply decide_eq_decide.2
 have e1:(c.a.toNat:Int).tdiv 64=((c.a.toNat / 64:Nat):Int):=by rw[Int.tdiv_eq_ediv_of_nonneg (by omega)];rfl
 rw[e1,Fx _ (by omega) (by omega)]
 have e2:((c.a.toNat / 64:Nat):Int).tmod 2=((c.a.toNat / 64 % 2:Nat):Int):=by rw[Int.tmod_eq_emod_of_nonneg (by omega)];rfl
 rw[e2]
 omega
theorem Ht (w:World) (c:Cel):Calls Tryz.prog 75 #[c.val] w (Ac fun v w'=>v=.bool c.tail∧Chg [] w w'):=by
 have h:∀a:BitVec 8,decide (a.toNat / 128=1)=decide (¬a &&& 128#8=0#8):=by decide
 have hb:=c.a.isLt
 apply XO
 intro K hK
 unfold L2
 simp -dsimp (disch:=first|omega|(simp only[go_sem,seval];try omega))only[go_sem,seval]
 refine hK _ _ ⟨?_,Az _ _⟩
 unfold Cel.tail
 rw[←h c.a]
 congr 1
 apply decide_eq_decide.2
 have e1:(c.a.toNat:Int).tdiv 128=((c.a.toNat / 128:Nat):Int):=by rw[Int.tdiv_eq_ediv_of_nonneg (by omega)];rfl
 rw[e1,Fx _ (by omega) (by omega)]
 omega
theorem Jp (w:World) (c:Cel) (hc:c.fits):Calls Tryz.prog 72 #[c.val] w (Ac fun v w'=>v=.bool c.check∧Chg [] w w'):=by
 apply TA
 intro K hK
 unfold OR
 simp -dsimp (disch:=first|omega|(simp only[go_sem,seval];try omega))only[go_sem,seval]
 have hc0:=Az w (.cells c.cells.toArray 167)
 have hb0:(w.alloc (.cells c.cells.toArray 167)).heap[w.heap.size]?=some (.cells c.cells.toArray 167):=by simp -dsimp (disch:=first|omega|(simp only[go_sem,seval];try omega))only[go_sem,seval]
 refine OpX.call XG rfl (Calls.ret (XB _ c.r hc.1 hc.2) ?_)
 rintro v w1 ⟨rfl,rfl⟩
 simp -dsimp (disch:=first|omega|(simp only[go_sem,seval];try omega))only[go_sem,seval]
 refine OpX.call I0 rfl (Calls.ret (Ht _ c) ?_)
 rintro v w2 ⟨rfl,hc2⟩
 have hb2:=hc2.keep hb0 (by simp)
 have hc02:=hc0.trans0 hc2
 unfold Cel.check at hK
 refine BrW.by (fun h=>?_) (fun h=>?_)
 ·rw[if_pos h] at hK
  refine Join1.inl ?_
  simp -dsimp (disch:=first|omega|(simp only[go_sem,seval];try omega))only[go_sem,seval,hb2]
  refine OpX.call Fg rfl (Calls.ret (Fe _ c) ?_)
  rintro v w3 ⟨rfl,hc3⟩
  have hb3:=hc3.keep hb2 (by simp)
  simp -dsimp (disch:=first|omega|(simp only[go_sem,seval];try omega))only[go_sem,seval]
  refine BrW.by (fun h=>?_) (fun h=>?_)
  ·simp -dsimp (disch:=first|omega|(simp only[go_sem,seval];try omega))only[go_sem,seval,hb3]
   refine hK _ _ ⟨?_,hc02.trans0 hc3⟩
   simp at h;simp [h]
  ·refine hK _ _ ⟨?_,hc02.trans0 hc3⟩
   simp at h;simp [h]
 ·rw[if_neg (by simp [h])] at hK
  refine Join1.inl ?_
  simp -dsimp (disch:=first|omega|(simp only[go_sem,seval];try omega))only[go_sem,seval]
  refine BrW.dec (fun h1=>?_) (fun h1=>?_)
  ·simp -dsimp (disch:=first|omega|(simp only[go_sem,seval];try omega))only[go_sem,seval,hb2]
   refine OpX.call Fg rfl (Calls.ret (Fe _ c) ?_)
   rintro v w3 ⟨rfl,hc3⟩
   have hb3:=hc3.keep hb2 (by simp)
   simp -dsimp (disch:=first|omega|(simp only[go_sem,seval];try omega))only[go_sem,seval]
   refine BrW.by (fun h2=>?_) (fun h2=>?_)
   ·simp at h2
    refine hK _ _ ⟨?_,hc02.trans0 hc3⟩
    simp [h2,h1]
   ·simp at h2
    simp -dsimp (disch:=first|omega|(simp only[go_sem,seval];try omega))only[go_sem,seval]
    have h3:¬AN c.r=2:=by omega
    refine BrW.dec (fun h4=>absurd h4 h3) (fun h4=>?_)
    refine hK _ _ ⟨?_,hc02.trans0 hc3⟩
    simp [h2,h3]
  ·simp -dsimp (disch:=first|omega|(simp only[go_sem,seval];try omega))only[go_sem,seval]
   refine BrW.dec (fun h4=>?_) (fun h4=>?_)
   ·simp -dsimp (disch:=first|omega|(simp only[go_sem,seval];try omega))only[go_sem,seval,hb2]
    refine OpX.call Fg rfl (Calls.ret (Fe _ c) ?_)
    rintro v w3 ⟨rfl,hc3⟩
    refine hK _ _ ⟨?_,hc02.trans0 hc3⟩
    cases hw:c.wide<;>simp [h1,h4]
   ·refine hK _ _ ⟨?_,hc02⟩
    cases hw:c.wide<;>simp [h1,h4]
theorem IS {w:World} {e:Option TypeId} {a:Option Addr} {l:List Cel} (hs:SxC w e a l) (cap:Nat) (i:Int) (h1:-1≤i) (h2:i≤l.length) (hl:l.length≤1000000) (hf:∀c∈l,c.fits):Calls Tryz.prog 74 #[.slice a l.length cap,.int .i64 i] w
  (Ac fun v w'=>v=.bool (decide (0≤i) && AG l i.toNat)∧Chg [] w w'):=by
 apply aA
 intro K hK
 unfold L4
 refine Join1.cut (fun v w'=>v=.bool (decide (0≤i) && AG l i.toNat)∧Chg [] w w') ?_ ?_
 ·simp -dsimp (disch:=first|omega|(simp only[go_sem,seval];try omega))only[go_sem,seval]
  refine BrW.dec (fun h3=>?_) (fun h3=>⟨by simp [h3],(Chg.refl _ _).drew⟩)
  obtain⟨k,rfl⟩:=Int.eq_ofNat_of_zero_le h3
  simp -dsimp (disch:=first|omega|(simp only[go_sem,seval];try omega))only[go_sem,seval]
  refine BrW.dec (fun h4=>?_) (fun h4=>⟨by have:=@FX l k;simp;cases hp:AG l k<;>simp_all;omega,(Chg.refl _ _).drew⟩)
  have hk:k<l.length:=by omega
  have hk1:k+1<l.length:=by omega
  have hpa:AG l k=Bn l[k] l[k+1]:=by
   unfold AG;rw[List.getElem?_eq_getElem hk,List.getElem?_eq_getElem hk1]
  have hgo:(decide (0≤(k:Int)) && AG l (k:Int).toNat)=Bn l[k] l[k+1]:=by simp [hpa]
  rw[hgo]
  obtain⟨b,o,rfl,hb,m1,-⟩:=SxC.cel hs (List.getElem?_eq_getElem hk)
  simp -dsimp (disch:=first|omega|(simp only[go_sem,seval];try omega))only[go_sem,seval,m1]
  refine OpX.call Oz rfl (Calls.ret (Jp _ l[k] (hf _ (List.getElem_mem hk))) ?_)
  rintro v w1 ⟨rfl,hc1⟩
  refine BrW.by (fun h5=>?_) (fun h5=>⟨by simp [Bn,h5],hc1.low_drew⟩)
  obtain⟨b',o',hbo,hb',m1,-⟩:=SxC.cel ((hs.chg0 (Chg.refl _ _).drew).chg0 hc1) (List.getElem?_eq_getElem hk)
  cases hbo
  simp -dsimp (disch:=first|omega|(simp only[go_sem,seval];try omega))only[go_sem,seval,m1]
  refine OpX.call Fg rfl (Calls.ret (Fe _ l[k]) ?_)
  rintro v w2 ⟨rfl,hc2⟩
  have hc12:=hc1.trans0 hc2
  refine BrW.by (fun h6=>?_) (fun h6=>⟨by simp [Bn,h6],hc12.low_drew⟩)
  obtain⟨b',o',hbo,hb',m1,-⟩:=SxC.cel ((hs.chg0 (Chg.refl _ _).drew).chg0 hc12) (List.getElem?_eq_getElem hk)
  cases hbo
  obtain⟨b',o',hbo,hb',m2,-⟩:=SxC.cel ((hs.chg0 (Chg.refl _ _).drew).chg0 hc12) (List.getElem?_eq_getElem hk1)
  cases hbo
  have ek:(k:Int)+1=((k+1:Nat):Int):=by simp
  simp -dsimp (disch:=first|omega|(simp only[go_sem,seval];try omega))only[go_sem,seval,m1,m2,ek]
  refine OpX.call Xo rfl (Calls.ret (Ye _ l[k]) ?_)
  rintro v w3 ⟨rfl,hc3⟩
  rw[T8]
  obtain⟨b',o',hbo,hb',m2,-⟩:=SxC.cel (((hs.chg0 (Chg.refl _ _).drew).chg0 hc12).chg0 hc3) (List.getElem?_eq_getElem hk1)
  cases hbo
  simp -dsimp (disch:=first|omega|(simp only[go_sem,seval];try omega))only[go_sem,seval,m2]
  refine⟨by simp [Bn,h5,h6],(hc12.trans0 hc3).low_drew⟩
 ·rintro v w1 ⟨rfl,hc⟩
  exact hK _ _ ⟨rfl,hc⟩
theorem bV (l:List Cel) (i:Nat):Bh l i=(AG l i || (decide (0≤(i:Int)-1) && AG l ((i:Int)-1).toNat)):=by
 cases i with
 | zero=>simp [Bh]
 | succ i =>
  have e1:(((i+1:Nat):Int)-1).toNat=i:=by omega
  have e2:decide (0≤((i+1:Nat):Int)-1)=true:=by apply decide_eq_true;omega
  rw[e1,e2];simp [Bh]
theorem Ni (l:List Cel) (i:Nat):(decide (0≤(i:Int)-1) && AG l ((i:Int)-1).toNat)=C7 l i:=by
 cases i with
 | zero=>simp [C7]
 | succ i =>
  have e1:(((i+1:Nat):Int)-1).toNat=i:=by omega
  have e2:decide (0≤((i+1:Nat):Int)-1)=true:=by apply decide_eq_true;omega
  rw[e1,e2];simp [C7]
theorem Xt {w:World} {e:Option TypeId} {a:Option Addr} {l:List Cel} (hs:SxC w e a l) (cap:Nat) (hl:l.length≤100000) (hf:∀c∈l,c.fits):Calls Tryz.prog 43 #[.slice a l.length cap] w
  (Ac fun v w'=>v=.bool (right l)∧Chg [] w w'):=by
 apply Re
 intro K hK
 unfold LO
 refine Loop1.st (fun k:Nat=>.int .i64 k) (fun k w'=>Chg [] w w'∧k≤l.length∧∀i c,i<k→l[i]?=some c→Bh l i=true∨c.single=true) (fun k=>l.length-k) 0 rfl ⟨Chg.refl _ _,by omega,by simp⟩ ?_
 rintro next k w1 hn ⟨hc1,hk1,hi1⟩
 simp -dsimp (disch:=first|omega|(simp only[go_sem,seval];try omega))only[go_sem,seval]
 refine BrW.dec (fun h1=>?_) (fun h1=>?_)
 ·have hk:k<l.length:=by omega
  have hs1:=hs.chg0 hc1
  have hgk:=List.getElem?_eq_getElem hk
  have hiff:=Jk hgk
  refine Join1.cut (fun v w'=>v=.bool (!decide (Bh l k=true∨l[k].single=true))∧Chg [] w1 w') ?_ ?_
  ·obtain⟨b,o,rfl,hb,m1,-⟩:=SxC.cel hs1 hgk
   simp -dsimp (disch:=first|omega|(simp only[go_sem,seval];try omega))only[go_sem,seval,m1]
   refine OpX.call Oz rfl (Calls.ret (Jp _ l[k] (hf _ (List.getElem_mem hk))) ?_)
   rintro v2 w2 ⟨rfl,hc2⟩
   simp -dsimp (disch:=first|omega|(simp only[go_sem,seval];try omega))only[go_sem,seval]
   refine BrW.by (fun h2=>⟨?_,hc2⟩) (fun h2=>?_)
   ·simp at h2;simp [hiff,h2]
   ·simp at h2
    obtain⟨b',o',hbo,hb',m2,-⟩:=SxC.cel (hs1.chg0 hc2) hgk
    cases hbo
    simp -dsimp (disch:=first|omega|(simp only[go_sem,seval];try omega))only[go_sem,seval,m2]
    refine OpX.call Fg rfl (Calls.ret (Fe _ l[k]) ?_)
    rintro v3 w3 ⟨rfl,hc3⟩
    have hc13:=hc2.trans0 hc3
    obtain⟨b',o',hbo,hb',m3,-⟩:=SxC.cel (hs1.chg0 hc13) hgk
    cases hbo
    refine BrW.by (fun h3=>?_) (fun h3=>?_)
    ·refine OpX.call IL rfl (Calls.ret (IS (hs1.chg0 hc13) cap (k:Int) (by omega) (by omega) (by omega) hf) ?_)
     rintro v4 w4 ⟨rfl,hc4⟩
     have hc14:=hc13.trans0 hc4
     have hp0:(decide (0≤(k:Int)) && AG l (k:Int).toNat)=AG l k:=by simp
     rw[hp0]
     simp -dsimp (disch:=first|omega|(simp only[go_sem,seval];try omega))only[go_sem,seval]
     refine BrW.by (fun h4=>⟨?_,hc14⟩) (fun h4=>?_)
     ·simp at h4;simp [hiff,h3,h4]
     ·simp at h4
      obtain⟨b',o',hbo,hb',m4,-⟩:=SxC.cel (hs1.chg0 hc14) hgk
      cases hbo
      simp -dsimp (disch:=first|omega|(simp only[go_sem,seval];try omega))only[go_sem,seval,m4]
      refine OpX.call I0 rfl (Calls.ret (Ht _ l[k]) ?_)
      rintro v5 w5 ⟨rfl,hc5⟩
      have hc15:=hc14.trans0 hc5
      refine BrW.by (fun h5=>?_) (fun h5=>?_)
      ·simp -dsimp (disch:=first|omega|(simp only[go_sem,seval];try omega))only[go_sem,seval]
       refine OpX.call IL rfl (Calls.ret (IS (hs1.chg0 hc15) cap ((k:Int)-1) (by omega) (by omega) (by omega) hf) ?_)
       rintro v6 w6 ⟨rfl,hc6⟩
       rw[Ni]
       simp -dsimp (disch:=first|omega|(simp only[go_sem,seval];try omega))only[go_sem,seval]
       refine⟨?_,hc15.trans0 hc6⟩
       simp [hiff,h2,h4,h5]
      ·refine⟨?_,hc15⟩
       simp [hiff,h2,h4,h5]
    ·simp -dsimp (disch:=first|omega|(simp only[go_sem,seval];try omega))only[go_sem,seval,m3]
     refine OpX.call I0 rfl (Calls.ret (Ht _ l[k]) ?_)
     rintro v5 w5 ⟨rfl,hc5⟩
     have hc15:=hc13.trans0 hc5
     refine BrW.by (fun h5=>?_) (fun h5=>?_)
     ·simp -dsimp (disch:=first|omega|(simp only[go_sem,seval];try omega))only[go_sem,seval]
      refine OpX.call IL rfl (Calls.ret (IS (hs1.chg0 hc15) cap ((k:Int)-1) (by omega) (by omega) (by omega) hf) ?_)
      rintro v6 w6 ⟨rfl,hc6⟩
      rw[Ni]
      simp -dsimp (disch:=first|omega|(simp only[go_sem,seval];try omega))only[go_sem,seval]
      refine⟨?_,hc15.trans0 hc6⟩
      simp [hiff,h2,h3,h5]
     ·refine⟨?_,hc15⟩
      simp [hiff,h2,h3,h5]
  ·rintro v w2 ⟨rfl,hc2⟩
   refine BrW.by (fun h2=>?_) (fun h2=>?_)
   ·have hnr:right l=false:=by
     cases hr:right l
     ·rfl
     ·simp at h2
      rcases F1 l hr k _ hgk with h|h
      ·rw[h] at h2;simp at h2
      ·rw[h] at h2;simp at h2
    exact hK _ _ ⟨by rw[hnr],hc1.trans0 hc2⟩
   ·simp -dsimp (disch:=first|omega|(simp only[go_sem,seval];try omega))only[go_sem,seval]
    refine hn (k+1) _ ⟨hc1.trans0 hc2,by omega,?_⟩ (by omega)
    intro i c hi hic
    by_cases he:i=k
    ·subst he
     rw[hgk] at hic;cases hic
     rw[Bool.not_eq_false'] at h2
     exact of_decide_eq_true h2
    ·exact hi1 i c (by omega) hic
 ·have hk:k=l.length:=by omega
  refine hK _ _ ⟨?_,hc1⟩
  rw[F2 l fun i c hic=>hi1 i c (by rw[hk];exact(List.getElem?_eq_some_iff.1 hic).1) hic]
theorem aE (w:World) (x y:Int):Calls Tryz.prog 42 #[.int .i64 x,.int .i64 y] w (Ac fun v w'=>v=.bool (BF x y)∧w'=w):=by
 apply Yf
 intro K hK
 unfold PR
 refine Join1.inl ?_
 simp -dsimp (disch:=first|omega|(simp only[go_sem,seval];try omega))only[go_sem,seval]
 refine BrW.dec (fun h1=>?_) (fun h1=>?_)
 ·simp -dsimp (disch:=first|omega|(simp only[go_sem,seval];try omega))only[go_sem,seval]
  refine BrW.dec (fun h2=>?_) (fun h2=>?_)
  ·simp -dsimp (disch:=first|omega|(simp only[go_sem,seval];try omega))only[go_sem,seval]
   refine BrW.dec (fun h3=>?_) (fun h3=>?_)
   ·simp -dsimp (disch:=first|omega|(simp only[go_sem,seval];try omega))only[go_sem,seval]
    refine hK _ _ ⟨?_,rfl⟩
    simp [BF,h1,h2,h3]
   ·refine hK _ _ ⟨?_,rfl⟩
    simp [BF,h3]
  ·refine hK _ _ ⟨?_,rfl⟩
   simp [BF,h2]
 ·refine hK _ _ ⟨?_,rfl⟩
  simp [BF,h1]
theorem Tt {g:Gr} (hg:g.ok):(g.cs.length:Int).tdiv g.w=g.h:=by
 rw[hg.len]
 have h0:=hg.w0
 have:((g.w*g.h:Nat):Int)=(g.w:Int)*g.h:=by simp
 rw[this,Int.mul_tdiv_cancel_left _ (by omega)]
theorem TY {w:World} {g:Gr} (hg:g.ok) {e:Option TypeId} {a:Option Addr} (hs:SxC w e a g.cs) (cap:Nat) (hcap:g.cs.length≤cap) (y:Nat) (hy:y<g.h):Calls Tryz.prog 44 #[g.val a cap,.int .i64 y] w
  (Ac fun v w'=>Ox w.heap.size w' 167 4 Cel.cells v (g.row y)∧Chg [] w w'):=by
 have h1:=hg.row_lt hy
 have h2:=hg.le
 have h3:=hg.w0
 have h4:=hg.w1
 have h5:=hg.h1
 have hd:=Tt hg
 obtain⟨b,o,_,_,_,_,_,rfl,hb0,_⟩:=hs.at_ hg.ne
 clear hb0
 apply PT
 intro K hK
 unfold Mz
 simp -dsimp (disch:=first|omega|(simp only[go_sem,seval];try omega))only[go_sem,seval,Gr.val]
 have hc0:=Az w (.cells #[.int .i64 g.w,.int .i64 g.h,.slice (some ⟨b,o,none⟩) g.cs.length cap] 59)
 have hg0:(w.alloc (.cells #[.int .i64 g.w,.int .i64 g.h,.slice (some ⟨b,o,none⟩) g.cs.length cap] 59)).heap[w.heap.size]?=some (.cells #[.int .i64 g.w,.int .i64 g.h,.slice (some ⟨b,o,none⟩) g.cs.length cap] 59):=by simp -dsimp (disch:=first|omega|(simp only[go_sem,seval];try omega))only[go_sem,seval]
 refine Join1.cut (fun v w'=>v=.bool false∧w'=(w.alloc (.cells #[.int .i64 g.w,.int .i64 g.h,.slice (some ⟨b,o,none⟩) g.cs.length cap] 59)).drew) ?_ ?_
 ·simp -dsimp (disch:=first|omega|(simp only[go_sem,seval];try omega))only[go_sem,seval]
  refine BrW.dec (fun h=>by omega) (fun _=>?_)
  simp -dsimp (disch:=first|omega|(simp only[go_sem,seval];try omega))only[go_sem,seval]
  refine BrW.dec (fun h=>by omega) (fun _=>?_)
  simp -dsimp (disch:=first|omega|(simp only[go_sem,seval];try omega))only[go_sem,seval]
  refine BrW.dec (fun h=>by omega) (fun _=>?_)
  simp -dsimp (disch:=first|omega|(simp only[go_sem,seval];try omega))only[go_sem,seval,hd]
  simp
 ·rintro v w1 ⟨rfl,rfl⟩
  have e1:(y:Int)*(g.w:Int)=((y*g.w:Nat):Int):=by simp
  have e2:((y*g.w:Nat):Int)+(g.w:Int)=((y*g.w+g.w:Nat):Int):=by simp
  simp -dsimp (disch:=first|omega|(simp only[go_sem,seval];try omega))only[go_sem,seval,e1,e2]
  have e3:slo o cap (y*g.w) 4=o+y*g.w*4:=by unfold slo;rw[if_neg (by omega)]
  have e4:y*g.w+g.w-y*g.w=g.w:=by omega
  rw[e3,e4]
  have hrl:=hg.row_len hy
  have hs1:SxC (((w.alloc (.cells #[.int .i64 g.w,.int .i64 g.h,.slice (some ⟨b,o,none⟩) g.cs.length cap] 59)).alloc (.cells #[] 167)).drew) e (some ⟨b,o+y*g.w*4,none⟩) (g.row y):=Sx.sub (hs.chg0 (BQ _ _ _).drew) Cel.len (y*g.w) g.w _ (.inr (.inr rfl))
  have ho:Ox w.heap.size (((w.alloc (.cells #[.int .i64 g.w,.int .i64 g.h,.slice (some ⟨b,o,none⟩) g.cs.length cap] 59)).alloc (.cells #[] 167)).drew) 167 4 Cel.cells (.slice (some ⟨w.heap.size+1,0,none⟩) 0 0) []:=Ox.built (c:=[]) (by simp -dsimp (disch:=first|omega|(simp only[go_sem,seval];try omega))only[go_sem,seval]) Cel.len (by omega) rfl rfl (by omega) rfl
  refine BC (l:=[]) (l2:=g.row y) HI Cel.len Cel.ok ho hs1 (by rw[hrl]) (by simp;omega) (by omega) (by simp -dsimp (disch:=first|omega|(simp only[go_sem,seval];try omega))only[go_sem,seval];omega) ?_
  intro v' w' ho' hc' _
  exact hK _ _ ⟨by simpa using ho',Fl ho (BQ _ _ _).drew hc'⟩
theorem Sq {w:World} {g:Gr} (hg:g.ok) (hr:g.right=true) {e:Option TypeId} {a:Option Addr} (hs:SxC w e a g.cs) (cap:Nat) (hcap:g.cs.length≤cap):Calls Tryz.prog 23 #[g.val a cap] w
  (Ac fun v w'=>v=.bool true∧Chg [] w w'):=by
 have hle:=hg.le
 have hm:(g.w:Int)*(g.h:Int)=(g.cs.length:Int):=by rw[hg.len];simp
 have h4:=hg.w1
 have h5:=hg.h1
 apply aS
 intro K hK
 unfold MR
 simp -dsimp (disch:=first|omega|(simp only[go_sem,seval];try omega))only[go_sem,seval,Gr.val]
 have hc0:=Az w (.cells #[.int .i64 g.w,.int .i64 g.h,.slice a g.cs.length cap] 59)
 have hg0:(w.alloc (.cells #[.int .i64 g.w,.int .i64 g.h,.slice a g.cs.length cap] 59)).heap[w.heap.size]?=some (.cells #[.int .i64 g.w,.int .i64 g.h,.slice a g.cs.length cap] 59):=by simp -dsimp (disch:=first|omega|(simp only[go_sem,seval];try omega))only[go_sem,seval]
 refine OpX.call WX rfl (Calls.ret (aE _ g.w g.h) ?_)
 rintro v w1 ⟨rfl,rfl⟩
 refine Join1.inl ?_
 simp -dsimp (disch:=first|omega|(simp only[go_sem,seval];try omega))only[go_sem,seval,hg.fits,hm]
 refine Loop1.st (fun k:Nat=>.int .i64 k) (fun k w'=>Chg [] w w'∧k≤g.h∧w'.heap[w.heap.size]?=some (.cells #[.int .i64 g.w,.int .i64 g.h,.slice a g.cs.length cap] 59)) (fun k=>g.h-k) 0 rfl ⟨hc0,by omega,hg0⟩ ?_
 rintro next k w2 hn ⟨hc2,hk,hg2⟩
 simp -dsimp (disch:=first|omega|(simp only[go_sem,seval];try omega))only[go_sem,seval,hg2]
 refine BrW.dec (fun h1=>?_) (fun h1=>hK _ _ ⟨rfl,hc2⟩)
 have hky:k<g.h:=by omega
 simp -dsimp (disch:=first|omega|(simp only[go_sem,seval];try omega))only[go_sem,seval,hg2]
 refine OpX.call Ut rfl (Calls.ret (TY hg (hs.chg0 hc2) cap hcap k hky) ?_)
 rintro v3 w3 ⟨ho3,hc3⟩
 obtain⟨a3,cap3,rfl,hcap3,hs3,-⟩:=ho3.form
 have hrl:=hg.row_len hky
 have hrr:=Gr.right.at hr hky
 refine OpX.call TB rfl (Calls.ret (Xt hs3 cap3 (by omega) (V9 hrr)) ?_)
 rintro v4 w4 ⟨rfl,hc4⟩
 rw[hrr]
 simp -dsimp (disch:=first|omega|(simp only[go_sem,seval];try omega))only[go_sem,seval]
 exact hn (k+1) _ ⟨(hc2.trans0 hc3).trans0 hc4,by omega,(hc3.trans0 hc4).keep hg2 (by simp)⟩ (by omega)
theorem IE:∀l:List Rc,(∀r∈l,r.ok)→0≤Mt.area l∧Mt.area l≤12000*l.length
 | [],_=>⟨Int.le_refl _,Int.le_refl _⟩
 | r::l,h=>by
  have h1:=IE l fun x hx=>h x (by simp [hx])
  have hr:=h r (by simp)
  have a0:=hr.w0
  have a1:=hr.h0
  have a2:=hr.xw
  have a3:=hr.yh
  have a4:=hr.x0
  have a5:=hr.y0
  have h2:0≤r.w*r.h:=Int.mul_nonneg (by omega) (by omega)
  have h3:r.w*r.h≤200*60:=Int.mul_le_mul (by omega) (by omega) (by omega) (by omega)
  rw[show Mt.area (r::l)=r.w*r.h+Mt.area l from rfl,List.length_cons]
  omega
theorem US {w:World} {e0:Option TypeId} {a:Option Addr} {es:List (Ev × Bool)} (hs:Sx w e0 Ek a es) (cap:Nat) (hes:es.length≤maxLen) (x y:Int):Calls Tryz.prog 6 #[.agg #[.int .i64 x,.int .i64 y],.slice a es.length cap] w
  (Ac fun v w'=>v=.bool true∧Chg [] w w'):=by
 have hml:maxLen=9223372036854775807:=rfl
 apply Wd
 intro K hK
 unfold OI
 simp -dsimp (disch:=first|omega|(simp only[go_sem,seval];try omega))only[go_sem,seval]
 have hca:=Az w (.cells #[.int .i64 x,.int .i64 y] 23)
 have haz:(w.alloc (.cells #[.int .i64 x,.int .i64 y] 23)).heap[w.heap.size]?=some (.cells #[.int .i64 x,.int .i64 y] 23):=by simp -dsimp (disch:=first|omega|(simp only[go_sem,seval];try omega))only[go_sem,seval]
 generalize w.alloc (.cells #[.int .i64 x,.int .i64 y] 23)=wz at *
 refine OpX.call Tu rfl (Calls.ret (aU wz) ?_)
 rintro v w1 ⟨rfl,hc1⟩
 have az1:=hc1.keep haz (by simp)
 simp -dsimp (disch:=first|omega|(simp only[go_sem,seval];try omega))only[go_sem,seval,az1]
 refine OpX.call TU rfl (Calls.ret (YB w1 x y) ?_)
 rintro v w2 ⟨rfl,hc2⟩
 obtain⟨x1,x2⟩:=Pq (n:=x) (m:=40) (k:=1) (by omega)
 obtain⟨y1,y2⟩:=Pq (n:=y) (m:=19) (k:=2) (by omega)
 generalize DO x 40 1=X at *
 generalize DO y 19 2=Y at *
 simp -dsimp (disch:=first|omega|(simp only[go_sem,seval];try omega))only[go_sem,seval]
 refine OpX.call Pb rfl (Calls.ret (Mp w2 X Y 6) ?_)
 rintro v w3 (⟨hno,-⟩|⟨-,s,S0,rfl,A3,ok3,fr,hc3⟩)
 ·exact absurd ⟨by omega,by omega,by omega,by omega⟩ hno
 have hc02:=(hca.trans0 hc1).trans0 hc2
 have hc03:=hc02.trans0 hc3
 have hz02:=hc02.size
 simp -dsimp (disch:=first|omega|(simp only[go_sem,seval];try omega))only[go_sem,seval]
 refine Loop1.st (fun q:Nat × Ss=>.int .i64 (q.1:Int)) (fun q w'=>q.1≤30∧q.1≤es.length∧SsAt w2.heap.size w' s q.2∧q.2.ok (1+5000*q.1)∧Chg [] w w') (fun q=>30-q.1) (0,S0) rfl ⟨Nat.zero_le _,Nat.zero_le _,A3,ok3.mono (by omega),hc03⟩ ?_
 rintro next ⟨i,S⟩ wi hn ⟨hi,hie,A,ok,hci⟩
 dsimp only at hi hie A ok ⊢
 have hzi:=hci.size
 refine Join1.cut (fun v w'=>v=.bool (decide (i<es.length∧i<30))∧w'=wi) ?_ ?_
 ·simp -dsimp (disch:=first|omega|(simp only[go_sem,seval];try omega))only[go_sem,seval]
  refine BrW.dec (fun g=>?_) (fun g=>⟨congrArg Value.bool (decide_eq_false (by omega)).symm,rfl⟩)
  simp -dsimp (disch:=first|omega|(simp only[go_sem,seval];try omega))only[go_sem,seval]
  exact congrArg Value.bool (decide_eq_decide.2 ⟨fun h=>by omega,fun h=>by omega⟩)
 rintro v wi' ⟨rfl,rfl⟩
 refine BrW.dec (fun g=>?_) (fun g=>hK _ _ ⟨rfl,hci⟩)
 have hi':i<es.length:=g.1
 obtain⟨b',o,rfl,hbl,hcell⟩:=(hs.chg0 hci).get KU (List.getElem?_eq_getElem hi')
 generalize es[i]=e at *
 simp only[Ek] at hcell
 have e1:(i:Int)+1=((i+1:Nat):Int):=by omega
 simp -dsimp (disch:=first|omega|(simp only[go_sem,seval];try omega))only[go_sem,seval,hcell]
 have hcd:∀w8:World,Chg [] wi' w8→w2.heap.size≤w8.heap.size:=fun w8 h8=>by have:=h8.size;have:=hc03.size;have:=A.lt _ (.inl rfl);have:=A.los;omega
 refine OpX.call Zw rfl (Calls.ret (XN wi' e.1 e.2) ?_)
 rintro v w4 ⟨e',rfl,hc4⟩
 refine OpX.call LQ rfl (Calls.ret (J9 (A.chg0 hc4) ok (hcd _ hc4) (by omega) e') ?_)
 rintro v w5 ⟨S',A5,ok5,T5,-⟩
 have hc5:Chg [] w w5:=by
  obtain⟨F,hF,hFo⟩:=T5.chg
  exact(hci.trans0 hc4).trans hF fun z hz=>.inr (by have:=A.lo z (hFo z hz);omega)
 clear T5 A ok
 clear hcd
 refine OpX.call VH rfl (Calls.ret (Zg A5) ?_)
 rintro v w6 ⟨rfl,hc6⟩
 simp -dsimp (disch:=first|omega|(simp only[go_sem,seval];try omega))only[go_sem,seval]
 have hlen:S'.wins.length≤1000:=by have:=A5.len ok5;omega
 refine OpX.call Ku rfl (Calls.ret (Jm (A5.chg0 hc6) hlen) ?_)
 rintro v w7 ⟨ks,k1,k2,ko,hc7⟩
 have hc57:=hc6.trans0 hc7
 have A7:=A5.chg0 hc57
 obtain⟨ka,kc,rfl,-,kx,-,-⟩:=ko.form
 have s0:=ok5.w0
 have s1:=ok5.w1
 have s2:=ok5.h0
 have s3:=ok5.h1
 have hkl:ks.length=S'.wins.length:=by rw[k1.length_eq,List.length_map]
 have hkb:∀k∈ks,1≤k∧k≤9∧∃W,S'.get k=some W:=fun k hk=>by
  have hm:=k1.mem_iff.1 hk
  obtain⟨W,hW,e⟩:=List.mem_map.1 hm
  have:=(ok5.win W hW).2.2.2
  exact⟨by omega,by omega,Ss.get_some hm⟩
 refine Loop2.st (fun q:Nat=>.bool (decide (S'.cur∈ks.take q))) (fun q=>.int .i64 (q:Int)) (fun q w'=>q≤ks.length∧Chg [] w7 w') (fun q=>ks.length-q) 0 rfl rfl ⟨Nat.zero_le _,Chg.refl _ _⟩ ?_
 rintro next3 k wk hn3 ⟨hk,hck⟩
 simp -dsimp (disch:=first|omega|(simp only[go_sem,seval];try omega))only[go_sem,seval]
 refine BrW.dec (fun g3=>?_) (fun g3=>?_)
 ·have hk':k<ks.length:=by omega
  obtain⟨kb,ko',rfl,hkbl,-⟩:=kx.get1 (g:=fun n=>.int .i64 n) (fun _=>rfl) (List.getElem?_eq_getElem hk')
  have hkx:∀w',Chg [] w7 w'→Aw w'.heap[kb]? (ko'+k)=some (.int .i64 ks[k]):=by
   intro w' hw'
   obtain⟨b2,o2,e2,-,h2⟩:=(kx.chg0 hw').get1 (g:=fun n=>.int .i64 n) (fun _=>rfl) (List.getElem?_eq_getElem hk')
   cases e2
   exact h2
  obtain⟨n1,n9,W,hg⟩:=hkb _ (List.getElem_mem hk')
  have htk:(decide (S'.cur∈ks.take (k+1)))=(decide (S'.cur∈ks.take k) || decide (ks[k]=S'.cur)):=by
   rw[CD hk',←Bool.decide_or]
   exact decide_eq_decide.2 (by rw[List.mem_append,List.mem_singleton];exact or_congr Iff.rfl eq_comm)
  generalize ks[k]=n at *
  obtain⟨hWm,hWn⟩:=Ss.get_mem hg
  obtain⟨wok,wR,-,-⟩:=ok5.win W hWm
  have Ak:=A7.chg0 hck
  have dk:=hkx _ hck
  simp -dsimp (disch:=first|omega|(simp only[go_sem,seval];try omega))only[go_sem,seval,dk]
  refine OpX.call Ja rfl (Calls.ret (J0 Ak hg wok) ?_)
  rintro v w8 ⟨ho,hc8⟩
  have hck8:=hck.trans0 hc8
  have A8:=A7.chg0 hck8
  have hpl:=Mt.panes_len W.L.root W.L.R
  have hbl8:=Mt.bords_len W.L.root W.L.R
  have hfew:=wok.lay.few
  have hpk:=Mt.panes_ok wok.lay.fits wok.lay.R
  have hbk:=Mt.bords_ok wok.lay.fits wok.lay.R
  have hpi:=Mt.panes_ids W.L.root W.L.R
  have htile:=Mt.tile W.L.root W.L.R
  obtain⟨pa,pc,rfl,-,hps,-,-⟩:=ho.form
  obtain⟨P,hP⟩:∃P,P=W.L.root.panes W.L.R:=⟨_,rfl⟩
  obtain⟨B,hB⟩:∃B,B=W.L.root.bords W.L.R:=⟨_,rfl⟩
  rw[←hP] at hpl hpk hpi htile hps ⊢
  rw[←hB] at hbl8 hbk htile
  refine Loop3.st (fun m:Nat=>.int .i64 (Mt.area ((P.take m).map (·.2)))) (fun m=>.bool (decide (W.active∈(P.take m).map (·.1)))) (fun m=>.int .i64 (m:Int)) (fun m w'=>m≤P.length∧Chg [] w8 w') (fun m=>P.length-m) 0 rfl rfl rfl ⟨Nat.zero_le _,Chg.refl _ _⟩ ?_
  rintro next4 m wm hn4 ⟨hm,hcm⟩
  have har:=IE ((P.take m).map (·.2)) fun r hr=>by
   obtain⟨x,hx,rfl⟩:=List.mem_map.1 hr
   exact(hpk x (List.mem_of_mem_take hx)).1
  rw[List.length_map,List.length_take] at har
  simp -dsimp (disch:=first|omega|(simp only[go_sem,seval];try omega))only[go_sem,seval]
  refine BrW.dec (fun g4=>?_) (fun g4=>?_)
  ·have hm':m<P.length:=by omega
   have hxm:=List.getElem_mem hm'
   have hxe:P[m]?=some P[m]:=List.getElem?_eq_getElem hm'
   have htm:=CD hm'
   generalize P[m]=x at *
   obtain⟨pb,po,rfl,hpbl,-⟩:=hps.get (m:=5) (fun _=>rfl) hxe
   have hpx:∀w',Chg [] w8 w'→Aw w'.heap[pb]? (po+m*5)=some (.int .i64 x.1)∧Aw w'.heap[pb]? (po+m*5+3)=some (.int .i64 x.2.w)∧Aw w'.heap[pb]? (po+m*5+4)=some (.int .i64 x.2.h):=by
    intro w' hw'
    obtain⟨b2,o2,e2,-,h2⟩:=(hps.chg0 hw').get (m:=5) (fun _=>rfl) hxe
    cases e2
    exact⟨BE h2 0 (by omega),BE h2 3 (by omega),BE h2 4 (by omega)⟩
   obtain⟨xr,-⟩:=hpk x hxm
   have hxid:x.1∈W.L.root.ids:=by rw[←hpi];exact List.mem_map.2 ⟨x,hxm,rfl⟩
   obtain⟨p,hp,hpe⟩:=List.mem_map.1 ((wok.has x.1).2 hxid)
   obtain⟨ez1,ez2⟩:=wok.size p hp x.2 (by rw[hpe,←hP];exact hxm)
   have d9:=hkx _ (hck8.trans0 hcm)
   obtain⟨f0,f3,f4⟩:=hpx _ hcm
   have Am:=A8.chg0 hcm
   have hsc:=((Am.each W hWm).each p hp).1.scr
   have hvf:=SU hsc.ok (L:=p.G.list) (S'.backOf n W p.id)
   rw[hsc.w,hsc.h] at hvf
   have hnx:=hsc.ok.nx
   have hny:=hsc.ok.ny
   rw[hsc.w] at hnx
   rw[hsc.h] at hny
   have xw0:=xr.w0
   have xh0:=xr.h0
   have xx:=xr.xw
   have xy:=xr.yh
   have xx0:=xr.x0
   have xy0:=xr.y0
   have hviewC:=fun(w':World) (h':Chg [] wm w')=>Ru (Am.chg0 h') hg hp
   have hcurC:=fun(w':World) (h':Chg [] wm w')=>Tj (Am.chg0 h') hg hp
   rw[hpe] at hviewC hcurC hvf
   generalize C0 p.M.S p.G.list (S'.backOf n W x.1)=V at *
   have eV1:(V.w:Int)=x.2.w:=by rw[hvf.w];exact ez1
   have eV2:(V.h:Int)=x.2.h:=by rw[hvf.h];exact ez2
   have hpr0:0≤x.2.w*x.2.h:=Int.mul_nonneg (by omega) (by omega)
   have hpr1:x.2.w*x.2.h≤200*60:=Int.mul_le_mul (by omega) (by omega) (by omega) (by omega)
   refine Join1.cut (fun v w'=>∃tb nb cap,v=.pointer (some ⟨tb,0,none⟩)∧w'.heap[tb]?=some (.cells #[.int .i64 V.w,.int .i64 V.h,.slice (some ⟨nb,0,none⟩) V.cs.length cap] 59)∧V.cs.length≤cap∧SxC w' (some 167) (some ⟨nb,0,none⟩) V.cs∧Chg [] wm w') ?_ ?_
   ·have hd1:Chg [] wm wm.drew:=(Chg.refl _ _).drew
    have hd2:Chg [] wm (wm.alloc (.cells #[.int .i64 0,.int .i64 0,.slice none 0 0] 59)):=Az _ _
    have a10:(wm.alloc (.cells #[.int .i64 0,.int .i64 0,.slice none 0 0] 59)).drew.heap[wm.heap.size]?=some (.cells #[.int .i64 0,.int .i64 0,.slice none 0 0] 59):=by simp -dsimp (disch:=first|omega|(simp only[go_sem,seval];try omega))only[go_sem,seval]
    have hz10:(wm.alloc (.cells #[.int .i64 0,.int .i64 0,.slice none 0 0] 59)).drew.heap.size=wm.heap.size+1:=by simp -dsimp (disch:=first|omega|(simp only[go_sem,seval];try omega))only[go_sem,seval]
    have g9:=hkx _ ((hck8.trans0 hcm).trans0 hd2)
    obtain⟨g0,-,-⟩:=hpx _ (hcm.trans0 hd2)
    simp -dsimp (disch:=first|omega|(simp only[go_sem,seval];try omega))only[go_sem,seval,d9,f0,g9,g0]
    refine⟨?_,?_⟩
    ·refine OpX.call O8 rfl (Calls.ret (hviewC _ hd1) ?_)
     rintro v w9 ⟨hv9,hc9⟩
     obtain⟨nb9,cap9,rfl,p1,p2,p3,p4⟩:=hv9.sx
     simp -dsimp (disch:=first|omega|(simp only[go_sem,seval];try omega))only[go_sem,seval,Gr.val]
     exact⟨w9.heap.size,nb9,cap9,rfl,(by simp -dsimp (disch:=first|omega|(simp only[go_sem,seval];try omega))only[go_sem,seval]),p1,p4.chg0 (Az _ _),(hd1.trans0 hc9).trans0 (Az _ _)⟩
    ·refine OpX.call O8 rfl (Calls.ret (hviewC _ hd2.drew) ?_)
     rintro v w9 ⟨hv9,hc9⟩
     obtain⟨nb9,cap9,rfl,p1,p2,p3,p4⟩:=hv9.sx
     have a9:=hc9.keep a10 (by simp)
     have l9:=Aa a9
     simp -dsimp (disch:=first|omega|(simp only[go_sem,seval];try omega))only[go_sem,seval,Gr.val,a9]
     have hcs:Chg [wm.heap.size] w9 (Ab w9 wm.heap.size (.cells #[.int .i64 V.w,.int .i64 V.h,.slice (some ⟨nb9,0,none⟩) V.cs.length cap9] 59)):=(Chg.refl _ _).set _ _ (by simp)
     refine⟨wm.heap.size,nb9,cap9,rfl,Av _ _ _ _ rfl l9,p1,p4.chg hcs fun b o e hne hm=>?_,(hd2.drew.trans0 hc9).trans hcs (by simp)⟩
     cases e
     simp at hm
     omega
   ·rintro v w9 ⟨tb,nb,cap,rfl,a9,p1,p4,hc9⟩
    have hvo:=Sq hvf.ok hvf.r p4 cap p1
    simp only[Gr.val] at hvo
    simp -dsimp (disch:=first|omega|(simp only[go_sem,seval];try omega))only[go_sem,seval,a9]
    refine OpX.call SG rfl (Calls.ret (hvo) ?_)
    rintro v w10 ⟨rfl,hc10⟩
    have a10:=hc10.keep a9 (by simp)
    have hc9d:=(hc9.trans0 hc10)
    have d10:=hkx _ ((hck8.trans0 hcm).trans0 hc9d)
    obtain⟨q0,q3,q4⟩:=hpx _ (hcm.trans0 hc9d)
    simp -dsimp (disch:=first|omega|(simp only[go_sem,seval];try omega))only[go_sem,seval,d10,q0]
    refine OpX.call TZ rfl (Calls.ret (hcurC _ hc9d.drew) ?_)
    rintro v w11 ⟨rfl,hc11⟩
    have a11:=hc11.keep a10 (by simp)
    have hcm11:Chg [] wm w11:=(hc9d.drew).trans0 hc11
    obtain⟨r0,r3,r4⟩:=hpx _ (hcm.trans0 hcm11)
    have d11:=hkx _ ((hck8.trans0 hcm).trans0 hcm11)
    simp -dsimp (disch:=first|omega|(simp only[go_sem,seval];try omega))only[go_sem,seval]
    refine Join1.cut (fun v w'=>v=.bool false∧w'=w11.drew) ?_ ?_
    ·simp -dsimp (disch:=first|omega|(simp only[go_sem,seval];try omega))only[go_sem,seval,a11,r3,r4,eV1,eV2]
     refine BrW.dec (fun h=>absurd h (by omega)) (fun _=>?_)
     simp -dsimp (disch:=first|omega|(simp only[go_sem,seval];try omega))only[go_sem,seval,a11,eV1]
     refine BrW.dec (fun h=>absurd h (by omega)) (fun _=>?_)
     simp -dsimp (disch:=first|omega|(simp only[go_sem,seval];try omega))only[go_sem,seval,a11,eV2]
     refine BrW.dec (fun h=>absurd h (by omega)) (fun _=>?_)
     simp -dsimp (disch:=first|omega|(simp only[go_sem,seval];try omega))only[go_sem,seval,a11,eV2]
     exact congrArg Value.bool (decide_eq_false (by omega))
    rintro v w12 ⟨rfl,rfl⟩
    simp -dsimp (disch:=first|omega|(simp only[go_sem,seval];try omega))only[go_sem,seval,a11,eV1,eV2]
    have e4:(m:Int)+1=((m+1:Nat):Int):=by omega
    have hsum:Mt.area ((P.take (m+1)).map (·.2))=Mt.area ((P.take m).map (·.2))+x.2.w*x.2.h:=by
     rw[htm,List.map_append,Mt.area_append]
     show _+(x.2.w*x.2.h+0)=_
     omega
    have hwr:IntKind.i64.wrap (Mt.area ((P.take m).map (·.2))+x.2.w*x.2.h)=Mt.area ((P.take (m+1)).map (·.2)):=by rw[hsum];simp -dsimp (disch:=first|omega|(simp only[go_sem,seval];try omega))only[go_sem,seval]
    have hin:W.active∈(P.take (m+1)).map (·.1)↔(W.active∈(P.take m).map (·.1)∨x.1=W.active):=by
     rw[htm,List.map_append,List.mem_append,List.map_cons,List.map_nil,List.mem_singleton]
     exact or_congr Iff.rfl eq_comm
    rw[hwr]
    have hcmd:Chg [] wm w11.drew.drew:=hcm11.drew.drew
    refine Join1.cut (fun v w'=>v=.bool (decide (W.active∈(P.take (m+1)).map (·.1)))∧Chg [] wm w') ?_ ?_
    ·simp -dsimp (disch:=first|omega|(simp only[go_sem,seval];try omega))only[go_sem,seval]
     refine BrW.dec (fun h=>⟨congrArg Value.bool (decide_eq_true (hin.2 (.inl h))).symm,hcmd⟩) (fun h=>?_)
     simp -dsimp (disch:=first|omega|(simp only[go_sem,seval];try omega))only[go_sem,seval,d11,r0]
     refine OpX.call U6 rfl (Calls.ret (Us (Am.chg0 hcmd) hg) ?_)
     rintro v w12 ⟨rfl,rfl⟩
     simp -dsimp (disch:=first|omega|(simp only[go_sem,seval];try omega))only[go_sem,seval,d11,r0]
     exact⟨congrArg Value.bool (decide_eq_decide.2 ⟨fun e=>hin.2 (.inr e),fun e=>(hin.1 e).elim (fun e=>absurd e h) id⟩),hcmd⟩
    ·rintro v w12 ⟨rfl,hc12⟩
     simp -dsimp (disch:=first|omega|(simp only[go_sem,seval];try omega))only[go_sem,seval,e4]
     exact hn4 (m+1) _ ⟨by omega,hcm.trans0 hc12⟩ (by omega)
  ·have hml:m=P.length:=by omega
   subst hml
   rw[List.take_length] at *
   have hact:W.active∈P.map (·.1):=by rw[hpi];exact wok.act
   rw[decide_eq_true hact]
   have hck9:=hck8.trans0 hcm
   have d9:=hkx _ hck9
   have A9:=A7.chg0 hck9
   simp -dsimp (disch:=first|omega|(simp only[go_sem,seval];try omega))only[go_sem,seval,d9]
   refine OpX.call QH rfl (Calls.ret (aw A9 hg wok) ?_)
   rintro v w9 ⟨hbo,hc9⟩
   rw[←hB] at hbo
   obtain⟨ba,bc,rfl,-,hbs,-,-⟩:=hbo.form
   refine Loop2.st (fun q:Nat=>.int .i64 (Mt.area (P.map (·.2))+Mt.area (B.take q))) (fun q=>.int .i64 (q:Int)) (fun q w'=>q≤B.length∧Chg [] w9 w') (fun q=>B.length-q) 0 (show Value.int .i64 _=Value.int .i64 (_+(0:Int)) by rw[Int.add_zero]) rfl ⟨Nat.zero_le _,Chg.refl _ _⟩ ?_
   rintro next8 q wq hn8 ⟨hq,hcq⟩
   have har2:=IE (B.take q) fun r hr=>(hbk r (List.mem_of_mem_take hr)).1
   rw[List.length_take] at har2
   simp -dsimp (disch:=first|omega|(simp only[go_sem,seval];try omega))only[go_sem,seval]
   refine BrW.dec (fun g8=>?_) (fun g8=>?_)
   ·have hq':q<B.length:=by omega
    have hxm:=List.getElem_mem hq'
    have hxe:B[q]?=some B[q]:=List.getElem?_eq_getElem hq'
    have htq:=CD hq'
    generalize B[q]=r at *
    obtain⟨xr,-⟩:=hbk r hxm
    have xw0:=xr.w0
    have xh0:=xr.h0
    have xx:=xr.xw
    have xy:=xr.yh
    have xx0:=xr.x0
    have xy0:=xr.y0
    obtain⟨rb,ro,rfl,hrbl,hrc⟩:=(hbs.chg0 hcq).get (m:=4) (fun _=>rfl) hxe
    have f2:Aw wq.heap[rb]? (ro+q*4+2)=some (.int .i64 r.w):=BE hrc 2 (by omega)
    have f3:Aw wq.heap[rb]? (ro+q*4+3)=some (.int .i64 r.h):=BE hrc 3 (by omega)
    have hpr0:0≤r.w*r.h:=Int.mul_nonneg (by omega) (by omega)
    have hpr1:r.w*r.h≤200*60:=Int.mul_le_mul (by omega) (by omega) (by omega) (by omega)
    have e4:(q:Int)+1=((q+1:Nat):Int):=by omega
    have hsum:Mt.area (P.map (·.2))+Mt.area (B.take (q+1))=Mt.area (P.map (·.2))+Mt.area (B.take q)+r.w*r.h:=by
     rw[htq,Mt.area_append]
     show _+(_+(r.w*r.h+0))=_
     omega
    have hwr:IntKind.i64.wrap (Mt.area (P.map (·.2))+Mt.area (B.take q)+r.w*r.h)=Mt.area (P.map (·.2))+Mt.area (B.take (q+1)):=by rw[hsum];simp -dsimp (disch:=first|omega|(simp only[go_sem,seval];try omega))only[go_sem,seval]
    simp -dsimp (disch:=first|omega|(simp only[go_sem,seval];try omega))only[go_sem,seval,f2,f3,e4,hwr]
    exact hn8 (q+1) _ ⟨by omega,hcq.drew⟩ (by omega)
   ·have hql:q=B.length:=by omega
    subst hql
    rw[List.take_length] at *
    have hT:Mt.area (P.map (·.2))+Mt.area B=S'.w*(S'.h-1):=by rw[htile,wR]
    rw[hT]
    have hck10:Chg [] w7 wq:=(hck9.trans0 hc9).trans0 hcq
    have d10:=hkx _ hck10
    have hM0:0≤S'.w*(S'.h-1):=Int.mul_nonneg (by omega) (by omega)
    have hM1:S'.w*(S'.h-1)≤200*60:=Int.mul_le_mul (by omega) (by omega) (by omega) (by omega)
    refine Join1.cut (fun v w'=>v=.bool false∧w'=wq) ?_ ?_
    ·simp -dsimp (disch:=first|omega|(simp only[go_sem,seval];try omega))only[go_sem,seval,d10]
     refine BrW.dec (fun h=>absurd h (by omega)) (fun _=>?_)
     simp -dsimp (disch:=first|omega|(simp only[go_sem,seval];try omega))only[go_sem,seval,d10]
     exact congrArg Value.bool (decide_eq_false (by omega))
    rintro v w10 ⟨rfl,rfl⟩
    simp -dsimp (disch:=first|omega|(simp only[go_sem,seval];try omega))only[go_sem,seval]
    refine Join1.cut (fun v w'=>v=.bool (decide (S'.cur∈ks.take (k+1)))∧w'=w10.drew) ?_ ?_
    ·simp -dsimp (disch:=first|omega|(simp only[go_sem,seval];try omega))only[go_sem,seval]
     refine BrW.dec (fun h=>⟨?_,rfl⟩) (fun h=>?_)
     ·rw[htk,decide_eq_true h];rfl
     ·simp -dsimp (disch:=first|omega|(simp only[go_sem,seval];try omega))only[go_sem,seval,d10]
      refine OpX.call Pz rfl (Calls.ret (KC (A7.chg0 hck10.drew)) ?_)
      rintro v w11 ⟨rfl,rfl⟩
      simp -dsimp (disch:=first|omega|(simp only[go_sem,seval];try omega))only[go_sem,seval,d10]
      rw[htk,decide_eq_false h];rfl
    rintro v w11 ⟨rfl,rfl⟩
    have e5:(k:Int)+1=((k+1:Nat):Int):=by omega
    simp -dsimp (disch:=first|omega|(simp only[go_sem,seval];try omega))only[go_sem,seval,e5]
    exact hn3 (k+1) _ ⟨by omega,hck10.drew⟩ (by omega)
 ·have hkl':k=ks.length:=by omega
  subst hkl'
  rw[List.take_length]
  have hcm:=k1.mem_iff.2 ok5.cur
  have hl9:=A5.len ok5
  have hl1:=List.length_pos_of_mem hcm
  rw[decide_eq_true hcm]
  refine Join1.cut (fun v w'=>v=.bool false∧w'=wk) ?_ ?_
  ·simp -dsimp (disch:=first|omega|(simp only[go_sem,seval];try omega))only[go_sem,seval]
   refine BrW.dec (fun h=>absurd h (by omega)) (fun _=>?_)
   simp -dsimp (disch:=first|omega|(simp only[go_sem,seval];try omega))only[go_sem,seval]
   exact congrArg Value.bool (decide_eq_false (by omega))
  rintro v w10 ⟨rfl,rfl⟩
  simp -dsimp (disch:=first|omega|(simp only[go_sem,seval];try omega))only[go_sem,seval,e1]
  exact hn (i+1,S') _ ⟨by dsimp only;omega,by dsimp only;omega,A7.chg0 hck,ok5.mono (by dsimp only;omega),(hc5.trans0 hc57).trans0 hck⟩ (by dsimp only;omega)
end Go.Proofs.YtelplojmbjnplaaGreatDoor
