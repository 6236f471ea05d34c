/- Helpers of this claim, part 2: engine, translated functions, contracts, plain laws. -/
import Derived.Test.YtelplojmbjnplaaGreatDoorB0
import Derived.Test.YtelplojmbjnplaaGreatDoorB1
set_option linter.unusedSimpArgs false
set_option linter.unusedVariables false
namespace Go.Proofs.YtelplojmbjnplaaGreatDoor
open Lyc Go
set_option maxRecDepth 100000
def J5 (p0 p1:Value) (K:Value→World→Prop):World→Prop :=
 xO .eql 161 p0 (.pointer none) fun t7 =>
 xW t7
 (K (.tuple #[])) <|
 xU p1 203 fun t9 =>
 Loop1 (.int .i64 0) fun t10 next1 =>
 xO .lss 3 t10 t9 fun t11 =>
 xW t11
 (xI 203 p1 t10 fun t12 =>
 xL 57 t12 fun t13 =>
 Aj <|
 xP (.nilCheck (.const p0)) 0 fun t15 =>
 qF 226 t15 0 fun t16 =>
 xC 143 [.const t13] [57] 57 fun t18 =>
 xC 142 [.const t16,.const t18] [224,57] 0 fun _ =>
 xO .add 3 t10 (.int .i64 1) fun t20 =>
 next1 t20) <|
 K (.tuple #[])
theorem QK (p0 p1:Value):Lk 103 #[p0,p1] (J5 p0 p1):=lk [p0,p1] [(9,[10])] Tryz.func103
theorem RY:Ad Tryz.prog 103:=bd Tryz.func103
def Mw (p0:Value) (K:Value→World→Prop):World→Prop :=
 xO .eql 161 p0 (.pointer none) fun t4 =>
 xW t4
 (K (.int .i64 0)) <|
 OpX Tryz.prog (.nilCheck (.const p0)) 0 fun t6 =>
 xF 226 t6 0 fun t7 =>
 xC 158 [.const t7] [224] 3 fun t8 =>
 K t8
theorem W4 (p0:Value):Lk 115 #[p0] (Mw p0):=lk [p0] [] Tryz.func115
theorem WA:Ad Tryz.prog 115:=bd Tryz.func115
def KD (p0:Value) (K:Value→World→Prop):World→Prop :=
 OpX Tryz.prog (.build 226 #[]) 226 fun t4 =>
 OpX Tryz.prog (.box 226 (.const t4)) 161 fun t5 =>
 OpX Tryz.prog (.call { callee:=.builtin .max,args:=#[.const p0,.const (.int .i64 0)],argTypes:=#[3,3] }) 3 fun t8 =>
 OpX Tryz.prog (.call { callee:=.builtin .min,args:=#[.const t8,.const (.int .i64 500)],argTypes:=#[3,3] }) 3 fun t9 =>
 OpX Tryz.prog (.nilCheck (.const t5)) 0 fun t10 =>
 xF 226 t10 0 fun t11 =>
 xF 224 t11 0 fun t12 =>
 xS 3 t12 t9 <|
 K t5
theorem Pm (p0:Value):Lk 129 #[p0] (KD p0):=lk [p0] [] Tryz.func129
theorem XS:Ad Tryz.prog 129:=bd Tryz.func129
def I3 (p0 p1:Value) (K:Value→World→Prop):World→Prop :=
 OpX Tryz.prog (.nilCheck (.const p0)) 0 fun t5 =>
 xF 224 t5 0 fun t6 =>
 xL 3 t6 fun t7 =>
 xO .leq 3 t7 (.int .i64 0) fun t8 =>
 xW t8
 (K (.tuple #[])) <|
 Aj <|
 xP (.nilCheck (.const p0)) 0 fun t10 =>
 qF 224 t10 2 fun t11 =>
 qL 203 t11 fun t12 =>
 xR (.call { callee:=.builtin .len,args:=#[.const t12],argTypes:=#[203] }) 3 fun t13 =>
 xP (.nilCheck (.const p0)) 0 fun t15 =>
 qF 224 t15 0 fun t16 =>
 qL 3 t16 fun t17 =>
 qP .lss 3 t13 t17 fun t18 =>
 xW t18
 (OpX Tryz.prog (.nilCheck (.const p0)) 0 fun t21 =>
 xF 224 t21 2 fun t22 =>
 xL 203 t22 fun t23 =>
 OpX Tryz.prog (.buildSlice 203 1 #[(0,.const p1)]) 203 fun t25 =>
 OpX Tryz.prog (.call { callee:=.builtin .append,args:=#[.const t23,.const t25],argTypes:=#[203,203] }) 203 fun t26 =>
 OpX Tryz.prog (.nilCheck (.const p0)) 0 fun t27 =>
 xF 224 t27 2 fun t28 =>
 xS 203 t28 t26 <|
 K (.tuple #[])) <|
 Aj <|
 xP (.nilCheck (.const p0)) 0 fun t30 =>
 qF 224 t30 2 fun t31 =>
 qL 203 t31 fun t32 =>
 xP (.nilCheck (.const p0)) 0 fun t34 =>
 qF 224 t34 1 fun t35 =>
 qL 3 t35 fun t36 =>
 xP (.indexAddr 203 (.const t32) (.const t36)) 0 fun t38 =>
 xS 57 t38 p1 <|
 Aj <|
 xP (.nilCheck (.const p0)) 0 fun t41 =>
 qF 224 t41 1 fun t42 =>
 qL 3 t42 fun t43 =>
 qP .add 3 t43 (.int .i64 1) fun t44 =>
 xP (.nilCheck (.const p0)) 0 fun t46 =>
 qF 224 t46 0 fun t47 =>
 qL 3 t47 fun t48 =>
 qP .rem 3 t44 t48 fun t49 =>
 xP (.nilCheck (.const p0)) 0 fun t50 =>
 qF 224 t50 1 fun t51 =>
 xS 3 t51 t49 <|
 K (.tuple #[])
theorem UC (p0 p1:Value):Lk 142 #[p0,p1] (I3 p0 p1):=lk [p0,p1] [] Tryz.func142
theorem VA:Ad Tryz.prog 142:=bd Tryz.func142
def Ny (p0:Value) (K:Value→World→Prop):World→Prop :=
 OpX Tryz.prog (.nilCheck (.const p0)) 0 fun t4 =>
 xF 224 t4 2 fun t5 =>
 xL 203 t5 fun t6 =>
 xU t6 203 fun t7 =>
 K t7
theorem Wl (p0:Value):Lk 158 #[p0] (Ny p0):=lk [p0] [] Tryz.func158
theorem U5:Ad Tryz.prog 158:=bd Tryz.func158
def Kw (p0:Value) (K:Value→World→Prop):World→Prop :=
 xU p0 57 fun t6 =>
 OpX Tryz.prog (.makeSlice 57 (.const t6) (.const t6)) 57 fun t7 =>
 OpX Tryz.prog (.call { callee:=.builtin .copy,args:=#[.const t7,.const p0],argTypes:=#[57,57] }) 3 fun _ =>
 Loop1 (.int .i64 0) fun t4 next1 =>
 xU p0 57 fun t13 =>
 xO .lss 3 t4 t13 fun t14 =>
 xW t14
 (xC 195 [.const p0,.const t4] [57,3] 4 fun t20 =>
 xW t20
 (xO .add 3 t4 (.int .i64 1) fun t22 =>
 xO .add 3 t22 (.int .i64 1) fun t16 =>
 next1 t16) <|
 xI 57 p0 t4 fun t26 =>
 xL 167 t26 fun t27 =>
 xC 196 [.const t27] [167] 4 fun t28 =>
 xN 4 t28 fun t29 =>
 xW t29
 (Aj <|
 xP (.indexAddr 57 (.const p0) (.const t4)) 0 fun t34 =>
 qF 167 t34 1 fun t35 =>
 qL 5 t35 fun t36 =>
 xP (.indexAddr 57 (.const p0) (.const t4)) 0 fun t39 =>
 qF 167 t39 2 fun t40 =>
 qL 5 t40 fun t41 =>
 OpX Tryz.prog (.build 167 #[(0,.const (.int .i32 32)),(1,.const t36),(2,.const t41)]) 167 fun t42 =>
 xP (.indexAddr 57 (.const t7) (.const t4)) 0 fun t43 =>
 xS 167 t43 t42 <|
 xO .add 3 t4 (.int .i64 1) fun t16_1 =>
 next1 t16_1) <|
 xO .add 3 t4 (.int .i64 1) fun t16_2 =>
 next1 t16_2) <|
 K t7
theorem TJ (p0:Value):Lk 143 #[p0] (Kw p0):=lk [p0] [(10,[4])] Tryz.func143
theorem NP:Ad Tryz.prog 143:=bd Tryz.func143
def Nw (p0:Value) (K:Value→World→Prop):World→Prop :=
 Loop1 (.int .i64 0) fun t3 next1 =>
 xU p0 57 fun t6 =>
 xO .lss 3 t3 t6 fun t7 =>
 xW t7
 (xC 195 [.const p0,.const t3] [57,3] 4 fun t13 =>
 xW t13
 (xO .add 3 t3 (.int .i64 1) fun t15 =>
 xO .add 3 t15 (.int .i64 1) fun t9 =>
 next1 t9) <|
 xI 57 p0 t3 fun t19 =>
 xL 167 t19 fun t20 =>
 xC 196 [.const t20] [167] 4 fun t21 =>
 xN 4 t21 fun t22 =>
 xW t22
 (K (.bool false)) <|
 xO .add 3 t3 (.int .i64 1) fun t9_1 =>
 next1 t9_1) <|
 K (.bool true)
theorem Tc (p0:Value):Lk 157 #[p0] (Nw p0):=lk [p0] [(6,[3])] Tryz.func157
theorem PE:Ad Tryz.prog 157:=bd Tryz.func157
def KU (K:Value→World→Prop):World→Prop :=
 xA 167 fun t0 =>
 OpX Tryz.prog (.build 167 #[(0,.const (.int .i32 32))]) 167 fun t1 =>
 xS 167 t0 t1 <|
 xD 167 t0 fun t0_1 =>
 K t0_1
theorem Ri:Lk 162 #[] (KU):=lk [] [] Tryz.func162
theorem Gq:Ad Tryz.prog 162:=bd Tryz.func162
def J3 (p0 p1:Value) (K:Value→World→Prop):World→Prop :=
 xB 167 p1 fun t3 =>
 xF 167 t3 1 fun t7 =>
 xL 5 t7 fun t8 =>
 xF 167 t3 2 fun t9 =>
 xL 5 t9 fun t10 =>
 xF 167 t3 3 fun t11 =>
 xL 5 t11 fun t12 =>
 xO .andNot 5 t12 (.int .u8 192) fun t13 =>
 OpX Tryz.prog (.build 167 #[(0,.const p0),(1,.const t8),(2,.const t10),(3,.const t13)]) 167 fun t14 =>
 xA 167 fun t5 =>
 xS 167 t5 t14 <|
 xC 177 [.const p0] [21] 3 fun t16 =>
 xO .eql 3 t16 (.int .i64 1) fun t18 =>
 xW t18
 (xL 167 t5 fun t19 =>
 OpX Tryz.prog (.buildSlice 57 1 #[(0,.const t19)]) 57 fun t20 =>
 K t20) <|
 xO .eql 3 t16 (.int .i64 2) fun t22 =>
 xW t22
 (xF 167 t5 3 fun t23 =>
 xL 5 t23 fun t24 =>
 xO .or 5 t24 (.int .u8 64) fun t25 =>
 xF 167 t5 3 fun t26 =>
 xS 5 t26 t25 <|
 Aj <|
 qL 167 t5 fun t27 =>
 qL 167 t5 fun t28 =>
 xC 211 [.const t28] [167] 167 fun t29 =>
 xT (qZ 167 t5 t27) <|
 OpX Tryz.prog (.buildSlice 57 2 #[(0,.const t27),(1,.const t29)]) 57 fun t30 =>
 K t30) <|
 K (.slice none 0 0)
theorem TD (p0 p1:Value):Lk 182 #[p0,p1] (J3 p0 p1):=lk [p0,p1] [] Tryz.func182
theorem R2:Ad Tryz.prog 182:=bd Tryz.func182
def Mp (p0 p1:Value) (K:Value→World→Prop):World→Prop :=
 xI 57 p0 p1 fun t8 =>
 xL 167 t8 fun t9 =>
 xA 167 fun t5 =>
 xS 167 t5 t9 <|
 Aj <|
 Join1 (fun k1 =>
 qF 167 t5 3 fun t10 =>
 qL 5 t10 fun t11 =>
 qP .and 5 t11 (.int .u8 64) fun t12 =>
 qR .neq 5 t12 (.int .u8 0) fun t13 =>
 xW t13
 (qL 167 t5 fun t15 =>
 xC 221 [.const t15] [167] 4 fun t16 =>
 xW t16
 (qP .add 3 p1 (.int .i64 1) fun t20 =>
 xR (.call { callee:=.builtin .len,args:=#[.const p0],argTypes:=#[57] }) 3 fun t22 =>
 qP .lss 3 t20 t22 fun t23 =>
 xW t23
 (qP .add 3 p1 (.int .i64 1) fun t28 =>
 xP (.indexAddr 57 (.const p0) (.const t28)) 0 fun t29 =>
 qL 167 t29 fun t30 =>
 qL 167 t5 fun t31 =>
 xC 211 [.const t31] [167] 167 fun t32 =>
 xT (qZ 167 t29 t30) <|
 qR .eql 167 t30 t32 fun t33 =>
 k1 t33) <|
 k1 (.bool false)) <|
 k1 (.bool false)) <|
 k1 (.bool false)) fun t4 =>
 K t4
theorem QS (p0 p1:Value):Lk 195 #[p0,p1] (Mp p0 p1):=lk [p0,p1] [(5,[4])] Tryz.func195
theorem Jg:Ad Tryz.prog 195:=bd Tryz.func195
def JJ (p0:Value) (K:Value→World→Prop):World→Prop :=
 xB 167 p0 fun t1 =>
 Join1 (fun k1 =>
 xF 167 t1 3 fun t3 =>
 xL 5 t3 fun t4 =>
 xO .and 5 t4 (.int .u8 192) fun t5 =>
 xO .eql 5 t5 (.int .u8 0) fun t6 =>
 xW t6
 (xL 167 t1 fun t8 =>
 xC 221 [.const t8] [167] 4 fun t9 =>
 k1 t9) <|
 k1 (.bool false)) fun t2 =>
 K t2
theorem Yk (p0:Value):Lk 196 #[p0] (JJ p0):=lk [p0] [(3,[2])] Tryz.func196
theorem Na:Ad Tryz.prog 196:=bd Tryz.func196
def NT (p0:Value) (K:Value→World→Prop):World→Prop :=
 xB 167 p0 fun t1 =>
 xA 167 fun t2 =>
 xF 167 t1 1 fun t3 =>
 xL 5 t3 fun t4 =>
 xF 167 t1 2 fun t5 =>
 xL 5 t5 fun t6 =>
 xF 167 t1 3 fun t7 =>
 xL 5 t7 fun t8 =>
 xO .andNot 5 t8 (.int .u8 64) fun t9 =>
 xO .or 5 t9 (.int .u8 128) fun t10 =>
 OpX Tryz.prog (.build 167 #[(1,.const t4),(2,.const t6),(3,.const t10)]) 167 fun t11 =>
 xS 167 t2 t11 <|
 xD 167 t2 fun t2_1 =>
 K t2_1
theorem Pk (p0:Value):Lk 211 #[p0] (NT p0):=lk [p0] [] Tryz.func211
theorem JQ:Ad Tryz.prog 211:=bd Tryz.func211
def Of (p0:Value) (K:Value→World→Prop):World→Prop :=
 xB 167 p0 fun t1 =>
 Aj <|
 qF 167 t1 3 fun t5 =>
 qL 5 t5 fun t6 =>
 qP .and 5 t6 (.int .u8 64) fun t7 =>
 qR .neq 5 t7 (.int .u8 0) fun t8 =>
 qF 167 t1 3 fun t9 =>
 qL 5 t9 fun t10 =>
 qP .and 5 t10 (.int .u8 128) fun t11 =>
 qR .neq 5 t11 (.int .u8 0) fun t12 =>
 xW t12
 (Join1 (fun k1 =>
 xN 4 t8 fun t16 =>
 xW t16
 (xF 167 t1 0 fun t18 =>
 xL 21 t18 fun t19 =>
 xO .eql 21 t19 (.int .i32 0) fun t20 =>
 k1 t20) <|
 k1 (.bool false)) fun t2 =>
 K t2) <|
 xW t8
 (xF 167 t1 0 fun t24 =>
 xL 21 t24 fun t25 =>
 xC 177 [.const t25] [21] 3 fun t26 =>
 xO .eql 3 t26 (.int .i64 2) fun t27 =>
 K t27) <|
 xF 167 t1 0 fun t28 =>
 xL 21 t28 fun t29 =>
 xC 177 [.const t29] [21] 3 fun t30 =>
 xO .eql 3 t30 (.int .i64 1) fun t31 =>
 K t31
theorem Tb (p0:Value):Lk 221 #[p0] (Of p0):=lk [p0] [(10,[2])] Tryz.func221
theorem HQ:Ad Tryz.prog 221:=bd Tryz.func221
def Jw (p0 p1:Value) (K:Value→World→Prop):World→Prop :=
 xO .eql 253 p0 (.pointer none) fun t8 =>
 xW t8
 (K (.slice none 0 0)) <|
 OpX Tryz.prog (.nilCheck (.const p0)) 0 fun t11 =>
 xF 157 t11 0 fun t12 =>
 xL 9 t12 fun t13 =>
 xO .add 9 t13 p1 fun t15 =>
 xC 140 [.const t15] [9] 254 fun t16 =>
 xE t16 0 200 fun t17 =>
 xE t16 1 9 fun t18 =>
 xC 141 [.const t18] [9] 9 fun t21 =>
 OpX Tryz.prog (.nilCheck (.const p0)) 0 fun t22 =>
 xF 157 t22 0 fun t23 =>
 xS 9 t23 t21 <|
 K t17
theorem Ut (p0 p1:Value):Lk 102 #[p0,p1] (Jw p0 p1):=lk [p0,p1] [] Tryz.func102
theorem ZA:Ad Tryz.prog 102:=bd Tryz.func102
def LG (p0:Value) (K:Value→World→Prop):World→Prop :=
 Join2 (fun k1 =>
 Loop2 p0 (.slice none 0 0) fun t0 t4 next2 =>
 xU t0 9 fun t9 =>
 xO .gtr 3 t9 (.int .i64 0) fun t10 =>
 xW t10
 (xC 193 [.const t0] [9] 294 fun t13 =>
 xE t13 0 21 fun t14 =>
 xE t13 1 3 fun t15 =>
 xE t13 2 4 fun t16 =>
 xW t16
 (k1 t0 t4) <|
 OpX Tryz.prog (.buildSlice 200 1 #[(0,.const t14)]) 200 fun t20 =>
 OpX Tryz.prog (.call { callee:=.builtin .append,args:=#[.const t4,.const t20],argTypes:=#[200,200] }) 200 fun t21 =>
 OpX Tryz.prog (.slice 9 (.const t0) (some (.const t15)) none none) 9 fun t24 =>
 next2 t24 t21) <|
 k1 t0 t4) fun t0_1 t4_1 =>
 K (.tuple #[t4_1,t0_1])
theorem Ve (p0:Value):Lk 140 #[p0] (LG p0):=lk [p0] [(8,[0,4]),(9,[0,4])] Tryz.func140
theorem SK:Ad Tryz.prog 140:=bd Tryz.func140
def KR (p0:Value) (K:Value→World→Prop):World→Prop :=
 OpX Tryz.prog (.build 307 #[(0,.const (.int .i32 127)),(1,.const (.int .i32 159)),(2,.const (.int .i64 0))]) 307 fun t6 =>
 OpX Tryz.prog (.build 307 #[(0,.const (.int .i32 768)),(1,.const (.int .i32 879)),(2,.const (.int .i64 0))]) 307 fun t7 =>
 OpX Tryz.prog (.build 307 #[(0,.const (.int .i32 8203)),(1,.const (.int .i32 8207)),(2,.const (.int .i64 0))]) 307 fun t8 =>
 OpX Tryz.prog (.build 307 #[(0,.const (.int .i32 55296)),(1,.const (.int .i32 57343)),(2,.const (.int .i64 0))]) 307 fun t9 =>
 OpX Tryz.prog (.build 307 #[(0,.const (.int .i32 65024)),(1,.const (.int .i32 65039)),(2,.const (.int .i64 0))]) 307 fun t10 =>
 OpX Tryz.prog (.build 307 #[(0,.const (.int .i32 4352)),(1,.const (.int .i32 4447)),(2,.const (.int .i64 2))]) 307 fun t11 =>
 OpX Tryz.prog (.build 307 #[(0,.const (.int .i32 11904)),(1,.const (.int .i32 12350)),(2,.const (.int .i64 2))]) 307 fun t12 =>
 OpX Tryz.prog (.build 307 #[(0,.const (.int .i32 12353)),(1,.const (.int .i32 42191)),(2,.const (.int .i64 2))]) 307 fun t13 =>
 OpX Tryz.prog (.build 307 #[(0,.const (.int .i32 44032)),(1,.const (.int .i32 55203)),(2,.const (.int .i64 2))]) 307 fun t14 =>
 OpX Tryz.prog (.build 307 #[(0,.const (.int .i32 63744)),(1,.const (.int .i32 64255)),(2,.const (.int .i64 2))]) 307 fun t15 =>
 OpX Tryz.prog (.build 307 #[(0,.const (.int .i32 65072)),(1,.const (.int .i32 65135)),(2,.const (.int .i64 2))]) 307 fun t16 =>
 OpX Tryz.prog (.build 307 #[(0,.const (.int .i32 65281)),(1,.const (.int .i32 65376)),(2,.const (.int .i64 2))]) 307 fun t17 =>
 OpX Tryz.prog (.build 307 #[(0,.const (.int .i32 65504)),(1,.const (.int .i32 65510)),(2,.const (.int .i64 2))]) 307 fun t18 =>
 OpX Tryz.prog (.build 307 #[(0,.const (.int .i32 127744)),(1,.const (.int .i32 128591)),(2,.const (.int .i64 2))]) 307 fun t19 =>
 OpX Tryz.prog (.build 307 #[(0,.const (.int .i32 129280)),(1,.const (.int .i32 129535)),(2,.const (.int .i64 2))]) 307 fun t20 =>
 OpX Tryz.prog (.build 307 #[(0,.const (.int .i32 131072)),(1,.const (.int .i32 262141)),(2,.const (.int .i64 2))]) 307 fun t21 =>
 OpX Tryz.prog (.build 308 #[(0,.const t6),(1,.const t7),(2,.const t8),(3,.const t9),(4,.const t10),(5,.const t11),(6,.const t12),(7,.const t13),(8,.const t14),(9,.const t15),(10,.const t16),(11,.const t17),(12,.const t18),(13,.const t19),(14,.const t20),(15,.const t21)]) 308 fun t22 =>
 xA 308 fun t3 =>
 xS 308 t3 t22 <|
 Join1 (fun k1 =>
 xO .lss 21 p0 (.int .i32 32) fun t25 =>
 xW t25
 (k1 (.bool true)) <|
 xO .gtr 21 p0 (.int .i32 1114111) fun t28 =>
 k1 t28) fun t23 =>
 xW t23
 (K (.int .i64 0)) <|
 xO .lss 21 p0 (.int .i32 127) fun t32 =>
 xW t32
 (K (.int .i64 1)) <|
 xL 308 t3 fun t33 =>
 Loop1 (.int .i64 0) fun t34 next2 =>
 xO .lss 3 t34 (.int .i64 16) fun t35 =>
 xW t35
 (OpX Tryz.prog (.index 308 (.const t33) (.const t34)) 307 fun t36 =>
 xA 307 fun t5 =>
 xS 307 t5 t36 <|
 Join1 (fun k3 =>
 xF 307 t5 0 fun t38 =>
 xL 21 t38 fun t39 =>
 xO .geq 21 p0 t39 fun t40 =>
 xW t40
 (xF 307 t5 1 fun t43 =>
 xL 21 t43 fun t44 =>
 xO .leq 21 p0 t44 fun t45 =>
 k3 t45) <|
 k3 (.bool false)) fun t46 =>
 xW t46
 (xF 307 t5 2 fun t47 =>
 xL 3 t47 fun t48 =>
 K t48) <|
 xO .add 3 t34 (.int .i64 1) fun t49 =>
 next2 t49) <|
 K (.int .i64 1)
theorem To (p0:Value):Lk 177 #[p0] (KR p0):=lk [p0] [(7,[23]),(23,[34]),(35,[46])] Tryz.func177
theorem Gy:Ad Tryz.prog 177:=bd Tryz.func177
def N2 (p0:Value) (K:Value→World→Prop):World→Prop :=
 OpX Tryz.prog (.index 9 (.const p0) (.const (.int .i64 0))) 5 fun t11 =>
 Join2 (fun k1 =>
 xO .leq 5 t11 (.int .u8 127) fun t14 =>
 xW t14
 (OpX Tryz.prog (.convert 5 21 (.const t11)) 21 fun t16 =>
 K (.tuple #[t16,(.int .i64 1),(.bool false)])) <|
 Join1 (fun k2 =>
 xO .geq 5 t11 (.int .u8 194) fun t19 =>
 xW t19
 (xO .leq 5 t11 (.int .u8 223) fun t22 =>
 k2 t22) <|
 k2 (.bool false)) fun t17 =>
 xW t17
 (xO .and 5 t11 (.int .u8 31) fun t25 =>
 OpX Tryz.prog (.convert 5 21 (.const t25)) 21 fun t26 =>
 k1 t26 (.int .i64 1)) <|
 Join1 (fun k3 =>
 xO .geq 5 t11 (.int .u8 224) fun t29 =>
 xW t29
 (xO .leq 5 t11 (.int .u8 239) fun t32 =>
 k3 t32) <|
 k3 (.bool false)) fun t27 =>
 xW t27
 (xO .and 5 t11 (.int .u8 15) fun t35 =>
 OpX Tryz.prog (.convert 5 21 (.const t35)) 21 fun t36 =>
 k1 t36 (.int .i64 2)) <|
 Join1 (fun k4 =>
 xO .geq 5 t11 (.int .u8 240) fun t39 =>
 xW t39
 (xO .leq 5 t11 (.int .u8 244) fun t42 =>
 k4 t42) <|
 k4 (.bool false)) fun t37 =>
 xW t37
 (xO .and 5 t11 (.int .u8 7) fun t45 =>
 OpX Tryz.prog (.convert 5 21 (.const t45)) 21 fun t46 =>
 k1 t46 (.int .i64 3)) <|
 K (.tuple #[(.int .i32 65533),(.int .i64 1),(.bool false)])) fun t2 t6 =>
 Join2 (fun k5 =>
 xO .eql 5 t11 (.int .u8 224) fun t49 =>
 xW t49
 (k5 (.int .u8 160) (.int .u8 191)) <|
 xO .eql 5 t11 (.int .u8 237) fun t51 =>
 xW t51
 (k5 (.int .u8 128) (.int .u8 159)) <|
 xO .eql 5 t11 (.int .u8 240) fun t53 =>
 xW t53
 (k5 (.int .u8 144) (.int .u8 191)) <|
 xO .eql 5 t11 (.int .u8 244) fun t55 =>
 xW t55
 (k5 (.int .u8 128) (.int .u8 143)) <|
 k5 (.int .u8 128) (.int .u8 191)) fun t7 t8 =>
 Loop4 t2 (.int .i64 1) t7 t8 fun t2_1 t3 t7_1 t8_1 next6 =>
 xO .leq 3 t3 t6 fun t58 =>
 xW t58
 (xU p0 9 fun t63 =>
 xO .eql 3 t3 t63 fun t64 =>
 xW t64
 (K (.tuple #[(.int .i32 65533),t3,(.bool true)])) <|
 OpX Tryz.prog (.index 9 (.const p0) (.const t3)) 5 fun t68 =>
 Join1 (fun k7 =>
 xO .lss 5 t68 t7_1 fun t71 =>
 xW t71
 (k7 (.bool true)) <|
 xO .gtr 5 t68 t8_1 fun t75 =>
 k7 t75) fun t76 =>
 xW t76
 (K (.tuple #[(.int .i32 65533),t3,(.bool false)])) <|
 xO .shl 21 t2_1 (.int .u64 6) fun t79 =>
 xO .and 5 t68 (.int .u8 63) fun t81 =>
 OpX Tryz.prog (.convert 5 21 (.const t81)) 21 fun t82 =>
 xO .or 21 t79 t82 fun t83 =>
 xO .add 3 t3 (.int .i64 1) fun t60 =>
 next6 t83 t60 (.int .u8 128) (.int .u8 191)) <|
 K (.tuple #[t2_1,t3,(.bool false)])
theorem XK (p0:Value):Lk 193 #[p0] (N2 p0):=lk [p0] [(6,[2,6]),(15,[17]),(19,[27]),(23,[37]),(29,[7,8]),(54,[2,3,7,8]),(75,[76])] Tryz.func193
theorem Qi:Ad Tryz.prog 193:=bd Tryz.func193
def CZ (l:List (Int × Int × Int)):List Value:=l.flatMap fun s=>[.int .i32 s.1,.int .i32 s.2.1,.int .i64 s.2.2]
theorem Uq (l:List (Int × Int × Int)) (i:Nat) (s:Int × Int × Int) (h:l[i]?=some s):((CZ l).toArray).extract (i*3) (i*3+3)=#[.int .i32 s.1,.int .i32 s.2.1,.int .i64 s.2.2]:=by
 obtain⟨pre,post,h1,h2⟩:=HR (f:=fun s:Int × Int × Int=>[Value.int .i32 s.1,.int .i32 s.2.1,.int .i64 s.2.2]) (m:=3) (fun _=>rfl) l i s h
 have:=HA pre [Value.int .i32 s.1,.int .i32 s.2.1,.int .i64 s.2.2] post 0 (0,0) (i*3) 3 h2 rfl
 rw[Gm] at this
 have hs:CZ l=pre++[Value.int .i32 s.1,.int .i32 s.2.1,.int .i64 s.2.2]++post:=h1
 rw[hs]
 split at this
 ·simpa using this
 ·simp at this
theorem FX (w:World) (r:Int):Calls Tryz.prog 177 #[.int .i32 r] w (Ac fun v w'=>v=.int .i64 (Ba r)∧Chg [] w w'):=by
 apply To
 intro K hK
 unfold KR
 refine OpX.build (c:=#[.int .i32 127,.int .i32 159,.int .i64 0]) (by kernel_rfl) ?_
 refine OpX.build (c:=#[.int .i32 768,.int .i32 879,.int .i64 0]) (by kernel_rfl) ?_
 refine OpX.build (c:=#[.int .i32 8203,.int .i32 8207,.int .i64 0]) (by kernel_rfl) ?_
 refine OpX.build (c:=#[.int .i32 55296,.int .i32 57343,.int .i64 0]) (by kernel_rfl) ?_
 refine OpX.build (c:=#[.int .i32 65024,.int .i32 65039,.int .i64 0]) (by kernel_rfl) ?_
 refine OpX.build (c:=#[.int .i32 4352,.int .i32 4447,.int .i64 2]) (by kernel_rfl) ?_
 refine OpX.build (c:=#[.int .i32 11904,.int .i32 12350,.int .i64 2]) (by kernel_rfl) ?_
 refine OpX.build (c:=#[.int .i32 12353,.int .i32 42191,.int .i64 2]) (by kernel_rfl) ?_
 refine OpX.build (c:=#[.int .i32 44032,.int .i32 55203,.int .i64 2]) (by kernel_rfl) ?_
 refine OpX.build (c:=#[.int .i32 63744,.int .i32 64255,.int .i64 2]) (by kernel_rfl) ?_
 refine OpX.build (c:=#[.int .i32 65072,.int .i32 65135,.int .i64 2]) (by kernel_rfl) ?_
 refine OpX.build (c:=#[.int .i32 65281,.int .i32 65376,.int .i64 2]) (by kernel_rfl) ?_
 refine OpX.build (c:=#[.int .i32 65504,.int .i32 65510,.int .i64 2]) (by kernel_rfl) ?_
 refine OpX.build (c:=#[.int .i32 127744,.int .i32 128591,.int .i64 2]) (by kernel_rfl) ?_
 refine OpX.build (c:=#[.int .i32 129280,.int .i32 129535,.int .i64 2]) (by kernel_rfl) ?_
 refine OpX.build (c:=#[.int .i32 131072,.int .i32 262141,.int .i64 2]) (by kernel_rfl) ?_
 refine OpX.build (c:=(CZ BD).toArray) (by kernel_rfl) ?_
 refine OpX.fresh (z:=_) Y9 (by kernel_rfl) (by kernel_rfl) (by kernel_rfl) ?_
 refine Join1.inl ?_
 simp -dsimp (disch:=first|omega|(simp only[go_sem,seval];try omega))only[go_sem,seval]
 have hc0:=(Chg.refl [] w).alloc (.cells (Value.agg (CZ BD).toArray).cells 308)
 refine BrW.dec (fun h=>?_) (fun h=>?_)
 ·simp -dsimp (disch:=first|omega|(simp only[go_sem,seval];try omega))only[go_sem,seval]
  exact hK _ _ ⟨by simp [Ba,h],hc0⟩
 ·simp -dsimp (disch:=first|omega|(simp only[go_sem,seval];try omega))only[go_sem,seval]
  refine BrW.dec (fun h2=>?_) (fun h2=>?_)
  ·exact hK _ _ ⟨by simp [Ba,h2],hc0⟩
  ·simp -dsimp (disch:=first|omega|(simp only[go_sem,seval];try omega))only[go_sem,seval]
   refine BrW.dec (fun h3=>?_) (fun h3=>?_)
   ·exact hK _ _ ⟨by simp [Ba,h,h2,h3],hc0⟩
   ·have hld:AU ((w.alloc (.cells (CZ BD).toArray 308)).heap[w.heap.size]?) 0 48=some (CZ BD).toArray:=by
     rw[Lyc.heap_alloc_new _ _ _ rfl]
     exact HA [] (CZ BD) [] _ _ 0 48 rfl (by kernel_rfl)
    rw[xL,YN _ _ _ _ _ _ Gz.2.2.2.1,Gz.2.2.2.2.2.1,Option.bind_some,hld,Da]
    refine Loop1.st (fun k:Nat=>.int .i64 k) (fun k w'=>Chg [] w w'∧k≤16∧Cn BD r=Cn (BD.drop k) r) (fun k=>16-k) 0 rfl ⟨hc0,by omega,rfl⟩ ?_
    rintro next k w' hn ⟨hc,hk,he⟩
    simp -dsimp (disch:=first|omega|(simp only[go_sem,seval];try omega))only[go_sem,seval]
    refine BrW.dec (fun h4=>?_) (fun h4=>?_)
    ·have hk':k<16:=by omega
     have hs:BD[k]?=some (BD[k]'hk'):=List.getElem?_eq_getElem hk'
     have hd:BD.drop k=BD[k]'hk'::BD.drop (k+1):=List.drop_eq_getElem_cons hk'
     rw[hd] at he
     generalize BD[k]'hk'=s at hs he
     have hi:Dn Tryz.prog 308 (CZ BD).toArray k=some (.agg #[.int .i32 s.1,.int .i32 s.2.1,.int .i64 s.2.2]):=by
      have:=Uq _ _ _ hs
      simp [Dn,CV,Gz.2.2.2.2.2.2.1,Gz.2.2.2.2.1,MB.2.2.2.1,MB.2.1,h4]
      exact⟨hk',by simpa using this⟩
     simp -dsimp (disch:=first|omega|(simp only[go_sem,seval];try omega))only[go_sem,seval,hi]
     have hc1:=hc.alloc (.cells #[.int .i32 s.1,.int .i32 s.2.1,.int .i64 s.2.2] 307)
     refine Join1.inl ?_
     simp -dsimp (disch:=first|omega|(simp only[go_sem,seval];try omega))only[go_sem,seval]
     refine BrW.dec (fun h5=>?_) (fun h5=>?_)
     ·simp -dsimp (disch:=first|omega|(simp only[go_sem,seval];try omega))only[go_sem,seval]
      refine BrW.dec (fun h6=>?_) (fun h6=>?_)
      ·simp -dsimp (disch:=first|omega|(simp only[go_sem,seval];try omega))only[go_sem,seval]
       refine hK _ _ ⟨?_,hc1⟩
       simp [Ba,h,h2,h3,he,Cn,h5,h6]
      ·simp -dsimp (disch:=first|omega|(simp only[go_sem,seval];try omega))only[go_sem,seval]
       refine hn (k+1) _ ⟨hc1,by omega,?_⟩ (by omega)
       rw[he];simp [Cn,h6]
     ·simp -dsimp (disch:=first|omega|(simp only[go_sem,seval];try omega))only[go_sem,seval]
      refine hn (k+1) _ ⟨hc1,by omega,?_⟩ (by omega)
      rw[he];simp [Cn,h5]
    ·have hk':k=16:=by omega
     subst hk'
     refine hK _ _ ⟨?_,hc⟩
     simp [Ba,h,h2,h3,he]
     simp [BD,Cn]
theorem GY (w:World) (c:Cel):Calls Tryz.prog 221 #[c.val] w (Ac fun v w'=>v=.bool c.check∧Chg [] w w'):=by
 apply Tb
 intro K hK
 unfold Of
 simp -dsimp (disch:=first|omega|(simp only[go_sem,seval];try omega))only[go_sem,seval]
 have hc1:=((Chg.refl [] w).alloc (.cells c.cells.toArray 167)).drew
 refine BrW.dec (fun h=>?_) (fun h=>?_)
 ·refine Join1.inl ?_
  simp -dsimp (disch:=first|omega|(simp only[go_sem,seval];try omega))only[go_sem,seval]
  refine BrW.dec (fun h2=>?_) (fun h2=>?_)
  ·simp -dsimp (disch:=first|omega|(simp only[go_sem,seval];try omega))only[go_sem,seval]
   refine hK _ _ ⟨?_,hc1⟩
   simp [Cel.check,Cel.tail,Cel.wide,h,h2]
  ·simp -dsimp (disch:=first|omega|(simp only[go_sem,seval];try omega))only[go_sem,seval]
   refine hK _ _ ⟨?_,hc1⟩
   simp [Cel.check,Cel.tail,Cel.wide,h,h2]
 ·simp -dsimp (disch:=first|omega|(simp only[go_sem,seval];try omega))only[go_sem,seval]
  refine BrW.dec (fun h2=>?_) (fun h2=>?_)
  ·simp -dsimp (disch:=first|omega|(simp only[go_sem,seval];try omega))only[go_sem,seval]
   refine OpX.call Gy rfl (Calls.ret (FX _ c.r) ?_)
   rintro v w1 ⟨rfl,hc2⟩
   simp -dsimp (disch:=first|omega|(simp only[go_sem,seval];try omega))only[go_sem,seval]
   refine hK _ _ ⟨?_,hc1.trans0 hc2⟩
   simp [Cel.check,Cel.tail,Cel.wide,h,h2]
  ·simp -dsimp (disch:=first|omega|(simp only[go_sem,seval];try omega))only[go_sem,seval]
   refine OpX.call Gy rfl (Calls.ret (FX _ c.r) ?_)
   rintro v w1 ⟨rfl,hc2⟩
   simp -dsimp (disch:=first|omega|(simp only[go_sem,seval];try omega))only[go_sem,seval]
   refine hK _ _ ⟨?_,hc1.trans0 hc2⟩
   simp [Cel.check,Cel.tail,Cel.wide,h,h2]
theorem Lq (w:World) (c:Cel):Calls Tryz.prog 211 #[c.val] w (Ac fun v w'=>v=c.tailOf.val∧Chg [] w w'):=by
 apply Pk
 intro K hK
 unfold NT
 simp -dsimp (disch:=first|omega|(simp only[go_sem,seval];try omega))only[go_sem,seval]
 exact hK _ _ ⟨rfl,((Chg.refl [] w).alloc _).alloc _⟩
theorem Om (w:World) (c:Cel):Calls Tryz.prog 196 #[c.val] w (Ac fun v w'=>v=.bool c.single∧Chg [] w w'):=by
 apply Yk
 intro K hK
 unfold JJ
 simp -dsimp (disch:=first|omega|(simp only[go_sem,seval];try omega))only[go_sem,seval]
 have hc1:=(Chg.refl [] w).alloc (.cells c.cells.toArray 167)
 refine Join1.inl ?_
 simp -dsimp (disch:=first|omega|(simp only[go_sem,seval];try omega))only[go_sem,seval]
 refine BrW.dec (fun h=>?_) (fun h=>?_)
 ·simp -dsimp (disch:=first|omega|(simp only[go_sem,seval];try omega))only[go_sem,seval]
  refine OpX.call HQ rfl (Calls.ret (GY _ c) ?_)
  rintro v w1 ⟨rfl,hc2⟩
  refine hK _ _ ⟨?_,hc1.trans0 hc2⟩
  simp [Cel.single,Cel.plain,h]
 ·simp -dsimp (disch:=first|omega|(simp only[go_sem,seval];try omega))only[go_sem,seval]
  refine hK _ _ ⟨?_,hc1⟩
  simp [Cel.single,Cel.plain,h]
theorem FK (w:World):Calls Tryz.prog 162 #[] w (Ac fun v w'=>v=Cel.blank.val∧Chg [] w w'):=by
 apply Ri
 intro K hK
 unfold KU
 simp -dsimp (disch:=first|omega|(simp only[go_sem,seval];try omega))only[go_sem,seval]
 exact hK _ _ ⟨rfl,(Chg.refl [] w).alloc _⟩
theorem KA {w:World} {e:Option TypeId} {a:Option Addr} {l:List Cel} (hs:SxC w e a l) (cap x:Nat) (hx:x<l.length) (hl:l.length≤1000000000):Calls Tryz.prog 195 #[.slice a l.length cap,.int .i64 x] w (Ac fun v w'=>v=.bool (Bl l x)∧Chg [] w w'):=by
 obtain⟨b,o,rfl,hb,h1,-⟩:=SxC.cel hs (List.getElem?_eq_getElem hx)
 have hp:Bl l x=match l[x+1]? with|some d=>BH l[x] d|none=>false:=by
  unfold Bl;rw[List.getElem?_eq_getElem hx];cases l[x+1]?<;>rfl
 rw[hp]
 generalize l[x]=c at h1 ⊢
 apply QS
 intro K hK
 unfold Mp
 simp -dsimp (disch:=first|omega|(simp only[go_sem,seval];try omega))only[go_sem,seval,h1]
 have hc1:=((Chg.refl [] w).alloc (.cells c.cells.toArray 167)).drew
 refine Join1.inl ?_
 simp -dsimp (disch:=first|omega|(simp only[go_sem,seval];try omega))only[go_sem,seval]
 refine BrW.dec (fun h=>?_) (fun h=>?_)
 ·simp -dsimp (disch:=first|omega|(simp only[go_sem,seval];try omega))only[go_sem,seval]
  refine OpX.call HQ rfl (Calls.ret (GY _ c) ?_)
  rintro v w1 ⟨rfl,hc2⟩
  have hc3:=hc1.trans0 hc2
  refine BrW.by (fun h2=>?_) (fun h2=>?_)
  ·simp -dsimp (disch:=first|omega|(simp only[go_sem,seval];try omega))only[go_sem,seval]
   refine BrW.dec (fun h3=>?_) (fun h3=>?_)
   ·have hx':x+1<l.length:=by omega
    have hs1:=hs.chg0 hc3
    obtain⟨b',o',he,hb',h4,-⟩:=SxC.cel hs1 (List.getElem?_eq_getElem hx')
    cases he
    have h1':=hc2.keep (b:=w.heap.size) (o:=.cells c.cells.toArray 167) (by simp -dsimp (disch:=first|omega|(simp only[go_sem,seval];try omega))only[go_sem,seval]) (by simp)
    rw[List.getElem?_eq_getElem hx'] at hK
    dsimp only at hK
    generalize l[x+1]=d at h4 hK
    have h4':AU w1.heap[b]? (o+((x:Int)+1).toNat*4) 4=some #[.int .i32 d.r,.int .u8 d.fg.toNat,.int .u8 d.bg.toNat,.int .u8 d.a.toNat]:=h4
    simp -dsimp (disch:=first|omega|(simp only[go_sem,seval];try omega))only[go_sem,seval,h4',h1']
    refine OpX.call JQ rfl (Calls.ret (Lq _ c) ?_)
    rintro v w2 ⟨rfl,hc4⟩
    have h5:AU w2.heap[b]? (o+((x:Int)+1).toNat*4) 4=some #[.int .i32 d.r,.int .u8 d.fg.toNat,.int .u8 d.bg.toNat,.int .u8 d.a.toNat]:=by rw[hc4.same b hb' (by simp)];exact h4'
    simp -dsimp (disch:=first|omega|(simp only[go_sem,seval];try omega))only[go_sem,seval,h5,Cel.tailOf]
    refine hK _ _ ⟨?_,hc3.trans0 hc4⟩
    rw[BH,h2,Cel.wide,Rn]
    simp [h,Cel.tailOf]
    rfl
   ·simp -dsimp (disch:=first|omega|(simp only[go_sem,seval];try omega))only[go_sem,seval]
    refine hK _ _ ⟨?_,hc3⟩
    rw[List.getElem?_eq_none (by omega)]
  ·simp -dsimp (disch:=first|omega|(simp only[go_sem,seval];try omega))only[go_sem,seval]
   refine hK _ _ ⟨?_,hc3⟩
   cases l[x+1]?<;>simp [BH,h2]
 ·simp -dsimp (disch:=first|omega|(simp only[go_sem,seval];try omega))only[go_sem,seval]
  refine hK _ _ ⟨?_,hc1⟩
  cases l[x+1]?<;>simp [BH,Cel.wide,h]
theorem Pl {w:World} {e:Option TypeId} {a:Option Addr} {l:List Cel} (hs:SxC w e a l) (cap:Nat) (hl:l.length≤1000000000):Calls Tryz.prog 157 #[.slice a l.length cap] w (Ac fun v w'=>v=.bool (right l)∧Chg [] w w'):=by
 apply Tc
 intro K hK
 unfold Nw
 refine Loop1.st (fun k:Nat=>.int .i64 k) (fun k w'=>Chg [] w w'∧k≤l.length∧right l=right (l.drop k)) (fun k=>l.length-k) 0 rfl ⟨Chg.refl _ _,by omega,rfl⟩ ?_
 rintro next k w' hn ⟨hc,hk,he⟩
 simp -dsimp (disch:=first|omega|(simp only[go_sem,seval];try omega))only[go_sem,seval]
 refine BrW.dec (fun h1=>?_) (fun h1=>?_)
 ·have hk':k<l.length:=by omega
  have hst:=UW hk'
  have hs':=hs.chg0 hc
  refine OpX.call Jg rfl (Calls.ret (KA hs' cap k hk' hl) ?_)
  rintro v w1 ⟨rfl,hc1⟩
  refine BrW.by (fun h2=>?_) (fun h2=>?_)
  ·have:=Nq h2
   simp -dsimp (disch:=first|omega|(simp only[go_sem,seval];try omega))only[go_sem,seval]
   refine hn (k+2) _ ⟨hc.trans0 hc1,by omega,?_⟩ (by omega)
   rw[he,hst,h2];rfl
  ·obtain⟨b,o,rfl,hb,h3,-⟩:=SxC.cel (hs.chg0 (hc.trans0 hc1)) (List.getElem?_eq_getElem hk')
   simp -dsimp (disch:=first|omega|(simp only[go_sem,seval];try omega))only[go_sem,seval,h3]
   refine OpX.call Na rfl (Calls.ret (Om _ l[k]) ?_)
   rintro v w2 ⟨rfl,hc2⟩
   rw[h2] at hst
   simp only[Bool.false_eq_true,if_false] at hst
   simp -dsimp (disch:=first|omega|(simp only[go_sem,seval];try omega))only[go_sem,seval]
   refine BrW.by (fun h4=>?_) (fun h4=>?_)
   ·refine hK _ _ ⟨?_,(hc.trans0 hc1).trans0 hc2⟩
    rw[he,hst];simp at h4;simp [h4]
   ·simp -dsimp (disch:=first|omega|(simp only[go_sem,seval];try omega))only[go_sem,seval]
    refine hn (k+1) _ ⟨(hc.trans0 hc1).trans0 hc2,by omega,?_⟩ (by omega)
    rw[he,hst];simp at h4;simp [h4]
 ·have hk':k=l.length:=by omega
  refine hK _ _ ⟨?_,hc⟩
  rw[he,hk'];simp [right]
theorem Kf {w:World} {e:Option TypeId} {a:Option Addr} {l:List Cel} (hs:SxC w e a l) (cap:Nat) (hl:l.length≤100000):Calls Tryz.prog 143 #[.slice a l.length cap] w (Ac fun v w'=>Ox w.heap.size w' 167 4 Cel.cells v (AN l)∧Chg [] w w'):=by
 apply TJ
 intro K hK
 unfold Kw
 simp -dsimp (disch:=first|omega|(simp only[go_sem,seval];try omega))only[go_sem,seval]
 refine Kv (f:=Cel.cells) ⟨0,0,0,0⟩ J2 Cel.len rfl hl (by omega) (by omega) (Nat.le_refl _) ?_
 intro w1 hw1 ho1
 have hc1:Chg [] w w1:=by rw[hw1];exact(Chg.refl _ _).alloc _
 refine Rq (t:=57) Dq Cel.len Cel.ok ho1 (hs.chg0 hc1) rfl (by simp) ?_
 intro w2 ho2 hc3
 have hc2:=IF ho1 hc1 hc3
 clear hw1 ho1 hc1 hc3 w1
 refine Loop1.st (fun s:Nat × List Cel=>.int .i64 s.1) (fun s w'=>Chg [] w w'∧Ox w.heap.size w' 167 4 Cel.cells (.slice (some ⟨w.heap.size,0,none⟩) l.length l.length) s.2∧s.1≤l.length∧AN l=s.2.take s.1++AN (l.drop s.1)∧s.2.drop s.1=l.drop s.1∧s.2.length=l.length) (fun s=>l.length-s.1) (0,l) rfl ⟨hc2,ho2,by simp,rfl,rfl,rfl⟩ ?_
 rintro next ⟨k,out⟩ w' hn ⟨hc,ho,hk,he,hd,hlen⟩
 dsimp only at ho hk he hd hlen ⊢
 simp -dsimp (disch:=first|omega|(simp only[go_sem,seval];try omega))only[go_sem,seval]
 refine BrW.dec (fun h1=>?_) (fun h1=>?_)
 ·have hk':k<l.length:=by omega
  have hst:=Pq hk'
  refine OpX.call Jg rfl (Calls.ret (KA (hs.chg0 hc) cap k hk' (by omega)) ?_)
  rintro v w1 ⟨rfl,hc1⟩
  have hc1':=hc.trans0 hc1
  have ho1:=ho.chg0 hc1
  refine BrW.by (fun h2=>?_) (fun h2=>?_)
  ·have:=Nq h2
   simp -dsimp (disch:=first|omega|(simp only[go_sem,seval];try omega))only[go_sem,seval]
   refine hn (k+2,out) _ ⟨hc1',ho1,by dsimp only;omega,?_,?_,hlen⟩ (by dsimp only;omega)
   ·dsimp only
    rw[he,hst,h2,←hd,if_pos rfl,←List.append_assoc,←List.take_add]
   ·have:=congrArg (List.drop 2) hd
    simpa [List.drop_drop] using this
  ·rw[h2] at hst
   simp only[Bool.false_eq_true,if_false] at hst
   obtain⟨b,o,rfl,hb,h3,h4,h5,h6,h7⟩:=SxC.cel (hs.chg0 hc1') (List.getElem?_eq_getElem hk')
   simp -dsimp (disch:=first|omega|(simp only[go_sem,seval];try omega))only[go_sem,seval,h3]
   refine OpX.call Na rfl (Calls.ret (Om _ l[k]) ?_)
   rintro v w2 ⟨rfl,hc2⟩
   have hc2':=hc1'.trans0 hc2
   have ho2:=ho1.chg0 hc2
   simp -dsimp (disch:=first|omega|(simp only[go_sem,seval];try omega))only[go_sem,seval]
   have hout:out[k]?=some l[k]:=by
    have:=congrArg (·[0]?) hd
    simpa [List.getElem?_drop,hk'] using this
   refine BrW.by (fun h8=>?_) (fun h8=>?_)
   ·obtain⟨b',o',he',hb',h3,h4,h5,h6,h7⟩:=SxC.cel (hs.chg0 hc2') (List.getElem?_eq_getElem hk')
    cases he'
    have hko:k<out.length:=by omega
    obtain⟨g,cp,x',hv,hg,hgl,hput,ho3⟩:=ho2.put Cel.len hko ⟨32,l[k].fg,l[k].bg,0⟩
    have hv':=hv
    rw[Value.slice.injEq] at hv'
    obtain⟨hv1,-,-⟩:=hv'
    cases hv1
    have hput':Az w2.heap[w.heap.size]? (k*4) [.int .i32 32,.int .u8 l[k].fg.toNat,.int .u8 l[k].bg.toNat,.int .u8 0]=some x':=hput
    simp -dsimp (disch:=first|omega|(simp only[go_sem,seval];try omega))only[go_sem,seval,h5,h6,hput']
    refine hn (k+1,out.set k ⟨32,l[k].fg,l[k].bg,0⟩) _ ⟨(hc2'.set w.heap.size x' (.inr (Nat.le_refl _))).drew,ho3.chg0 (Chg.refl _ _).drew,by dsimp only;omega,?_,?_,by simpa using hlen⟩ (by dsimp only;omega)
    ·dsimp only
     rw[he,hst,List.take_add_one,List.take_set_of_le (Nat.le_refl _),List.getElem?_set_self hko]
     simp at h8
     simp [Cel.fix,h8]
    ·dsimp only
     rw[List.drop_set_of_lt (by omega)]
     have:=congrArg (List.drop 1) hd
     simpa [List.drop_drop] using this
   ·simp -dsimp (disch:=first|omega|(simp only[go_sem,seval];try omega))only[go_sem,seval]
    refine hn (k+1,out) _ ⟨hc2',ho2,by dsimp only;omega,?_,?_,hlen⟩ (by dsimp only;omega)
    ·dsimp only
     rw[he,hst,List.take_add_one,hout]
     simp at h8
     simp [Cel.fix,h8]
    ·have:=congrArg (List.drop 1) hd
     simpa [List.drop_drop] using this
 ·have hk':k=l.length:=by omega
  subst hk'
  refine hK _ _ ⟨?_,hc⟩
  rw[he]
  simpa [AN,List.take_of_length_le (Nat.le_of_eq hlen)] using ho
structure Rw where
 a:Option Addr
 cap:Nat
 cs:List Cel
def Rw.f (r:Rw):List Value:=[.slice r.a r.cs.length r.cap]
def Rw.val (r:Rw):Value:=.slice r.a r.cs.length r.cap
theorem Rw.len (r:Rw):r.f.length=1:=rfl
theorem Rw.ok (r:Rw):AP r.f=true:=rfl
structure Hs where
 room:Nat
 first:Nat
 a:Option Addr
 cap:Nat
 all:List Rw
def Hs.v (H:Hs):Value:=.slice H.a H.all.length H.cap
def rot {α:Type} (n:Nat) (l:List α):List α:=l.drop n++l.take n
def Hs.list (H:Hs):List (List Cel):=(rot H.first H.all).map Rw.cs
def Hs.blk (H:Hs):List Nat:=H.v.ownBlock.toList
structure HAt (w:World) (h:Nat) (H:Hs):Prop where
 hb:w.heap[h]?=some (.cells #[.int .i64 H.room,.int .i64 H.first,H.v] 226)
 own:Ox 0 w 57 1 Rw.f H.v H.all
 rows:∀r∈H.all,SxC w (some 167) r.a r.cs
 room1:H.room≤500
 fit:H.all.length≤H.room
 first1:H.first=0∨H.first<H.room
 first0:H.all.length<H.room→H.first=0
theorem Zs {α:Type} (n:Nat) (l:List α):(rot n l).length=l.length:=by
 unfold rot;simp;omega
theorem Hs.list_len (H:Hs):H.list.length=H.all.length:=by simp [Hs.list,Zs]
theorem Wc {α:Type} {n:Nat} {l:List α} (hn:n<l.length) (x:α):rot ((n+1) % l.length) (l.set n x)=(rot n l).tail++[x]:=by
 have hd:l.drop n=l[n]::l.drop (n+1):=List.drop_eq_getElem_cons hn
 have ht:(rot n l).tail=l.drop (n+1)++l.take n:=by unfold rot;rw[hd];rfl
 rw[ht]
 unfold rot
 by_cases h:n+1<l.length
 ·rw[Nat.mod_eq_of_lt h,List.drop_set_of_lt (by omega),List.take_add_one,List.take_set_of_le (Nat.le_refl _),List.getElem?_set_self hn]
  simp
 ·have:n+1=l.length:=by omega
  rw[this,Nat.mod_self,List.drop_eq_nil_of_le (Nat.le_refl _)]
  simp only[List.drop_zero,List.take_zero,List.append_nil,List.nil_append]
  have e:l=l.take n++[l[n]]:=by
   have:=List.take_append_drop n l
   rw[hd,List.drop_eq_nil_of_le (by omega:l.length≤n+1)] at this
   exact this.symm
  conv=>lhs;rw[e]
  rw[List.set_append_right _ _ (by simp;omega)]
  have h0:n-(l.take n).length=0:=by simp;omega
  rw[h0];simp
def CR (room:Nat) (l:List (List Cel)) (x:List Cel):List (List Cel):=if room=0 then l else if l.length<room then l++[x] else l.tail++[x]
theorem HAt.tags {w:World} {h:Nat} {H:Hs} (hh:HAt w h H):∀x∈h::H.blk,∃c e' fr,w.heap[x]?=some (.cells c e' fr)∧Nat.beq e' 167=false:=by
 intro x hx
 rcases List.mem_cons.1 hx with rfl|hx
 ·exact⟨_,_,_,hh.hb,rfl⟩
 ·obtain⟨hl,ho⟩:=hh.own
  rcases ho with ⟨hv,-⟩|⟨g,cap,cur,hv,-,hg,-⟩
  ·rw[Hs.blk,hv] at hx;simp [Value.ownBlock] at hx
  ·rw[Hs.blk,hv] at hx;simp [Value.ownBlock] at hx
   subst hx
   exact⟨_,_,_,hg,rfl⟩
theorem HAt.blk_lt {w:World} {h:Nat} {H:Hs} (hh:HAt w h H):∀x∈h::H.blk,x<w.heap.size:=by
 intro x hx
 obtain⟨c,e,fr,h1,-⟩:=hh.tags x hx
 exact Aa h1
theorem HAt.keeps {w w':World} {h:Nat} {H:Hs} (hh:HAt w h H) (hc:Chg (h::H.blk) w w') {a:Option Addr} {l:List Cel} (hs:SxC w (some 167) a l):SxC w' (some 167) a l:=by
 refine hs.chg hc fun b o ha hl hm=>?_
 obtain⟨c,e,fr,h1,h2⟩:=hh.tags b hm
 exact hs.ne ha hl h1 h2 rfl
theorem HAt.ne {w:World} {h:Nat} {H:Hs} (hh:HAt w h H):h∉H.blk:=by
 intro hx
 obtain⟨hl,ho⟩:=hh.own
 rcases ho with ⟨hv,-⟩|⟨g,cap,cur,hv,-,hg,-⟩
 ·rw[Hs.blk,hv] at hx;simp [Value.ownBlock] at hx
 ·rw[Hs.blk,hv] at hx;simp [Value.ownBlock] at hx
  subst hx
  rw[hh.hb] at hg
  simp at hg
theorem HAt.chg {w w':World} {h:Nat} {H:Hs} {F:List Nat} (hh:HAt w h H) (hc:Chg F w w') (hF:∀x∈h::H.blk,x∉F) (hr:∀r∈H.all,∀b o,r.a=some ⟨b,o,none⟩→r.cs≠[]→b∉F):HAt w' h H :=
 ⟨hc.keep hh.hb (hF h (by simp)),hh.own.chg hc fun b hb=>hF b (by simp [Hs.blk,←hb]),fun r hr'=>(hh.rows r hr').chg hc (hr r hr'),hh.room1,hh.fit,hh.first1,hh.first0⟩
theorem HAt.chg0 {w w':World} {h:Nat} {H:Hs} (hh:HAt w h H) (hc:Chg [] w w'):HAt w' h H:=hh.chg hc (by simp) (by simp)
theorem Th (w:World) (room:Int):Calls Tryz.prog 129 #[.int .i64 room] w (Ac fun v w'=>∃H,v=.pointer (some ⟨w.heap.size,0,none⟩)∧HAt w' w.heap.size H∧H.blk=[]∧H.list=[]∧H.room=(min (max room 0) 500).toNat∧Chg [] w w'):=by
 apply Pm
 intro K hK
 unfold KD
 simp -dsimp (disch:=first|omega|(simp only[go_sem,seval];try omega))only[go_sem,seval]
 refine hK _ _ ⟨⟨(min (max room 0) 500).toNat,0,none,0,[]⟩,rfl,⟨?_,Ox.nil _ _ _ _ _,by simp,by dsimp only;omega,by simp,.inl rfl,fun _=>rfl⟩,rfl,rfl,rfl,?_⟩
 ·have:(((min (max room 0) 500).toNat:Nat):Int)=min (max room 0) 500:=by omega
  simp -dsimp (disch:=first|omega|(simp only[go_sem,seval];try omega))only[go_sem,seval,this]
  rfl
 ·exact(Chg.refl [] w).alloc _
theorem XI {w:World} {h:Nat} {H:Hs} (hh:HAt w h H):Calls Tryz.prog 158 #[.pointer (some ⟨h,0,none⟩)] w (Ac fun v w'=>v=.int .i64 H.list.length∧w'=w):=by
 have hb:=hh.hb
 apply Wl
 intro K hK
 unfold Ny
 simp -dsimp (disch:=first|omega|(simp only[go_sem,seval];try omega))only[go_sem,seval,hb,Hs.v]
 exact hK _ _ ⟨by rw[H.list_len],rfl⟩
theorem WH {w:World} {h:Nat} {H:Hs} (hh:HAt w h H):Calls Tryz.prog 115 #[.pointer (some ⟨h,0,none⟩)] w (Ac fun v w'=>v=.int .i64 H.list.length∧w'=w):=by
 apply W4
 intro K hK
 unfold Mw
 simp -dsimp (disch:=first|omega|(simp only[go_sem,seval];try omega))only[go_sem,seval]
 refine OpX.call U5 rfl (Calls.ret (XI hh) ?_)
 rintro v w1 ⟨rfl,rfl⟩
 exact hK _ _ ⟨rfl,rfl⟩
theorem Zx (a b:Nat) (x:Int) (hx:x=a):x.tmod b=((a % b:Nat):Int):=by subst hx;rfl
theorem T8 {w:World} {h:Nat} {H:Hs} (hh:HAt w h H) (r:Rw) (hr:SxC w (some 167) r.a r.cs):Calls Tryz.prog 142 #[.pointer (some ⟨h,0,none⟩),r.val] w
  (Ac fun v w'=>∃H',HAt w' h H'∧H'.room=H.room∧H'.list=CR H.room H.list r.cs∧Chg (h::H.blk) w w'∧(∀b∈H'.blk,b∈H.blk∨w.heap.size≤b)∧∀x∈H'.all,x∈H.all∨x=r):=by
 have hb:=hh.hb
 have hlt:=Aa hb
 have hfit:=hh.fit
 have hroom:=hh.room1
 have hne:=hh.ne
 apply UC
 intro K hK
 unfold I3
 simp -dsimp (disch:=first|omega|(simp only[go_sem,seval];try omega))only[go_sem,seval,hb]
 refine BrW.dec (fun h1=>?_) (fun h1=>?_)
 ·refine hK _ _ ⟨H,hh,rfl,?_,Chg.refl _ _,fun b hb=>.inl hb,fun x hx=>.inl hx⟩
  simp [CR,show H.room=0 by omega]
 ·simp -dsimp (disch:=first|omega|(simp only[go_sem,seval];try omega))only[go_sem,seval,hb,Hs.v]
  refine BrW.dec (fun h2=>?_) (fun h2=>?_)
  ·have hc0:=((Chg.refl [] w).drew).alloc (.cells #[r.val] 57)
   have ho0:=hh.own.chg0 hc0
   simp -dsimp (disch:=first|omega|(simp only[go_sem,seval];try omega))only[go_sem,seval,hb,Hs.v,Rw.val]
   refine BL (f:=Rw.f) (l2:=[r]) H5 Rw.len Rw.ok ho0 (e':=some 57) (Sx.built (c:=r.f) (by simp -dsimp (disch:=first|omega|(simp only[go_sem,seval];try omega))only[go_sem,seval];rfl) (by simp)) rfl (by simp;omega) (by omega) (by omega) ?_
   intro v' w' ho hc hat
   have hc2:Chg H.blk w w':=(hc0.mono (by simp)).trans hc (by intro x hx;exact .inl hx)
   have hb2:=hc2.keep hb hne
   have hlt2:=Aa hb2
   obtain⟨a',cap',hv',-,-,hblk,-⟩:=ho.form
   subst hv'
   simp -dsimp (disch:=first|omega|(simp only[go_sem,seval];try omega))only[go_sem,seval,hb2]
   have hla:(H.all++[r]).length=H.all.length+1:=by simp
   have hf0:=hh.first0 (by omega)
   generalize hw2:Ab w' h _=w2
   have hc3:Chg [h] w' w2:=by rw[←hw2];exact(Chg.refl _ _).set _ _ (by simp)
   have hc4:Chg (h::H.blk) w w2:=(hc2.mono (by simp;intro x hx;exact .inl (.inr hx))).trans hc3 (by simp)
   have hb3:w2.heap[h]?=some (.cells #[.int .i64 H.room,.int .i64 H.first,.slice a' (H.all++[r]).length cap'] 226):=by rw[←hw2];simp -dsimp (disch:=first|omega|(simp only[go_sem,seval];try omega))only[go_sem,seval]
   refine hK _ _ ⟨⟨H.room,H.first,a',cap',H.all++[r]⟩,⟨hb3,ho.chg hc3 (fun b hbb=>?_),?_,hroom,by dsimp only;omega,hh.first1,fun h=>hf0⟩,rfl,?_,hc4,?_,fun x hx=>by rcases List.mem_append.1 hx with h|h<;>simp_all⟩
   ·intro hm
    simp at hm
    subst hm
    rcases hat with h7|h7
    ·exact hne (by rw[Hs.blk,Hs.v,←h7,←hbb];simp)
    ·rw[←hbb] at h7;simp at h7;omega
   ·intro x hx
    rcases List.mem_append.1 hx with hx|hx
    ·exact hh.keeps hc4 (hh.rows x hx)
    ·simp at hx;subst hx
     exact hh.keeps hc4 hr
   ·have e1:CR H.room H.list r.cs=H.list++[r.cs]:=by rw[CR,if_neg (by omega),if_pos (by rw[H.list_len];omega)]
    rw[e1]
    simp [Hs.list,hf0,rot]
   ·intro b hb
    simp only[Hs.blk,Hs.v] at hb
    rcases hat with h7|h7
    ·left;rw[Hs.blk,Hs.v,←h7];exact hb
    ·right;rw[h7] at hb;simp at hb;omega
  ·have hfull:H.all.length=H.room:=by omega
   have hf:H.first<H.all.length:=by have:=hh.first1;omega
   obtain⟨g,cp,x',hv,hg,hgl,hput,ho2⟩:=hh.own.put Rw.len hf r
   have hv1:H.a=some ⟨g,0,none⟩:=by have:=hv;simp [Hs.v] at this;exact this.1
   have hput':Az w.heap[g]? H.first [.slice r.a r.cs.length r.cap]=some x':=by simpa [Rw.f] using hput
   have hgb:g∈H.blk:=by rw[Hs.blk,hv];simp [Value.ownBlock]
   have hgh:h≠g:=fun e=>hne (e ▸ hgb)
   have hmod:((H.first:Int)+1).tmod (H.room:Int)=(((H.first+1) % H.room:Nat):Int):=Zx _ _ _ (by omega)
   simp -dsimp (disch:=first|omega|(simp only[go_sem,seval];try omega))only[go_sem,seval,hb,Hs.v,hv1,Rw.val,hput',hmod]
   generalize hw2:(Ab (Ab w g x') h _).drew.drew.drew=w2
   have hc2:Chg (h::H.blk) w w2:=by rw[←hw2];exact((((Chg.refl _ _).set _ _ (by simp [hgb])).set _ _ (by simp)).drew).drew.drew
   have hc3:Chg [h] (Ab w g x') w2:=by rw[←hw2];exact(((Chg.refl _ _).set _ _ (by simp)).drew).drew.drew
   have hmlt:=Nat.mod_lt (H.first+1) (show 0<H.room by omega)
   refine hK _ _ ⟨⟨H.room,(H.first+1) % H.room,H.a,H.cap,H.all.set H.first r⟩,⟨?_,?_,?_,hroom,by simpa using hfit,.inr hmlt,fun h9=>?_⟩,rfl,?_,hc2,?_,fun x hx=>List.mem_or_eq_of_mem_set hx⟩
   ·rw[←hw2]
    simp only[Gx]
    rw[Au _ _ _ _ rfl (by rw[Dv];exact hlt),Hs.v,hv1]
    simp
   ·refine Ox.chg (w:=Ab w g x') ?_ hc3 fun b hbb=>?_
    ·have e:(⟨H.room,(H.first+1) % H.room,H.a,H.cap,H.all.set H.first r⟩:Hs).v=H.v:=by simp [Hs.v]
     rw[e];exact ho2
    ·intro hm
     simp at hm;subst hm
     apply hne
     have e:(⟨H.room,(H.first+1) % H.room,H.a,H.cap,H.all.set H.first r⟩:Hs).v=H.v:=by simp [Hs.v]
     rw[e] at hbb
     rw[Hs.blk,←hbb];simp
   ·intro x hx
    rcases List.mem_or_eq_of_mem_set hx with hx|rfl
    ·exact hh.keeps hc2 (hh.rows x hx)
    ·exact hh.keeps hc2 hr
   ·simp at h9;omega
   ·have e1:CR H.room H.list r.cs=H.list.tail++[r.cs]:=by rw[CR,if_neg (by omega),if_neg (by rw[H.list_len];omega)]
    rw[e1]
    have:=Wc hf r
    rw[hfull] at this
    simp only[Hs.list]
    rw[this]
    simp [List.map_tail]
   ·intro b hbb
    left
    have e:(⟨H.room,(H.first+1) % H.room,H.a,H.cap,H.all.set H.first r⟩:Hs).v=H.v:=by simp [Hs.v]
    rw[Hs.blk,e] at hbb
    exact hbb
def Ec (room:Nat) (l:List (List Cel)) (xs:List (List Cel)):List (List Cel):=xs.foldl (fun l x=>CR room l (AN x)) l
theorem YG {w:World} {h:Nat} {H:Hs} (hh:HAt w h H) {e:Option TypeId} {a:Option Addr} {rs:List Rw} (ha:Sx w e Rw.f a rs) (hab:∀b o,a=some ⟨b,o,none⟩→b∉h::H.blk) (hr:∀r∈rs,SxC w (some 167) r.a r.cs) (hl:∀r∈rs,r.cs.length≤100000) (hlr:rs.length≤1000000) (cap:Nat) :
  Calls Tryz.prog 103 #[.pointer (some ⟨h,0,none⟩),.slice a rs.length cap] w
  (Ac fun v w'=>∃H',HAt w' h H'∧H'.room=H.room∧H'.list=Ec H.room H.list (rs.map Rw.cs)∧Chg (h::H.blk) w w'∧(∀b∈H'.blk,b∈H.blk∨w.heap.size≤b)∧∀x∈H'.all,x∈H.all∨∀b o,x.a=some ⟨b,o,none⟩→x.cs≠[]→w.heap.size≤b):=by
 apply QK
 intro K hK
 unfold J5
 simp -dsimp (disch:=first|omega|(simp only[go_sem,seval];try omega))only[go_sem,seval]
 refine Loop1.st (fun s:Nat × Hs=>.int .i64 s.1) (fun s w'=>s.1≤rs.length∧HAt w' h s.2∧s.2.room=H.room∧s.2.list=Ec H.room H.list ((rs.take s.1).map Rw.cs)∧Chg (h::H.blk) w w'∧(∀b∈s.2.blk,b∈H.blk∨w.heap.size≤b)∧∀x∈s.2.all,x∈H.all∨∀b o,x.a=some ⟨b,o,none⟩→x.cs≠[]→w.heap.size≤b) (fun s=>rs.length-s.1) (0,H) rfl ⟨by simp,hh,rfl,rfl,Chg.refl _ _,fun b hb=>.inl hb,fun x hx=>.inl hx⟩ ?_
 rintro next ⟨k,G⟩ w' hn ⟨hk,hG,hroom,hlist,hc,hblk,hall⟩
 dsimp only at hk hG hroom hlist hblk hall ⊢
 simp -dsimp (disch:=first|omega|(simp only[go_sem,seval];try omega))only[go_sem,seval]
 refine BrW.dec (fun h1=>?_) (fun h1=>?_)
 ·have hk':k<rs.length:=by omega
  have hgl:=hh.blk_lt
  have ha':Sx w' e Rw.f a rs:=ha.chg hc fun b o hb _=>hab b o hb
  obtain⟨b,o,rfl,hb,hcell⟩:=ha'.get1 (g:=Rw.val) (fun _=>rfl) (List.getElem?_eq_getElem hk')
  have hrk:SxC w' (some 167) rs[k].a rs[k].cs:=hh.keeps hc (hr _ (List.getElem_mem _))
  simp -dsimp (disch:=first|omega|(simp only[go_sem,seval];try omega))only[go_sem,seval,hcell,Rw.val]
  refine OpX.call NP rfl (Calls.ret (Kf (hrk.chg0 (Chg.refl _ _).drew) rs[k].cap (hl _ (List.getElem_mem _))) ?_)
  rintro v w1 ⟨ho,hc1⟩
  have hc1':Chg [] w' w1:=(Chg.refl _ _).drew.trans0 hc1
  obtain⟨a1,cap1,rfl,hcp,hs1,-,hnew⟩:=ho.form
  have hc2:Chg (h::H.blk) w w1:=hc.trans0 hc1'
  refine OpX.call VA rfl (Calls.ret (T8 (hG.chg0 hc1') ⟨a1,cap1,AN rs[k].cs⟩ hs1) ?_)
  rintro v w2 ⟨G',hG',hroom',hlist',hc3,hblk',hall'⟩
  simp -dsimp (disch:=first|omega|(simp only[go_sem,seval];try omega))only[go_sem,seval]
  refine hn (k+1,G') _ ⟨by dsimp only;omega,hG',hroom'.trans hroom,?_,?_,?_,?_⟩ (by dsimp only;omega)
  ·dsimp only
   rw[hlist',hlist,hroom,List.take_add_one,List.getElem?_eq_getElem hk']
   simp only[Option.toList,List.map_append,List.map_cons,List.map_nil,Ec,List.foldl_append,List.foldl_cons,List.foldl_nil]
  ·refine hc2.trans hc3 fun x hx=>?_
   rcases List.mem_cons.1 hx with rfl|hx
   ·exact .inl (by simp)
   ·rcases hblk x hx with h7|h7
    ·exact .inl (by simp [h7])
    ·exact .inr h7
  ·intro b hb
   dsimp only at hb
   rcases hblk' b hb with h7|h7
   ·exact hblk b h7
   ·right;have:=hc2.size;omega
  ·intro x hx
   rcases hall' x hx with h7|rfl
   ·exact hall x h7
   ·right
    intro b o hb hne
    obtain⟨g,hg,hge,-⟩:=hnew hne
    dsimp only at hb
    rw[hg] at hb
    cases hb
    have h8:w'.heap.size≤b:=hge
    have:=hc.size
    omega
 ·have hk':k=rs.length:=by omega
  subst hk'
  rw[List.take_length] at hlist
  exact hK _ _ ⟨G,hG,hroom,hlist,hc,hblk,hall⟩
def KO (p0:Value) (K:Value→World→Prop):World→Prop :=
 xB 59 p0 fun t1 =>
 xA 4 fun t2 =>
 Join1 (fun k1 =>
 xF 59 t1 0 fun t5 =>
 xL 3 t5 fun t6 =>
 xF 59 t1 1 fun t7 =>
 xL 3 t7 fun t8 =>
 xC 155 [.const t6,.const t8] [3,3] 4 fun t9 =>
 xN 4 t9 fun t10 =>
 xW t10
 (k1 (.bool true)) <|
 xF 59 t1 2 fun t12 =>
 xL 57 t12 fun t13 =>
 xU t13 57 fun t14 =>
 xF 59 t1 0 fun t15 =>
 xL 3 t15 fun t16 =>
 xF 59 t1 1 fun t17 =>
 xL 3 t17 fun t18 =>
 xO .mul 3 t16 t18 fun t19 =>
 xO .neq 3 t14 t19 fun t20 =>
 k1 t20) fun t21 =>
 xW t21
 (xS 4 t2 (.bool false) <|
 xD 4 t2 fun t2_1 =>
 K t2_1) <|
 xL 59 t1 fun t22 =>
 xF 59 t1 1 fun t23 =>
 xL 3 t23 fun t24 =>
 xC 156 [.const t22,.const (.int .i64 0),.const t24] [59,3,3] 271 fun t25 =>
 RngX Tryz.prog t25 2 (fun vs2 bg2 kn2 kr2 _ =>
 bg2 <|
 xC 157 [.const (By vs2 1)] [57] 4 fun t29 =>
 xN 4 t29 fun t30 =>
 xW t30
 (xS 4 t2 (.bool false) <|
 kr2) <|
 kn2)
 (fun r2 =>
 xS 4 t2 (.bool true) <|
 BN (B7 r2 (.tuple #[])) <|
 xD 4 t2 fun t2_2 =>
 K t2_2)
 (fun r2 =>
 BN (B7 r2 (.tuple #[])) <|
 xD 4 t2 fun t2_3 =>
 K t2_3)
 []
theorem Y0 (p0:Value):Lk 114 #[p0] (KO p0):=lk [p0] [(4,[21])] Tryz.func114
theorem DH:Ad Tryz.prog 114:=bd Tryz.func114
def L2 (p0 p1:Value) (K:Value→World→Prop):World→Prop :=
 xB 59 p0 fun t2 =>
 Join1 (fun k1 =>
 xL 59 t2 fun t5 =>
 xC 159 [.const t5] [59] 4 fun t6 =>
 xN 4 t6 fun t7 =>
 xW t7
 (k1 (.bool true)) <|
 xO .lss 3 p1 (.int .i64 0) fun t10 =>
 xW t10
 (k1 (.bool true)) <|
 xF 59 t2 1 fun t14 =>
 xL 3 t14 fun t15 =>
 xO .geq 3 p1 t15 fun t16 =>
 k1 t16) fun t17 =>
 xW t17
 (K (.slice none 0 0)) <|
 xL 59 t2 fun t18 =>
 xC 161 [.const t18,.const p1] [59,3] 57 fun t20 =>
 xC 160 [.const t20] [57] 57 fun t21 =>
 K t21
theorem SC (p0 p1:Value):Lk 116 #[p0,p1] (L2 p0 p1):=lk [p0,p1] [(4,[17])] Tryz.func116
theorem Zj:Ad Tryz.prog 116:=bd Tryz.func116
def LQ (p0 p1:Value) (K:Value→World→Prop):World→Prop :=
 Join1 (fun k1 =>
 xO .geq 3 p0 (.int .i64 1) fun t6 =>
 xW t6
 (xO .leq 3 p0 (.int .i64 200) fun t9 =>
 xW t9
 (xO .geq 3 p1 (.int .i64 1) fun t13 =>
 xW t13
 (xO .leq 3 p1 (.int .i64 60) fun t17 =>
 k1 t17) <|
 k1 (.bool false)) <|
 k1 (.bool false)) <|
 k1 (.bool false)) fun t4 =>
 K t4
theorem XB (p0 p1:Value):Lk 155 #[p0,p1] (LQ p0 p1):=lk [p0,p1] [(3,[4])] Tryz.func155
theorem IE:Ad Tryz.prog 155:=bd Tryz.func155
def MG (p0 p1 p2:Value) (K:Value→World→Prop):World→Prop :=
 xB 59 p0 fun t3 =>
 xB 3 p1 fun t4 =>
 xB 3 p2 fun t5 =>
 OpX Tryz.prog (.makeFunc (.func 203) #[] #[.const t4,.const t5,.const t3]) 270 fun t7 =>
 K t7
theorem Uv (p0 p1 p2:Value):Lk 156 #[p0,p1,p2] (MG p0 p1 p2):=lk [p0,p1,p2] [] Tryz.func156
theorem NY:Ad Tryz.prog 156:=bd Tryz.func156
def OR (p0:Value) (K:Value→World→Prop):World→Prop :=
 xB 59 p0 fun t1 =>
 Aj <|
 Join1 (fun k1 =>
 qF 59 t1 0 fun t3 =>
 qL 3 t3 fun t4 =>
 qP .geq 3 t4 (.int .i64 1) fun t5 =>
 xW t5
 (qF 59 t1 1 fun t7 =>
 qL 3 t7 fun t8 =>
 qP .geq 3 t8 (.int .i64 1) fun t9 =>
 xW t9
 (qF 59 t1 2 fun t12 =>
 qL 57 t12 fun t13 =>
 xR (.call { callee:=.builtin .len,args:=#[.const t13],argTypes:=#[57] }) 3 fun t14 =>
 qF 59 t1 0 fun t15 =>
 qL 3 t15 fun t16 =>
 qP .quo 3 t14 t16 fun t17 =>
 qF 59 t1 1 fun t18 =>
 qL 3 t18 fun t19 =>
 qP .geq 3 t17 t19 fun t20 =>
 k1 t20) <|
 k1 (.bool false)) <|
 k1 (.bool false)) fun t2 =>
 K t2
theorem Ws (p0:Value):Lk 159 #[p0] (OR p0):=lk [p0] [(3,[2])] Tryz.func159
theorem Yv:Ad Tryz.prog 159:=bd Tryz.func159
def KW (p0 p1:Value) (K:Value→World→Prop):World→Prop :=
 xB 59 p0 fun t2 =>
 xF 59 t2 2 fun t5 =>
 xL 57 t5 fun t6 =>
 xF 59 t2 0 fun t8 =>
 xL 3 t8 fun t9 =>
 xO .mul 3 p1 t9 fun t10 =>
 xO .add 3 p1 (.int .i64 1) fun t12 =>
 xF 59 t2 0 fun t13 =>
 xL 3 t13 fun t14 =>
 xO .mul 3 t12 t14 fun t15 =>
 xO .add 3 p1 (.int .i64 1) fun t17 =>
 xF 59 t2 0 fun t18 =>
 xL 3 t18 fun t19 =>
 xO .mul 3 t17 t19 fun t20 =>
 OpX Tryz.prog (.slice 57 (.const t6) (some (.const t10)) (some (.const t15)) (some (.const t20))) 57 fun t21 =>
 K t21
theorem Tj (p0 p1:Value):Lk 161 #[p0,p1] (KW p0 p1):=lk [p0,p1] [] Tryz.func161
theorem Fk:Ad Tryz.prog 161:=bd Tryz.func161
def Jy (p0 p1:Value) (K:Value→World→Prop):World→Prop :=
 xA 59 fun t4 =>
 xC 155 [.const p0,.const p1] [3,3] 4 fun t7 =>
 xN 4 t7 fun t8 =>
 xW t8
 (OpX Tryz.prog (.build 59 #[]) 59 fun t9 =>
 xS 59 t4 t9 <|
 xD 59 t4 fun t4_1 =>
 K t4_1) <|
 xC 162 [] [] 167 fun t12 =>
 xC 204 [.const p0,.const p1,.const t12] [3,3,167] 59 fun t13 =>
 xS 59 t4 t13 <|
 xD 59 t4 fun t4_2 =>
 K t4_2
theorem WC (p0 p1:Value):Lk 167 #[p0,p1] (Jy p0 p1):=lk [p0,p1] [] Tryz.func167
theorem EG:Ad Tryz.prog 167:=bd Tryz.func167
def I1 (p0 p1 p2 p3:Value) (K:Value→World→Prop):World→Prop :=
 xB 59 p0 fun t4 =>
 xB 167 p3 fun t7 =>
 xA 59 fun t8 =>
 Join1 (fun k1 =>
 xL 59 t4 fun t9 =>
 xC 114 [.const t9] [59] 4 fun t10 =>
 xN 4 t10 fun t11 =>
 xW t11
 (k1 (.bool true)) <|
 xL 167 t7 fun t13 =>
 xC 205 [.const t13] [167] 4 fun t14 =>
 xN 4 t14 fun t15 =>
 xW t15
 (k1 (.bool true)) <|
 xC 155 [.const p1,.const p2] [3,3] 4 fun t20 =>
 xN 4 t20 fun t21 =>
 k1 t21) fun t22 =>
 xW t22
 (xL 59 t4 fun t23 =>
 xS 59 t8 t23 <|
 xD 59 t8 fun t8_1 =>
 K t8_1) <|
 Aj <|
 Join0 (fun k2 =>
 qL 167 t7 fun t26 =>
 qF 59 t4 1 fun t29 =>
 qL 3 t29 fun t30 =>
 xP (.call { callee:=.builtin .min,args:=#[.const p2,.const t30],argTypes:=#[3,3] }) 3 fun t31 =>
 xT (xC 204 [.const p1,.const p2,.const t26] [3,3,167] 59 fun t27 =>
 xT (qZ 3 t29 t30) <|
 OpX Tryz.prog (.makeFunc (.func 207) #[] #[.const t4]) 305 fun t32 =>
 xT (qZ 3 t29 t30) <|
 xC 206 [.const t27,.const (.int .i64 0),.const t31,.const t32] [59,3,3,305] 59 fun t33 =>
 xS 59 t8 t33 <|
 k2) <|
 OpX Tryz.prog (.makeFunc (.func 207) #[] #[.const t4]) 305 fun t32_1 =>
 xT (qZ 3 t29 t30) <|
 xT (qZ 167 t7 t26) <|
 xC 204 [.const p1,.const p2,.const t26] [3,3,167] 59 fun t27_1 =>
 xT (qZ 3 t29 t30) <|
 xC 206 [.const t27_1,.const (.int .i64 0),.const t31,.const t32_1] [59,3,3,305] 59 fun t33_1 =>
 xS 59 t8 t33_1 <|
 k2) <|
 xD 59 t8 fun t8_2 =>
 K t8_2
theorem RB (p0 p1 p2 p3:Value):Lk 168 #[p0,p1,p2,p3] (I1 p0 p1 p2 p3):=lk [p0,p1,p2,p3] [(4,[22]),(11,[])] Tryz.func168
theorem OB:Ad Tryz.prog 168:=bd Tryz.func168
def KK (p0 p1 p2 p3:Value) (K:Value→World→Prop):World→Prop :=
 xB 59 p0 fun t4 =>
 xB 3 p1 fun t5 =>
 xB 57 p3 fun t7 =>
 xA 59 fun t8 =>
 xL 59 t4 fun t13 =>
 xC 114 [.const t13] [59] 4 fun t14 =>
 xN 4 t14 fun t15 =>
 xW t15
 (xL 59 t4 fun t16 =>
 xS 59 t8 t16 <|
 xD 59 t8 fun t8_1 =>
 K t8_1) <|
 xF 59 t4 1 fun t19 =>
 xL 3 t19 fun t20 =>
 xC 209 [.const p2,.const (.int .i64 1),.const t20] [3,3,3] 25 fun t21 =>
 xE t21 0 3 fun t22 =>
 xE t21 1 3 fun t23 =>
 xL 3 t5 fun t25 =>
 xL 57 t7 fun t26 =>
 xU t26 57 fun t27 =>
 xF 59 t4 0 fun t28 =>
 xL 3 t28 fun t29 =>
 xC 209 [.const t25,.const t27,.const t29] [3,3,3] 25 fun t30 =>
 xE t30 0 3 fun t31 =>
 xE t30 1 3 fun t32 =>
 xA 3 fun t11 =>
 xA 3 fun t12 =>
 xS 3 t11 t31 <|
 xS 3 t12 t32 <|
 xL 59 t4 fun t33 =>
 OpX Tryz.prog (.makeFunc (.func 210) #[] #[.const t11,.const t12,.const t7,.const t5]) 305 fun t36 =>
 xC 206 [.const t33,.const t22,.const t23,.const t36] [59,3,3,305] 59 fun t37 =>
 xS 59 t8 t37 <|
 xD 59 t8 fun t8_2 =>
 K t8_2
theorem U7 (p0 p1 p2 p3:Value):Lk 181 #[p0,p1,p2,p3] (KK p0 p1 p2 p3):=lk [p0,p1,p2,p3] [] Tryz.func181
theorem Pr:Ad Tryz.prog 181:=bd Tryz.func181
def OX (p0 p1 p2 p3:Value) (K:Value→World→Prop):World→Prop :=
 xL 3 p1 fun t6 =>
 OpX Tryz.prog (.call { callee:=.builtin .max,args:=#[.const t6,.const (.int .i64 0)],argTypes:=#[3,3] }) 3 fun t7 =>
 Loop1 t7 fun t5 next1 =>
 xL 3 p2 fun t9 =>
 xF 59 p3 1 fun t10 =>
 xL 3 t10 fun t11 =>
 OpX Tryz.prog (.call { callee:=.builtin .min,args:=#[.const t9,.const t11],argTypes:=#[3,3] }) 3 fun t12 =>
 xO .lss 3 t5 t12 fun t13 =>
 xW t13
 (xL 59 p3 fun t18 =>
 xC 161 [.const t18,.const t5] [59,3] 57 fun t20 =>
 OpX Tryz.prog (.call { callee:=.value (.const p0),args:=#[.const t5,.const t20],argTypes:=#[3,57] }) 4 fun t21 =>
 xN 4 t21 fun t22 =>
 xW t22
 (K (.tuple #[])) <|
 xO .add 3 t5 (.int .i64 1) fun t15 =>
 next1 t15) <|
 K (.tuple #[])
theorem Wr (p0 p1 p2 p3:Value):Lk 203 #[p0,p1,p2,p3] (OX p0 p1 p2 p3):=lk [p0,p1,p2,p3] [(3,[5])] Tryz.func203
theorem PG:Ad Tryz.prog 203:=bd Tryz.func203
def Kc (p0 p1 p2:Value) (K:Value→World→Prop):World→Prop :=
 xB 167 p2 fun t5 =>
 xA 59 fun t6 =>
 xL 167 t5 fun t9 =>
 OpX Tryz.prog (.buildSlice 57 1 #[(0,.const t9)]) 57 fun t10 =>
 xO .mul 3 p0 p1 fun t13 =>
 xC 223 [.const t10,.const t13] [57,3] 57 fun t14 =>
 OpX Tryz.prog (.build 59 #[(0,.const p0),(1,.const p1),(2,.const t14)]) 59 fun t15 =>
 xS 59 t6 t15 <|
 xD 59 t6 fun t6_1 =>
 K t6_1
theorem QF (p0 p1 p2:Value):Lk 204 #[p0,p1,p2] (Kc p0 p1 p2):=lk [p0,p1,p2] [] Tryz.func204
theorem Il:Ad Tryz.prog 204:=bd Tryz.func204
def MR (p0:Value) (K:Value→World→Prop):World→Prop :=
 xB 167 p0 fun t1 =>
 Join1 (fun k1 =>
 xL 167 t1 fun t3 =>
 xC 221 [.const t3] [167] 4 fun t4 =>
 xW t4
 (xF 167 t1 3 fun t6 =>
 xL 5 t6 fun t7 =>
 xO .and 5 t7 (.int .u8 192) fun t8 =>
 xO .eql 5 t8 (.int .u8 0) fun t9 =>
 k1 t9) <|
 k1 (.bool false)) fun t2 =>
 K t2
theorem Tt (p0:Value):Lk 205 #[p0] (MR p0):=lk [p0] [(3,[2])] Tryz.func205
theorem Ge:Ad Tryz.prog 205:=bd Tryz.func205
def Nr (p0 p1 p2 p3:Value) (K:Value→World→Prop):World→Prop :=
 xB 59 p0 fun t4 =>
 xB 305 p3 fun t7 =>
 xA 59 fun t8 =>
 xF 59 t4 2 fun t11 =>
 xL 57 t11 fun t12 =>
 xC 160 [.const t12] [57] 57 fun t13 =>
 xF 59 t4 2 fun t14 =>
 xS 57 t14 t13 <|
 xL 59 t4 fun t15 =>
 xC 156 [.const t15,.const p1,.const p2] [59,3,3] 271 fun t18 =>
 RngX Tryz.prog t18 2 (fun vs1 bg1 kn1 _ _ =>
 bg1 <|
 xL 305 t7 fun t21 =>
 OpX Tryz.prog (.call { callee:=.value (.const t21),args:=#[.const (By vs1 0),.const (By vs1 1)],argTypes:=#[3,57] }) 0 fun _ =>
 xC 143 [.const (By vs1 1)] [57] 57 fun t27 =>
 OpX Tryz.prog (.call { callee:=.builtin .copy,args:=#[.const (By vs1 1),.const t27],argTypes:=#[57,57] }) 3 fun _ =>
 kn1)
 (fun r1 =>
 xL 59 t4 fun t29 =>
 xS 59 t8 t29 <|
 BN (B7 r1 (.tuple #[])) <|
 xD 59 t8 fun t8_1 =>
 K t8_1)
 (fun _ _=>False)
 []
theorem UB (p0 p1 p2 p3:Value):Lk 206 #[p0,p1,p2,p3] (Nr p0 p1 p2 p3):=lk [p0,p1,p2,p3] [] Tryz.func206
theorem DP:Ad Tryz.prog 206:=bd Tryz.func206
def OE (p0 p1 p2:Value) (K:Value→World→Prop):World→Prop :=
 xL 59 p2 fun t6 =>
 xC 161 [.const t6,.const p0] [59,3] 57 fun t8 =>
 OpX Tryz.prog (.call { callee:=.builtin .copy,args:=#[.const p1,.const t8],argTypes:=#[57,57] }) 3 fun _ =>
 K (.tuple #[])
theorem Xh (p0 p1 p2:Value):Lk 207 #[p0,p1,p2] (OE p0 p1 p2):=lk [p0,p1,p2] [] Tryz.func207
theorem Ts:Ad Tryz.prog 207:=bd Tryz.func207
def Kt (p0 p1 p2:Value) (K:Value→World→Prop):World→Prop :=
 Join1 (fun k1 =>
 xO .leq 3 p1 (.int .i64 0) fun t9 =>
 xW t9
 (k1 (.bool true)) <|
 xO .geq 3 p0 p2 fun t13 =>
 xW t13
 (k1 (.bool true)) <|
 xO .lss 3 p0 (.int .i64 0) fun t17 =>
 xW t17
 (xO .add 3 p0 p1 fun t21 =>
 xO .leq 3 t21 (.int .i64 0) fun t22 =>
 k1 t22) <|
 k1 (.bool false)) fun t24 =>
 xW t24
 (K (.tuple #[(.int .i64 0),(.int .i64 0)])) <|
 xO .lss 3 p0 (.int .i64 0) fun t26 =>
 xW t26
 (xO .add 3 p0 p1 fun t29 =>
 OpX Tryz.prog (.call { callee:=.builtin .min,args:=#[.const t29,.const p2],argTypes:=#[3,3] }) 3 fun t31 =>
 K (.tuple #[(.int .i64 0),t31])) <|
 xO .sub 3 p2 p0 fun t37 =>
 OpX Tryz.prog (.call { callee:=.builtin .min,args:=#[.const p1,.const t37],argTypes:=#[3,3] }) 3 fun t38 =>
 xO .add 3 p0 t38 fun t39 =>
 K (.tuple #[p0,t39])
theorem X0 (p0 p1 p2:Value):Lk 209 #[p0,p1,p2] (Kt p0 p1 p2):=lk [p0,p1,p2] [(4,[24])] Tryz.func209
theorem Fi:Ad Tryz.prog 209:=bd Tryz.func209
def Ll (p0 p1 p2 p3 p4 p5:Value) (K:Value→World→Prop):World→Prop :=
 xL 3 p2 fun t9 =>
 Loop1 t9 fun t8 next1 =>
 xL 3 p3 fun t11 =>
 xO .lss 3 t8 t11 fun t12 =>
 xW t12
 (xL 57 p4 fun t17 =>
 xL 3 p5 fun t19 =>
 xO .sub 3 t8 t19 fun t20 =>
 xI 57 t17 t20 fun t21 =>
 xL 167 t21 fun t22 =>
 xI 57 p1 t8 fun t23 =>
 xS 167 t23 t22 <|
 xO .add 3 t8 (.int .i64 1) fun t14 =>
 next1 t14) <|
 K (.tuple #[])
theorem YX (p0 p1 p2 p3 p4 p5:Value):Lk 210 #[p0,p1,p2,p3,p4,p5] (Ll p0 p1 p2 p3 p4 p5):=lk [p0,p1,p2,p3,p4,p5] [(3,[8])] Tryz.func210
theorem Xg:Ad Tryz.prog 210:=bd Tryz.func210
def Jb (p0 p1 p2 p3 p4:Value) (K:Value→World→Prop):World→Prop :=
 xB 59 p0 fun t5 =>
 xB 3 p1 fun t6 =>
 xB 3 p3 fun t8 =>
 xB 167 p4 fun t9 =>
 xA 59 fun t10 =>
 Join1 (fun k1 =>
 xL 59 t5 fun t13 =>
 xC 114 [.const t13] [59] 4 fun t14 =>
 xN 4 t14 fun t15 =>
 xW t15
 (k1 (.bool true)) <|
 xL 167 t9 fun t17 =>
 xC 205 [.const t17] [167] 4 fun t18 =>
 xN 4 t18 fun t19 =>
 k1 t19) fun t20 =>
 xW t20
 (xL 59 t5 fun t21 =>
 xS 59 t10 t21 <|
 xD 59 t10 fun t10_1 =>
 K t10_1) <|
 Aj <|
 qL 3 t6 fun t22 =>
 xP (.call { callee:=.builtin .max,args:=#[.const t22,.const (.int .i64 0)],argTypes:=#[3,3] }) 3 fun t23 =>
 qL 3 t8 fun t24 =>
 qF 59 t5 0 fun t25 =>
 qL 3 t25 fun t26 =>
 xP (.unOp .neg 3 (.const t26)) 3 fun t27 =>
 xP (.call { callee:=.builtin .max,args:=#[.const t24,.const t27],argTypes:=#[3,3] }) 3 fun t28 =>
 qF 59 t5 0 fun t29 =>
 qL 3 t29 fun t30 =>
 xP (.call { callee:=.builtin .min,args:=#[.const t28,.const t30],argTypes:=#[3,3] }) 3 fun t31 =>
 xS 3 t6 t23 <|
 xT (qZ 3 t29 t30) <|
 xT (qZ 3 t25 t26) <|
 xT (qZ 3 t8 t24) <|
 xS 3 t8 t31 <|
 xF 59 t5 1 fun t34 =>
 xL 3 t34 fun t35 =>
 xC 209 [.const p2,.const (.int .i64 1),.const t35] [3,3,3] 25 fun t36 =>
 xE t36 0 3 fun t37 =>
 xE t36 1 3 fun t38 =>
 xL 59 t5 fun t39 =>
 OpX Tryz.prog (.makeFunc (.func 231) #[] #[.const t5,.const t6,.const t9,.const t8]) 305 fun t42 =>
 xC 206 [.const t39,.const t37,.const t38,.const t42] [59,3,3,305] 59 fun t43 =>
 xS 59 t10 t43 <|
 xD 59 t10 fun t10_2 =>
 K t10_2
theorem QW (p0 p1 p2 p3 p4:Value):Lk 218 #[p0,p1,p2,p3,p4] (Jb p0 p1 p2 p3 p4):=lk [p0,p1,p2,p3,p4] [(4,[20])] Tryz.func218
theorem UG:Ad Tryz.prog 218:=bd Tryz.func218
def Ni (p0 p1 p2 p3 p4:Value) (K:Value→World→Prop):World→Prop :=
 xB 59 p0 fun t5 =>
 xB 3 p1 fun t6 =>
 xB 3 p2 fun t7 =>
 xB 3 p3 fun t8 =>
 xB 167 p4 fun t9 =>
 xA 59 fun t10 =>
 Join1 (fun k1 =>
 xL 59 t5 fun t11 =>
 xC 114 [.const t11] [59] 4 fun t12 =>
 xN 4 t12 fun t13 =>
 xW t13
 (k1 (.bool true)) <|
 xL 167 t9 fun t15 =>
 xC 205 [.const t15] [167] 4 fun t16 =>
 xN 4 t16 fun t17 =>
 k1 t17) fun t18 =>
 xW t18
 (xL 59 t5 fun t19 =>
 xS 59 t10 t19 <|
 xD 59 t10 fun t10_1 =>
 K t10_1) <|
 Aj <|
 qL 3 t6 fun t20 =>
 xP (.call { callee:=.builtin .max,args:=#[.const t20,.const (.int .i64 0)],argTypes:=#[3,3] }) 3 fun t21 =>
 qF 59 t5 1 fun t22 =>
 qL 3 t22 fun t23 =>
 xP (.call { callee:=.builtin .min,args:=#[.const t21,.const t23],argTypes:=#[3,3] }) 3 fun t24 =>
 qL 3 t7 fun t25 =>
 xP (.call { callee:=.builtin .max,args:=#[.const t25,.const (.int .i64 0)],argTypes:=#[3,3] }) 3 fun t26 =>
 qF 59 t5 1 fun t27 =>
 qL 3 t27 fun t28 =>
 xP (.call { callee:=.builtin .min,args:=#[.const t26,.const t28],argTypes:=#[3,3] }) 3 fun t29 =>
 xS 3 t6 t24 <|
 xT (qZ 3 t27 t28) <|
 xT (qZ 3 t7 t25) <|
 xS 3 t7 t29 <|
 xL 3 t8 fun t30 =>
 xF 59 t5 1 fun t31 =>
 xL 3 t31 fun t32 =>
 OpX Tryz.prog (.unOp .neg 3 (.const t32)) 3 fun t33 =>
 OpX Tryz.prog (.call { callee:=.builtin .max,args:=#[.const t30,.const t33],argTypes:=#[3,3] }) 3 fun t34 =>
 xF 59 t5 1 fun t35 =>
 xL 3 t35 fun t36 =>
 OpX Tryz.prog (.call { callee:=.builtin .min,args:=#[.const t34,.const t36],argTypes:=#[3,3] }) 3 fun t37 =>
 xS 3 t8 t37 <|
 xL 59 t5 fun t38 =>
 xL 3 t6 fun t39 =>
 xL 3 t7 fun t40 =>
 OpX Tryz.prog (.makeFunc (.func 233) #[] #[.const t8,.const t6,.const t7,.const t9,.const t5]) 305 fun t41 =>
 xC 206 [.const t38,.const t39,.const t40,.const t41] [59,3,3,305] 59 fun t42 =>
 xS 59 t10 t42 <|
 xD 59 t10 fun t10_2 =>
 K t10_2
theorem Ze (p0 p1 p2 p3 p4:Value):Lk 225 #[p0,p1,p2,p3,p4] (Ni p0 p1 p2 p3 p4):=lk [p0,p1,p2,p3,p4] [(4,[18])] Tryz.func225
theorem ZD:Ad Tryz.prog 225:=bd Tryz.func225
def LW (p0 p1 p2:Value) (K:Value→World→Prop):World→Prop :=
 xB 59 p0 fun t3 =>
 xB 49 p1 fun t4 =>
 xB 167 p2 fun t5 =>
 xA 59 fun t6 =>
 Join1 (fun k1 =>
 xL 59 t3 fun t11 =>
 xC 114 [.const t11] [59] 4 fun t12 =>
 xN 4 t12 fun t13 =>
 xW t13
 (k1 (.bool true)) <|
 xL 167 t5 fun t15 =>
 xC 205 [.const t15] [167] 4 fun t16 =>
 xN 4 t16 fun t17 =>
 k1 t17) fun t18 =>
 xW t18
 (xL 59 t3 fun t19 =>
 xS 59 t6 t19 <|
 xD 59 t6 fun t6_1 =>
 K t6_1) <|
 xF 49 t4 1 fun t21 =>
 xL 3 t21 fun t22 =>
 xF 49 t4 3 fun t23 =>
 xL 3 t23 fun t24 =>
 xF 59 t3 1 fun t25 =>
 xL 3 t25 fun t26 =>
 xC 209 [.const t22,.const t24,.const t26] [3,3,3] 25 fun t27 =>
 xE t27 0 3 fun t28 =>
 xE t27 1 3 fun t29 =>
 xF 49 t4 0 fun t31 =>
 xL 3 t31 fun t32 =>
 xF 49 t4 2 fun t33 =>
 xL 3 t33 fun t34 =>
 xF 59 t3 0 fun t35 =>
 xL 3 t35 fun t36 =>
 xC 209 [.const t32,.const t34,.const t36] [3,3,3] 25 fun t37 =>
 xE t37 0 3 fun t38 =>
 xE t37 1 3 fun t39 =>
 xA 3 fun t9 =>
 xA 3 fun t10 =>
 xS 3 t9 t38 <|
 xS 3 t10 t39 <|
 xL 59 t3 fun t40 =>
 OpX Tryz.prog (.makeFunc (.func 238) #[] #[.const t9,.const t10,.const t5]) 305 fun t43 =>
 xC 206 [.const t40,.const t28,.const t29,.const t43] [59,3,3,305] 59 fun t44 =>
 xS 59 t6 t44 <|
 xD 59 t6 fun t6_2 =>
 K t6_2
theorem Vq (p0 p1 p2:Value):Lk 229 #[p0,p1,p2] (LW p0 p1 p2):=lk [p0,p1,p2] [(4,[18])] Tryz.func229
theorem Lb:Ad Tryz.prog 229:=bd Tryz.func229
def MH (p0 p1 p2 p3 p4 p5:Value) (K:Value→World→Prop):World→Prop :=
 xL 59 p2 fun t10 =>
 xC 161 [.const t10,.const p0] [59,3] 57 fun t12 =>
 xL 3 p3 fun t13 =>
 Loop1 t13 fun t9 next1 =>
 xF 59 p2 0 fun t15 =>
 xL 3 t15 fun t16 =>
 xO .lss 3 t9 t16 fun t17 =>
 xW t17
 (xL 167 p4 fun t22 =>
 xI 57 p1 t9 fun t23 =>
 xS 167 t23 t22 <|
 Join1 (fun k2 =>
 xL 3 p5 fun t25 =>
 xO .sub 3 t9 t25 fun t26 =>
 xL 3 p3 fun t27 =>
 xO .geq 3 t26 t27 fun t28 =>
 xW t28
 (xL 3 p5 fun t31 =>
 xO .sub 3 t9 t31 fun t32 =>
 xF 59 p2 0 fun t33 =>
 xL 3 t33 fun t34 =>
 xO .lss 3 t32 t34 fun t35 =>
 k2 t35) <|
 k2 (.bool false)) fun t36 =>
 xW t36
 (xL 3 p5 fun t41 =>
 xO .sub 3 t9 t41 fun t42 =>
 xI 57 t12 t42 fun t43 =>
 xL 167 t43 fun t44 =>
 xI 57 p1 t9 fun t45 =>
 xS 167 t45 t44 <|
 xO .add 3 t9 (.int .i64 1) fun t19 =>
 next1 t19) <|
 xO .add 3 t9 (.int .i64 1) fun t19_1 =>
 next1 t19_1) <|
 K (.tuple #[])
theorem ZW (p0 p1 p2 p3 p4 p5:Value):Lk 231 #[p0,p1,p2,p3,p4,p5] (MH p0 p1 p2 p3 p4 p5):=lk [p0,p1,p2,p3,p4,p5] [(5,[9]),(17,[36])] Tryz.func231
theorem XM:Ad Tryz.prog 231:=bd Tryz.func231
def MM (p0 p1 p2 p3 p4 p5 p6:Value) (K:Value→World→Prop):World→Prop :=
 Join1 (fun k1 =>
 xL 3 p2 fun t10 =>
 xO .add 3 p0 t10 fun t11 =>
 xL 3 p3 fun t12 =>
 xO .lss 3 t11 t12 fun t13 =>
 xW t13
 (k1 (.bool true)) <|
 xL 3 p2 fun t16 =>
 xO .add 3 p0 t16 fun t17 =>
 xL 3 p4 fun t18 =>
 xO .geq 3 t17 t18 fun t19 =>
 k1 t19) fun t20 =>
 xW t20
 (xL 167 p5 fun t22 =>
 xC 234 [.const p1,.const t22] [57,167] 0 fun _ =>
 K (.tuple #[])) <|
 xL 59 p6 fun t25 =>
 xL 3 p2 fun t27 =>
 xO .add 3 p0 t27 fun t28 =>
 xC 161 [.const t25,.const t28] [59,3] 57 fun t29 =>
 OpX Tryz.prog (.call { callee:=.builtin .copy,args:=#[.const p1,.const t29],argTypes:=#[57,57] }) 3 fun _ =>
 K (.tuple #[])
theorem Xk (p0 p1 p2 p3 p4 p5 p6:Value):Lk 233 #[p0,p1,p2,p3,p4,p5,p6] (MM p0 p1 p2 p3 p4 p5 p6):=lk [p0,p1,p2,p3,p4,p5,p6] [(2,[20])] Tryz.func233
theorem Xq:Ad Tryz.prog 233:=bd Tryz.func233
def HW (p0 p1:Value) (K:Value→World→Prop):World→Prop :=
 xB 167 p1 fun t3 =>
 xU p0 57 fun t6 =>
 Loop1 (.int .i64 0) fun t7 next1 =>
 xO .lss 3 t7 t6 fun t8 =>
 xW t8
 (xL 167 t3 fun t12 =>
 xI 57 p0 t7 fun t13 =>
 xS 167 t13 t12 <|
 xO .add 3 t7 (.int .i64 1) fun t14 =>
 next1 t14) <|
 K (.tuple #[])
theorem Mh (p0 p1:Value):Lk 234 #[p0,p1] (HW p0 p1):=lk [p0,p1] [(5,[7])] Tryz.func234
theorem Iy:Ad Tryz.prog 234:=bd Tryz.func234
def Kn (p0 p1 p2 p3 p4:Value) (K:Value→World→Prop):World→Prop :=
 Aj <|
 qL 3 p2 fun t8 =>
 qL 3 p3 fun t9 =>
 xP (.slice 57 (.const p1) (some (.const t8)) (some (.const t9)) none) 57 fun t10 =>
 qL 167 p4 fun t11 =>
 xC 234 [.const t10,.const t11] [57,167] 0 fun _ =>
 K (.tuple #[])
theorem Vz (p0 p1 p2 p3 p4:Value):Lk 238 #[p0,p1,p2,p3,p4] (Kn p0 p1 p2 p3 p4):=lk [p0,p1,p2,p3,p4] [] Tryz.func238
theorem Yc:Ad Tryz.prog 238:=bd Tryz.func238
def Ji (p0:Value) (K:Value→World→Prop):World→Prop :=
 xO .eql 57 p0 (.slice none 0 0) fun t4 =>
 xW t4
 (K (.slice none 0 0)) <|
 OpX Tryz.prog (.buildSlice 57 0 #[]) 57 fun t5 =>
 OpX Tryz.prog (.call { callee:=.builtin .append,args:=#[.const t5,.const p0],argTypes:=#[57,57] }) 57 fun t7 =>
 K t7
theorem XQ (p0:Value):Lk 160 #[p0] (Ji p0):=lk [p0] [] Tryz.func160
theorem Lu:Ad Tryz.prog 160:=bd Tryz.func160
def Nv (p0 p1:Value) (K:Value→World→Prop):World→Prop :=
 Join0 (fun k1 =>
 xO .lss 3 p1 (.int .i64 0) fun t10 =>
 xW t10
 (OpX Tryz.prog (.makeInterface 9 (.const (.string { data:=#[99,97,110,110,111,116,32,98,101,32,110,101,103,97,116,105,118,101] }))) 20 fun t11 =>
 OpX Tryz.prog (.panic (.const t11)) 0 fun _ =>
 k1) <|
 k1) <|
 xU p0 57 fun t14 =>
 OpX Tryz.prog (.convert 3 71 (.const t14)) 71 fun t15 =>
 OpX Tryz.prog (.convert 3 71 (.const p1)) 71 fun t17 =>
 xC 232 [.const t15,.const t17] [71,71] 322 fun t18 =>
 xE t18 0 71 fun t19 =>
 xE t18 1 71 fun t20 =>
 Join0 (fun k2 =>
 Join1 (fun k3 =>
 xO .gtr 71 t19 (.int .u64 0) fun t22 =>
 xW t22
 (k3 (.bool true)) <|
 xO .gtr 71 t20 (.int .u64 9223372036854775807) fun t25 =>
 k3 t25) fun t26 =>
 xW t26
 (OpX Tryz.prog (.makeInterface 9 (.const (.string { data:=#[116,104,101,32,114,101,115,117,108,116,32,111,102,32,40,108,101,110,40,120,41,32,42,32,99,111,117,110,116,41,32,111,118,101,114,102,108,111,119,115] }))) 20 fun t27 =>
 OpX Tryz.prog (.panic (.const t27)) 0 fun _ =>
 k2) <|
 k2) <|
 OpX Tryz.prog (.convert 71 3 (.const t20)) 3 fun t29 =>
 OpX Tryz.prog (.makeSlice 57 (.const t29) (.const t29)) 57 fun t30 =>
 OpX Tryz.prog (.call { callee:=.builtin .copy,args:=#[.const t30,.const p0],argTypes:=#[57,57] }) 3 fun t33 =>
 Loop1 t33 fun t8 next4 =>
 xU t30 57 fun t36 =>
 xO .lss 3 t8 t36 fun t37 =>
 xW t37
 (Aj <|
 xP (.slice 57 (.const t30) (some (.const t8)) none none) 57 fun t41 =>
 xP (.slice 57 (.const t30) none (some (.const t8)) none) 57 fun t44 =>
 OpX Tryz.prog (.call { callee:=.builtin .copy,args:=#[.const t41,.const t44],argTypes:=#[57,57] }) 3 fun t45 =>
 qP .add 3 t8 t45 fun t46 =>
 next4 t46) <|
 K t30
theorem U2 (p0 p1:Value):Lk 223 #[p0,p1] (Nv p0 p1):=lk [p0,p1] [(2,[]),(10,[]),(12,[26]),(22,[8])] Tryz.func223
theorem YO:Ad Tryz.prog 223:=bd Tryz.func223
def Ls (p0 p1:Value) (K:Value→World→Prop):World→Prop :=
 xC 240 [.const p0,.const p1] [69,69] 331 fun t25 =>
 xE t25 0 69 fun t26 =>
 xE t25 1 69 fun t27 =>
 K (.tuple #[t26,t27])
theorem Q9 (p0 p1:Value):Lk 232 #[p0,p1] (Ls p0 p1):=lk [p0,p1] [] Tryz.func232
theorem UX:Ad Tryz.prog 232:=bd Tryz.func232
def Ng (p0 p1:Value) (K:Value→World→Prop):World→Prop :=
 xO .and 69 p0 (.int .u64 4294967295) fun t15 =>
 xO .shr 69 p0 (.int .u64 32) fun t17 =>
 xO .and 69 p1 (.int .u64 4294967295) fun t19 =>
 xO .shr 69 p1 (.int .u64 32) fun t21 =>
 xO .mul 69 t15 t19 fun t24 =>
 xO .mul 69 t17 t19 fun t27 =>
 xO .shr 69 t24 (.int .u64 32) fun t29 =>
 xO .add 69 t27 t29 fun t30 =>
 xO .and 69 t30 (.int .u64 4294967295) fun t32 =>
 xO .shr 69 t30 (.int .u64 32) fun t34 =>
 xO .mul 69 t15 t21 fun t38 =>
 xO .add 69 t32 t38 fun t39 =>
 xO .mul 69 t17 t21 fun t42 =>
 xO .add 69 t42 t34 fun t44 =>
 xO .shr 69 t39 (.int .u64 32) fun t46 =>
 xO .add 69 t44 t46 fun t47 =>
 xO .mul 69 p0 p1 fun t50 =>
 K (.tuple #[t47,t50])
theorem Rb (p0 p1:Value):Lk 240 #[p0,p1] (Ng p0 p1):=lk [p0,p1] [] Tryz.func240
theorem Vx:Ad Tryz.prog 240:=bd Tryz.func240
theorem KL {w:World} {e:Option TypeId} {a:Option Addr} {l:List Cel} (hs:SxC w e a l) (cap:Nat) (hl:l.length≤100000):Calls Tryz.prog 160 #[.slice a l.length cap] w (Ac fun v w'=>Ox w.heap.size w' 167 4 Cel.cells v l∧Chg [] w w'):=by
 apply XQ
 intro K hK
 unfold Ji
 simp -dsimp (disch:=first|omega|(simp only[go_sem,seval];try omega))only[go_sem,seval]
 refine BrW.by (fun h=>?_) (fun h=>?_)
 ·have hl0:l=[]:=by
   cases a with
   | none =>
    cases l with
    | nil=>rfl
    | cons x l=>obtain⟨b,o,_,_,_,_,_,h,_⟩:=hs.at_ (by simp);simp at h
   | some x=>simp at h
  subst hl0
  exact hK _ _ ⟨Ox.nil _ _ _ _ _,Chg.refl _ _⟩
 ·simp -dsimp (disch:=first|omega|(simp only[go_sem,seval];try omega))only[go_sem,seval]
  have hc:=(Chg.refl [] w).alloc (.cells #[] 167)
  have ho:Ox w.heap.size (w.alloc (.cells #[] 167)) 167 4 Cel.cells (.slice (some ⟨w.heap.size,0,none⟩) 0 0) []:=Ox.built (c:=[]) (by simp -dsimp (disch:=first|omega|(simp only[go_sem,seval];try omega))only[go_sem,seval]) Cel.len (Nat.le_refl _) rfl rfl (by omega) rfl
  refine BL (l:=[]) (l2:=l) TI Cel.len Cel.ok ho (hs.chg0 hc) rfl (by simp;omega) (by omega) (by simp -dsimp (disch:=first|omega|(simp only[go_sem,seval];try omega))only[go_sem,seval];omega) ?_
  intro v' w' ho' hc' _
  exact hK _ _ ⟨by simpa using ho',IF ho hc hc'⟩
theorem G0 (w:World) (x y:Int):Calls Tryz.prog 155 #[.int .i64 x,.int .i64 y] w (Ac fun v w'=>v=.bool (Ce x y)∧w'=w):=by
 apply XB
 intro K hK
 unfold LQ
 refine Join1.inl ?_
 simp -dsimp (disch:=first|omega|(simp only[go_sem,seval];try omega))only[go_sem,seval]
 refine BrW.dec (fun h1=>?_) (fun h1=>?_)
 ·simp -dsimp (disch:=first|omega|(simp only[go_sem,seval];try omega))only[go_sem,seval]
  refine BrW.dec (fun h2=>?_) (fun h2=>?_)
  ·simp -dsimp (disch:=first|omega|(simp only[go_sem,seval];try omega))only[go_sem,seval]
   refine BrW.dec (fun h3=>?_) (fun h3=>?_)
   ·simp -dsimp (disch:=first|omega|(simp only[go_sem,seval];try omega))only[go_sem,seval]
    refine hK _ _ ⟨?_,rfl⟩
    simp [Ce,h1,h2,h3]
   ·simp -dsimp (disch:=first|omega|(simp only[go_sem,seval];try omega))only[go_sem,seval]
    refine hK _ _ ⟨?_,rfl⟩
    simp [Ce,h3]
  ·simp -dsimp (disch:=first|omega|(simp only[go_sem,seval];try omega))only[go_sem,seval]
   refine hK _ _ ⟨?_,rfl⟩
   simp [Ce,h2]
 ·simp -dsimp (disch:=first|omega|(simp only[go_sem,seval];try omega))only[go_sem,seval]
  refine hK _ _ ⟨?_,rfl⟩
  simp [Ce,h1]
theorem Fl (w:World) (x n size:Int) (hs:0≤size) (hs2:size≤1000) (h1:-9223372036854775808≤x) (h2:x≤9223372036854775807) (h4:n≤9223372036854775807):Calls Tryz.prog 209 #[.int .i64 x,.int .i64 n,.int .i64 size] w (Ac fun v w'=>v=.tuple #[.int .i64 (AT x n size).1,.int .i64 (AT x n size).2]∧w'=w):=by
 apply X0
 intro K hK
 unfold Kt
 refine Join1.cut (fun v w'=>v=.bool (decide (n≤0∨size≤x∨(x<0∧x+n≤0)))∧w'=w) ?_ ?_
 ·simp -dsimp (disch:=first|omega|(simp only[go_sem,seval];try omega))only[go_sem,seval]
  refine BrW.dec (fun h=>⟨by simp [h],rfl⟩) (fun h3=>?_)
  simp -dsimp (disch:=first|omega|(simp only[go_sem,seval];try omega))only[go_sem,seval]
  refine BrW.dec (fun h=>⟨by simp [h],rfl⟩) (fun h5=>?_)
  simp -dsimp (disch:=first|omega|(simp only[go_sem,seval];try omega))only[go_sem,seval]
  refine BrW.dec (fun h6=>?_) (fun h6=>?_)
  ·simp -dsimp (disch:=first|omega|(simp only[go_sem,seval];try omega))only[go_sem,seval]
   simp [h3,h5,h6]
  ·refine⟨?_,rfl⟩
   congr 1
   simp [h3,h5,h6]
 ·rintro v w1 ⟨rfl,rfl⟩
  refine BrW.dec (fun h=>?_) (fun h=>?_)
  ·exact hK _ _ ⟨by unfold AT;rw[if_pos h],rfl⟩
  ·have h':0<n∧x<size∧(0≤x∨0<x+n):=by omega
   simp -dsimp (disch:=first|omega|(simp only[go_sem,seval];try omega))only[go_sem,seval]
   refine BrW.dec (fun h6=>?_) (fun h6=>?_)
   ·simp -dsimp (disch:=first|omega|(simp only[go_sem,seval];try omega))only[go_sem,seval]
    exact hK _ _ ⟨by unfold AT;rw[if_neg h];simp [h6],rfl⟩
   ·simp -dsimp (disch:=first|omega|(simp only[go_sem,seval];try omega))only[go_sem,seval]
    exact hK _ _ ⟨by unfold AT;rw[if_neg h];simp [h6],rfl⟩
theorem FU (w:World) (c:Cel):Calls Tryz.prog 205 #[c.val] w (Ac fun v w'=>v=.bool c.usual∧Chg [] w w'):=by
 apply Tt
 intro K hK
 unfold MR
 simp -dsimp (disch:=first|omega|(simp only[go_sem,seval];try omega))only[go_sem,seval]
 have hc1:=(Chg.refl [] w).alloc (.cells c.cells.toArray 167)
 have hh1:(w.alloc (.cells c.cells.toArray 167)).heap[w.heap.size]?=some (.cells c.cells.toArray 167):=by simp -dsimp (disch:=first|omega|(simp only[go_sem,seval];try omega))only[go_sem,seval]
 refine Join1.inl ?_
 simp -dsimp (disch:=first|omega|(simp only[go_sem,seval];try omega))only[go_sem,seval]
 refine OpX.call HQ rfl (Calls.ret (GY _ c) ?_)
 rintro v w1 ⟨rfl,hc2⟩
 have hh2:=hc2.keep hh1 (by simp)
 refine BrW.by (fun h=>?_) (fun h=>?_)
 ·simp -dsimp (disch:=first|omega|(simp only[go_sem,seval];try omega))only[go_sem,seval,hh2]
  refine hK _ _ ⟨?_,hc1.trans0 hc2⟩
  simp [Cel.usual,h,Cel.plain]
 ·simp -dsimp (disch:=first|omega|(simp only[go_sem,seval];try omega))only[go_sem,seval]
  refine hK _ _ ⟨?_,hc1.trans0 hc2⟩
  simp [Cel.usual,h]
theorem EP {w:World} {g:Gr} (hg:g.ok) (b o cap:Nat) (hcap:g.cs.length≤cap) (y:Nat) (hy:y<g.h):Calls Tryz.prog 161 #[g.val (some ⟨b,o,none⟩) cap,.int .i64 y] w
  (Ac fun v w'=>v=.slice (some ⟨b,o+y*g.w*4,none⟩) g.w g.w∧Chg [] w w'):=by
 have h1:=hg.row_lt hy
 have h2:=hg.le
 have h3:=hg.w0
 have h4:=hg.w1
 have h5:=hg.h1
 apply Tj
 intro K hK
 unfold KW
 simp -dsimp (disch:=first|omega|(simp only[go_sem,seval];try omega))only[go_sem,seval,Gr.val]
 have e1:(y:Int)*(g.w:Int)=((y*g.w:Nat):Int):=by simp
 have e2:((y:Int)+1)*(g.w:Int)=((y*g.w+g.w:Nat):Int):=by rw[Int.add_mul];simp
 have hm:=Nat.mul_le_mul (show y≤60 by omega) h4
 simp -dsimp (disch:=first|omega|(simp only[go_sem,seval];try omega))only[go_sem,seval,e1,e2]
 have e3:slo o (y*g.w+g.w) (y*g.w) 4=o+y*g.w*4:=by unfold slo;rw[if_neg (by omega)]
 have e4:y*g.w+g.w-y*g.w=g.w:=by omega
 rw[e3,e4]
 exact hK _ _ ⟨rfl,(Chg.refl _ _).alloc _⟩
def BI (b o:Nat) (g:Gr) (y:Nat):Value:=.slice (some ⟨b,o+y*g.w*4,none⟩) g.w g.w
structure Boxes (w:World) (g:Gr) (a:Option Addr) (cap pt:Nat) (top fin:Int):Prop where
 t:w.heap[pt+1]?=some (.cells #[.int .i64 top] 3)
 e:w.heap[pt+2]?=some (.cells #[.int .i64 fin] 3)
 g:w.heap[pt]?=some (.cells #[.int .i64 g.w,.int .i64 g.h,.slice a g.cs.length cap] 59)
theorem Boxes.chg {w w':World} {g:Gr} {a:Option Addr} {cap pt:Nat} {top fin:Int} {F:List Nat} (h:Boxes w g a cap pt top fin) (hc:Chg F w w') (hF:∀x∈F,x<pt∨pt+2<x):Boxes w' g a cap pt top fin :=
 ⟨hc.keep h.t (fun hm=>by have:=hF _ hm;omega),hc.keep h.e (fun hm=>by have:=hF _ hm;omega),hc.keep h.g (fun hm=>by have:=hF _ hm;omega)⟩
theorem U1 {w:World} {g:Gr} (hg:g.ok) {b o cap pt:Nat} (hcap:g.cs.length≤cap) {top fin:Int} {yv:Value} (ht:-9223372036854775808≤top) (ht2:top≤9223372036854775807)
  (Inv:Nat→World→Prop) (Stop:World→Prop) (hI:∀y w1,Inv y w1→Boxes w1 g (some ⟨b,o,none⟩) cap pt top fin) (hS:∀y w1 w2,Inv y w1→Chg [] w1 w2→Inv y w2)
  (h0:Inv (max top 0).toNat w)
  (hR:∀y w1,Inv y w1→top≤(y:Int)→(y:Int)<fin→y<g.h→Bd Tryz.prog yv [.int .i64 y,BI b o g y] (fun v w2=>(v=.bool true∧Inv (y+1) w2)∨(v=.bool false∧Stop w2)) w1) :
  Calls Tryz.prog 203 #[yv,.pointer (some ⟨pt+1,0,none⟩),.pointer (some ⟨pt+2,0,none⟩),.pointer (some ⟨pt,0,none⟩)] w
   (Ac fun _ w'=>(∃y:Nat,top≤(y:Int)∧(min fin g.h≤y)∧((y:Int)≤min fin g.h∨(y:Int)=max top 0)∧Inv y w')∨Stop w'):=by
 have hB:=hI _ _ h0
 have h5:=hg.h1
 apply Wr
 intro K hK
 unfold OX
 simp -dsimp (disch:=first|omega|(simp only[go_sem,seval];try omega))only[go_sem,seval,hB.t]
 refine Loop1.st (fun y:Nat=>.int .i64 y) (fun y w1=>Inv y w1∧top≤(y:Int)∧((y:Int)≤min fin g.h∨(y:Int)=max top 0)) (fun y=>g.h-y) (max top 0).toNat (by congr 1;omega) ⟨h0,by omega,by omega⟩ ?_
 rintro next y w1 hn ⟨hi,h1,h2⟩
 have hB1:=hI _ _ hi
 simp -dsimp (disch:=first|omega|(simp only[go_sem,seval];try omega))only[go_sem,seval,hB1.e,hB1.g]
 refine BrW.dec (fun h3=>?_) (fun h3=>?_)
 ·simp -dsimp (disch:=first|omega|(simp only[go_sem,seval];try omega))only[go_sem,seval,hB1.g]
  refine OpX.call Fk rfl (Calls.ret (EP (w:=w1) hg b o cap hcap y (by omega)) ?_)
  rintro v w2 ⟨rfl,hc⟩
  refine(hR y w2 (hS _ _ _ hi hc) h1 (by omega) (by omega)).use ?_
  rintro v w3 (⟨rfl,hi3⟩|⟨rfl,hs3⟩)
  ·simp -dsimp (disch:=first|omega|(simp only[go_sem,seval];try omega))only[go_sem,seval]
   exact hn (y+1) _ ⟨hi3,by omega,by omega⟩ (by omega)
  ·simp -dsimp (disch:=first|omega|(simp only[go_sem,seval];try omega))only[go_sem,seval]
   exact hK _ _ (.inr hs3)
 ·exact hK _ _ (.inl ⟨y,h1,by omega,h2,hi⟩)
def IN (pt:Nat):Value:=.func (.func 203) #[] #[.pointer (some ⟨pt+1,0,none⟩),.pointer (some ⟨pt+2,0,none⟩),.pointer (some ⟨pt,0,none⟩)]
theorem ML (w:World) (g:Gr) (a:Option Addr) (cap:Nat) (top fin:Int):Calls Tryz.prog 156 #[g.val a cap,.int .i64 top,.int .i64 fin] w
  (Ac fun v w'=>v=IN w.heap.size∧Boxes w' g a cap w.heap.size top fin∧Chg [] w w'∧w'.heap.size=w.heap.size+3):=by
 apply Uv
 intro K hK
 unfold MG
 simp -dsimp (disch:=first|omega|(simp only[go_sem,seval];try omega))only[go_sem,seval,Gr.val]
 exact hK _ _ ⟨rfl,⟨(by simp -dsimp (disch:=first|omega|(simp only[go_sem,seval];try omega))only[go_sem,seval]),(by simp -dsimp (disch:=first|omega|(simp only[go_sem,seval];try omega))only[go_sem,seval]),(by simp -dsimp (disch:=first|omega|(simp only[go_sem,seval];try omega))only[go_sem,seval])⟩,(((Chg.refl [] w).alloc _).alloc _).alloc _,(by simp -dsimp (disch:=first|omega|(simp only[go_sem,seval];try omega))only[go_sem,seval])⟩
theorem LP {w:World} {g:Gr} (hg:g.ok) {b o cap pt:Nat} (hcap:g.cs.length≤cap) {top fin:Int} (ht:-9223372036854775808≤top) (ht2:top≤9223372036854775807)
  (hB:Boxes w g (some ⟨b,o,none⟩) cap pt top fin) (F:List Nat) (hF:∀x∈F,x<w.heap.size∧(x<pt∨pt+2<x)) (I:Nat→World→Prop) (Stop:World→Prop)
  (hI:∀y w1 w2,I y w1→Chg [w.heap.size+1] w1 w2→I y w2) (hSt:∀w1 w2,Stop w1→Chg [w.heap.size+1] w1 w2→Stop w2) (h0:I (max top 0).toNat w)
  {body:List Value→(World→Prop)→(World→Prop)→(Nat→World→Prop)→World→Prop} {QN QR:Nat→World→Prop} {QE:List (Nat × (Nat→World→Prop))}
  (hR:∀y kn kr kx w1,Chg F w w1→w.heap.size+2≤w1.heap.size→I y w1→top≤(y:Int)→(y:Int)<fin→y<g.h→(∀w2 G,Chg G w1 w2→(∀x∈G,x∈F∨w.heap.size+2≤x)→I (y+1) w2→kn w2)→(∀w2 G,Chg G w1 w2→(∀x∈G,x∈F∨w.heap.size+2≤x)→Stop w2→kr w2)→body [.int .i64 y,BI b o g y] kn kr kx w1)
  (hN:∀y w2,Chg F w w2→w2.heap[w.heap.size]?=some (.deferred (some []))→I y w2→top≤(y:Int)→(min fin g.h≤y)→((y:Int)≤min fin g.h∨(y:Int)=max top 0)→QN w.heap.size w2)
  (hQ:∀w2,Chg F w w2→w2.heap[w.heap.size]?=some (.deferred (some []))→Stop w2→QR w.heap.size w2) :
  RngX Tryz.prog (IN pt) 2 (fun vs bg kn kr kx w=>bg (fun w=>body vs kn kr kx w) w) QN QR QE w:=by
 have hp:=Aa hB.e
 have hlow:∀{w2:World} {G:List Nat} (Lp:Obj),Chg ((w.heap.size+1)::F) ((w.alloc (.deferred (some []))).alloc Lp) w2→Chg F w w2:=fun {w2} {G} Lp h =>
  ((((Chg.refl F w).alloc (.deferred (some []))).alloc Lp).trans h (by
   intro x hx
   rcases List.mem_cons.1 hx with rfl|hx
   ·exact .inr (by omega)
   ·exact .inl hx))
 refine⟨fun Lp yv hy=>⟨_,[],_,rfl,PG,?_⟩⟩
 have hl:∀(st:LSt),((w.alloc (.deferred (some []))).alloc (Lp st)).heap[w.heap.size+1]?=some (Lp st):=fun st=>by simp -dsimp (disch:=first|omega|(simp only[go_sem,seval];try omega))only[go_sem,seval]
 have hr:∀(st:LSt),((w.alloc (.deferred (some []))).alloc (Lp st)).heap[w.heap.size]?=some (.deferred (some [])):=fun st=>by simp -dsimp (disch:=first|omega|(simp only[go_sem,seval];try omega))only[go_sem,seval]
 have hcB:Boxes ((w.alloc (.deferred (some []))).alloc (Lp .ready)) g (some ⟨b,o,none⟩) cap pt top fin:=hB.chg (((Chg.refl [] w).alloc _).alloc _) (by simp)
 have hFw:w.heap.size∉(w.heap.size+1)::F:=by
  intro hm
  rcases List.mem_cons.1 hm with h|h
  ·omega
  ·have:=hF _ h;omega
 refine Calls.ret (U1 (w:=(w.alloc (.deferred (some []))).alloc (Lp .ready)) hg hcap (b:=b) (o:=o) (pt:=pt) (top:=top) (fin:=fin) (yv:=yv) ht ht2
  (fun y w1=>I y w1∧Chg ((w.heap.size+1)::F) ((w.alloc (.deferred (some []))).alloc (Lp .ready)) w1∧w1.heap[w.heap.size+1]?=some (Lp .ready))
  (fun w1=>Stop w1∧Chg ((w.heap.size+1)::F) ((w.alloc (.deferred (some []))).alloc (Lp .ready)) w1∧w1.heap[w.heap.size+1]?=some (Lp (.gone .ret)))
  ?_ ?_ ?_ ?_) (fun v w' h=>?_)
 ·rintro y w1 ⟨_,hc,_⟩
  refine hcB.chg hc fun x hx=>?_
  rcases List.mem_cons.1 hx with rfl|hx
  ·exact .inr (by omega)
  ·exact(hF x hx).2
 ·rintro y w1 w2 ⟨hi,hc,hw⟩ h12
  exact⟨hI _ _ _ hi (h12.mono (by simp)),hc.trans0 h12,h12.keep hw (by simp)⟩
 ·exact⟨hI _ _ _ h0 ((((Chg.refl _ w).alloc _).alloc _)),Chg.refl _ _,hl _⟩
 ·rintro y w1 ⟨hi,hc,hw⟩ h1 h2 h3
  refine hy _ _ _ rfl hw ⟨hw,?_⟩
  have hcb:Chg [w.heap.size+1] w1 (Ab w1 (w.heap.size+1) (Lp .busy)):=(Chg.refl _ _).set _ _ (by simp)
  have hcL:Chg ((w.heap.size+1)::F) ((w.alloc (.deferred (some []))).alloc (Lp .ready)) (Ab w1 (w.heap.size+1) (Lp .busy)):=hc.trans hcb (by simp)
  have hzl:((w.alloc (.deferred (some []))).alloc (Lp .ready)).heap.size=w.heap.size+2:=by simp -dsimp (disch:=first|omega|(simp only[go_sem,seval];try omega))only[go_sem,seval]
  have hlG:∀G:List Nat,(∀x∈G,x∈F∨w.heap.size+2≤x)→(w.heap.size+1)∉G:=fun G hG hm=>by
   rcases hG _ hm with h|h
   ·have:=hF _ h;omega
   ·omega
  refine hR y _ _ _ _ (hlow (G:=F) _ hcL) (by have:=hcL.size;omega) (hI _ _ _ hi hcb) h1 h2 h3 (fun w2 G hc2 hG hi2=>?_) (fun w2 G hc2 hG hs2=>?_)
  ·have hb:=hc2.keep (Au _ _ _ _ rfl (Aa hw)) (hlG G hG)
   exact⟨hb,.inl ⟨rfl,hI _ _ _ hi2 ((Chg.refl _ _).set _ _ (by simp)),(hcL.trans hc2 (fun x hx=>(hG x hx).elim (fun h=>.inl (by simp [h])) (fun h=>.inr (by omega)))).set _ _ (.inl (by simp)),Au _ _ _ _ rfl (Aa hb)⟩⟩
  ·have hb:=hc2.keep (Au _ _ _ _ rfl (Aa hw)) (hlG G hG)
   exact⟨hb,.inr ⟨rfl,hSt _ _ hs2 ((Chg.refl _ _).set _ _ (by simp)),(hcL.trans hc2 (fun x hx=>(hG x hx).elim (fun h=>.inl (by simp [h])) (fun h=>.inr (by omega)))).set _ _ (.inl (by simp)),Au _ _ _ _ rfl (Aa hb)⟩⟩
 ·obtain⟨y,h1,h2,h3,hi,hc,hw⟩|⟨hs,hc,hw⟩:=h
  ·have hc':=hc.set (w.heap.size+1) (Lp (.over .normal)) (.inl (by simp))
   exact .inl ⟨hw,hN y _ (hlow (G:=F) _ hc') (hc'.keep (hr _) hFw) (hI _ _ _ hi ((Chg.refl _ _).set _ _ (by simp))) h1 h2 h3⟩
  ·have hc':=hc.set (w.heap.size+1) (Lp (.over .ret)) (.inl (by simp))
   exact .inr (.inl ⟨hw,hQ _ (hlow (G:=F) _ hc') (hc'.keep (hr _) hFw) (hSt _ _ hs ((Chg.refl _ _).set _ _ (by simp)))⟩)
theorem DI {w:World} {g:Gr} (hg:g.ok) {e:Option TypeId} {a:Option Addr} (hs:SxC w e a g.cs) (cap:Nat) (hcap:g.cs.length≤cap):Calls Tryz.prog 114 #[g.val a cap] w
  (Ac fun v w'=>v=.bool g.right∧Chg [] w w'):=by
 obtain⟨b,o,_,_,_,_,_,rfl,hb0,_⟩:=hs.at_ hg.ne
 have hb0':=Aa hb0
 clear hb0
 have hle:=hg.le
 have hm:(g.w:Int)*(g.h:Int)=(g.cs.length:Int):=by rw[hg.len];simp
 have h0:=hg.h0
 have h1:=hg.h1
 apply Y0
 intro K hK
 unfold KO
 simp -dsimp (disch:=first|omega|(simp only[go_sem,seval];try omega))only[go_sem,seval,Gr.val]
 refine Join1.inl ?_
 simp -dsimp (disch:=first|omega|(simp only[go_sem,seval];try omega))only[go_sem,seval]
 refine OpX.call IE rfl (Calls.ret (G0 _ g.w g.h) ?_)
 rintro v w1 ⟨rfl,rfl⟩
 simp -dsimp (disch:=first|omega|(simp only[go_sem,seval];try omega))only[go_sem,seval,hg.fits,hm]
 have hcw:=((Chg.refl [] w).alloc (Obj.cells #[.int .i64 g.w,.int .i64 g.h,.slice (some ⟨b,o,none⟩) g.cs.length cap] 59)).alloc (Obj.cells #[.bool false] 4)
 have hrv:((w.alloc (Obj.cells #[.int .i64 g.w,.int .i64 g.h,.slice (some ⟨b,o,none⟩) g.cs.length cap] 59)).alloc (Obj.cells #[.bool false] 4)).heap[w.heap.size+1]?=some (Obj.cells #[.bool false] 4):=by simp -dsimp (disch:=first|omega|(simp only[go_sem,seval];try omega))only[go_sem,seval]
 refine OpX.call NY rfl (Calls.ret (ML _ g (some ⟨b,o,none⟩) cap 0 g.h) ?_)
 rintro v w2 ⟨rfl,hB,hc2,hsz⟩
 have hs2:=(hs.chg0 hcw).chg0 hc2
 have hrv2:=hc2.keep hrv (by simp)
 have hcw2:=hcw.trans0 hc2
 have e1:((w.alloc (Obj.cells #[.int .i64 g.w,.int .i64 g.h,.slice (some ⟨b,o,none⟩) g.cs.length cap] 59)).alloc (Obj.cells #[.bool false] 4)).heap.size=w.heap.size+2:=by simp -dsimp (disch:=first|omega|(simp only[go_sem,seval];try omega))only[go_sem,seval]
 rw[e1] at hB hsz ⊢
 clear hc2 hcw hrv hs
 refine LP hg hcap (by omega) (by omega) hB [w.heap.size+1] (by simp;omega) (fun y w1=>(∀y'<y,right (g.row y')=true)∧w1.heap[w.heap.size+1]?=some (Obj.cells #[.bool false] 4))
  (fun w1=>g.right=false∧w1.heap[w.heap.size+1]?=some (Obj.cells #[.bool false] 4)) ?_ ?_ ⟨by simp,hrv2⟩ ?_ ?_ ?_
 ·rintro y w3 w4 ⟨h2,h3⟩ hc
  exact⟨h2,hc.keep h3 (by simp;omega)⟩
 ·rintro w3 w4 ⟨h2,h3⟩ hc
  exact⟨h2,hc.keep h3 (by simp;omega)⟩
 ·rintro y kn kr kx w3 hc-⟨hi,hr3⟩ - - hy hkn hkr
  have hs3:SxC w3 e (some ⟨b,o+y*g.w*4,none⟩) (g.row y):=by
   refine Sx.sub (hs2.chg hc ?_) Cel.len (y*g.w) g.w _ (.inr (.inr rfl))
   intro b' o' hb' _ hm'
   cases hb'
   simp at hm'
   omega
  have hrl:=hg.row_len hy
  have hw1:=hg.w1
  have hrc:=Pl hs3 g.w (by omega)
  rw[hrl] at hrc
  simp -dsimp (disch:=first|omega|(simp only[go_sem,seval];try omega))only[go_sem,seval,BI]
  refine OpX.call PE rfl (Calls.ret (hrc) ?_)
  rintro v w4 ⟨rfl,hc4⟩
  have hr4:=hc4.keep hr3 (by simp)
  simp -dsimp (disch:=first|omega|(simp only[go_sem,seval];try omega))only[go_sem,seval]
  refine BrW.by (fun h=>?_) (fun h=>?_)
  ·simp -dsimp (disch:=first|omega|(simp only[go_sem,seval];try omega))only[go_sem,seval,hr4]
   refine hkr _ [w.heap.size+1] ((hc4.mono (by simp)).set _ _ (by simp)) (by simp) ⟨g.right_not hy (by simpa using h),Au _ _ _ _ rfl (Aa hr4)⟩
  ·refine hkn _ [] hc4 (by simp) ⟨?_,hr4⟩
   intro y' hy'
   by_cases he:y'=y
   ·subst he;simpa using h
   ·exact hi _ (by omega)
 ·rintro y w3 hc3 hd ⟨hi,hr3⟩-h2 -
  have hlt:=Aa hr3
  simp -dsimp (disch:=first|omega|(simp only[go_sem,seval];try omega))only[go_sem,seval,hr3]
  refine ER (by simp -dsimp (disch:=first|omega|(simp only[go_sem,seval];try omega))only[go_sem,seval,hd]) ?_
  simp -dsimp (disch:=first|omega|(simp only[go_sem,seval];try omega))only[go_sem,seval]
  refine hK _ _ ⟨?_,?_⟩
  ·rw[g.right_of (fun y' hy'=>hi _ (by omega))]
  ·refine(hcw2.trans hc3 (by simp)).set _ _ (.inr (by omega)) |>.set _ _ (.inr (by omega))
 ·rintro w3 hc3 hd ⟨hr,hr3⟩
  refine ER hd ?_
  simp -dsimp (disch:=first|omega|(simp only[go_sem,seval];try omega))only[go_sem,seval,hr3]
  refine hK _ _ ⟨?_,?_⟩
  ·rw[hr]
  ·refine(hcw2.trans hc3 (by simp)).set _ _ (.inr (by omega))
def GAt (base:Nat) (w:World) (v:Value) (g:Gr):Prop :=
 ∃nb cap sp,v=g.val (some ⟨nb,0,none⟩) cap∧g.cs.length≤cap∧base≤nb∧w.heap[nb]?=some (.cells (g.cs.flatMap Cel.cells++sp).toArray 167)
theorem GAt.chg0 {base:Nat} {w w':World} {v:Value} {g:Gr} (h:GAt base w v g) (hc:Chg [] w w'):GAt base w' v g :=
 let ⟨nb,cap,sp,h1,h2,h3,h4⟩:=h;⟨nb,cap,sp,h1,h2,h3,hc.keep h4 (by simp)⟩
theorem GAt.sx {base:Nat} {w:World} {v:Value} {g:Gr} (h:GAt base w v g):∃nb cap,v=g.val (some ⟨nb,0,none⟩) cap∧g.cs.length≤cap∧base≤nb∧nb<w.heap.size∧SxC w (some 167) (some ⟨nb,0,none⟩) g.cs :=
 let ⟨nb,cap,sp,h1,h2,h3,h4⟩:=h;⟨nb,cap,h1,h2,h3,Aa h4,⟨fun _=>⟨nb,0,_,_,_,[],sp,rfl,h4,by simp [BR],by simp,rfl⟩⟩⟩
def Ew (w:World) (g:Gr) (top fin:Int) (dv:Value) (f:Nat→List Cel):Prop :=
 ∀(y:Nat) (w1:World) (nb:Nat) (pre post:List Value),top≤(y:Int)→(y:Int)<fin→y<g.h→Chg [] w w1→w.heap.size≤nb →
  w1.heap[nb]?=some (.cells (pre++(g.row y).flatMap Cel.cells++post).toArray 167)→pre.length=y*g.w*4 →
  Bd Tryz.prog dv [.int .i64 y,BI nb 0 g y] (fun _ w2=>Chg [nb] w1 w2∧w2.heap[nb]?=some (.cells (pre++(f y).flatMap Cel.cells++post).toArray 167)) w1
theorem Es {w:World} {g:Gr} (hg:g.ok) {e:Option TypeId} {a:Option Addr} (hs:SxC w e a g.cs) (cap:Nat) {top fin:Int} (ht:-9223372036854775808≤top) (ht2:top≤9223372036854775807)
  {fn:Fn} {us cs:Array Value} {f:Nat→List Cel} (hdo:Ew w g top fin (.func fn us cs) f) (hf:∀y,y<g.h→top≤(y:Int)→(y:Int)<fin→(f y).length=g.w) :
  Calls Tryz.prog 206 #[g.val a cap,.int .i64 top,.int .i64 fin,.func fn us cs] w (Ac fun v w'=>GAt w.heap.size w' v (g.chg top fin f)∧Chg [] w w'):=by
 have hle:=hg.le
 have h0:=hg.h0
 have h1:=hg.h1
 apply UB
 intro K hK
 unfold Nr
 simp -dsimp (disch:=first|omega|(simp only[go_sem,seval];try omega))only[go_sem,seval,Gr.val]
 have hcw:=(((Chg.refl [] w).alloc (Obj.cells #[.int .i64 g.w,.int .i64 g.h,.slice a g.cs.length cap] 59)).alloc (Obj.cells #[.func fn us cs] 305)).alloc (Obj.cells #[.int .i64 0,.int .i64 0,.slice none 0 0] 59)
 generalize hw0:(((w.alloc (Obj.cells #[.int .i64 g.w,.int .i64 g.h,.slice a g.cs.length cap] 59)).alloc (Obj.cells #[.func fn us cs] 305)).alloc (Obj.cells #[.int .i64 0,.int .i64 0,.slice none 0 0] 59))=w0 at *
 have hz:w0.heap.size=w.heap.size+3:=by subst hw0;simp -dsimp (disch:=first|omega|(simp only[go_sem,seval];try omega))only[go_sem,seval]
 have hg0:w0.heap[w.heap.size]?=some (Obj.cells #[.int .i64 g.w,.int .i64 g.h,.slice a g.cs.length cap] 59):=by subst hw0;simp -dsimp (disch:=first|omega|(simp only[go_sem,seval];try omega))only[go_sem,seval]
 have hd0:w0.heap[w.heap.size+1]?=some (Obj.cells #[.func fn us cs] 305):=by subst hw0;simp -dsimp (disch:=first|omega|(simp only[go_sem,seval];try omega))only[go_sem,seval]
 have hr0:w0.heap[w.heap.size+2]?=some (Obj.cells #[.int .i64 0,.int .i64 0,.slice none 0 0] 59):=by subst hw0;simp -dsimp (disch:=first|omega|(simp only[go_sem,seval];try omega))only[go_sem,seval]
 refine OpX.call Lu rfl (Calls.ret (KL (hs.chg0 hcw) cap (by omega)) ?_)
 rintro v w1 ⟨ho,hc1⟩
 obtain⟨nb,cap',sp,rfl,hcap,hnb,hblk⟩:=ho.blk hg.ne
 clear ho
 have hg1:=hc1.keep hg0 (by simp)
 have hd1:=hc1.keep hd0 (by simp)
 have hr1:=hc1.keep hr0 (by simp)
 have hnb1:=Aa hblk
 simp -dsimp (disch:=first|omega|(simp only[go_sem,seval];try omega))only[go_sem,seval,hg1]
 have hb1:w1.heap[nb]?≠none:=by rw[hblk];simp
 have hc2:Chg [] w (Ab w1 w.heap.size (Obj.cells #[.int .i64 g.w,.int .i64 g.h,.slice (some ⟨nb,0,none⟩) g.cs.length cap'] 59)):=(hcw.trans0 hc1).set _ _ (.inr (Nat.le_refl _))
 have hg2:=Au w1 w.heap.size (Obj.cells #[.int .i64 g.w,.int .i64 g.h,.slice (some ⟨nb,0,none⟩) g.cs.length cap'] 59) w.heap.size rfl (Aa hg1)
 have hd2:=((Chg.refl [w.heap.size] w1).set w.heap.size (Obj.cells #[.int .i64 g.w,.int .i64 g.h,.slice (some ⟨nb,0,none⟩) g.cs.length cap'] 59) (by simp)).keep hd1 (by simp)
 have hr2:=((Chg.refl [w.heap.size] w1).set w.heap.size (Obj.cells #[.int .i64 g.w,.int .i64 g.h,.slice (some ⟨nb,0,none⟩) g.cs.length cap'] 59) (by simp)).keep hr1 (by simp)
 have hb2:=((Chg.refl [w.heap.size] w1).set w.heap.size (Obj.cells #[.int .i64 g.w,.int .i64 g.h,.slice (some ⟨nb,0,none⟩) g.cs.length cap'] 59) (by simp)).keep hblk (by simp;omega)
 generalize hw2:Ab w1 w.heap.size (Obj.cells #[.int .i64 g.w,.int .i64 g.h,.slice (some ⟨nb,0,none⟩) g.cs.length cap'] 59)=w2 at *
 refine OpX.call NY rfl (Calls.ret (ML _ g (some ⟨nb,0,none⟩) cap' top fin) ?_)
 rintro v w3 ⟨rfl,hB,hc3,hsz3⟩
 have hc3':=hc2.trans0 hc3
 have hg3:=hc3.keep hg2 (by simp)
 have hd3:=hc3.keep hd2 (by simp)
 have hr3:=hc3.keep hr2 (by simp)
 have hb3:=hc3.keep hb2 (by simp)
 have hlt2:=Aa hb2
 have hlt3:=Aa hb3
 have hRl:∀Y y,y<g.h→(if top≤(y:Int)∧(y:Int)<fin∧y<Y then AN (f y) else g.row y).length=g.w:=by
  intro Y y hy
  split
  ·rename_i h9;rw[DX,hf y hy h9.1 h9.2.1]
  ·exact hg.row_len hy
 refine LP hg hcap ht ht2 hB [nb] (by simp;omega)
  (fun Y w4=>w4.heap[nb]?=some (Obj.cells ((Bq (fun y=>if top≤(y:Int)∧(y:Int)<fin∧y<Y then AN (f y) else g.row y) g.h).flatMap Cel.cells++sp).toArray 167)) (fun _=>False) ?_ ?_ ?_ ?_ ?_ ?_
 ·intro y w4 w5 h4 hc
  exact hc.keep h4 (by simp;omega)
 ·intro w4 w5 h4 _
  exact h4
 ·rw[hb3,←hg.rows]
  congr 5
  refine Eb fun y hy=>?_
  rw[if_neg (by omega)]
 ·intro y kn kr kx w4 hc4 _ hi hy1 hy2 hy3 hkn _
  obtain⟨d,hd⟩:∃d,g.h=y+1+d:=⟨g.h-(y+1),by omega⟩
  obtain⟨post,hp⟩:=GX (fun k=>if top≤(k:Int)∧(k:Int)<fin∧k<y then AN (f k) else g.row k) y d
  have hp1:=hp _ (fun _ _=>rfl)
  have hp2:=hp (fun k=>if top≤(k:Int)∧(k:Int)<fin∧k<y+1 then AN (f k) else g.row k) (fun k hk=>by
   have:(top≤(k:Int)∧(k:Int)<fin∧k<y+1)↔(top≤(k:Int)∧(k:Int)<fin∧k<y):=by omega
   simp only[this])
  rw[←hd] at hp1 hp2
  simp only[Nat.lt_irrefl,and_false,if_false] at hp1
  rw[if_pos (by omega)] at hp2
  have hpl:=Gc (R:=fun k=>if top≤(k:Int)∧(k:Int)<fin∧k<y then AN (f k) else g.row k) (w:=g.w) (h:=y) (fun k hk=>hRl y k (by omega))
  generalize Bq (fun k=>if top≤(k:Int)∧(k:Int)<fin∧k<y then AN (f k) else g.row k) y=pre at hp1 hp2 hpl
  have hpc:(pre.flatMap Cel.cells).length=y*g.w*4:=by rw[AJ Cel.len,hpl]
  rw[hp1] at hi
  have hi':w4.heap[nb]?=some (Obj.cells (pre.flatMap Cel.cells++(g.row y).flatMap Cel.cells++(post.flatMap Cel.cells++sp)).toArray 167):=by
   rw[hi];simp
  have hd4:=hc4.keep hd3 (by simp;omega)
  have hw1:=hg.w1
  simp -dsimp (disch:=first|omega|(simp only[go_sem,seval];try omega))only[go_sem,seval,hd4]
  refine(hdo y w4 nb _ _ hy1 hy2 hy3 (hc3'.trans hc4 (by simp;omega)) (by omega) hi' hpc).use ?_
  rintro v w5 ⟨hc5,hb5⟩
  have hs5:SxC w5 (some 167) (some ⟨nb,y*g.w*4,none⟩) (f y):=⟨fun _=>⟨nb,_,_,_,_,_,_,rfl,hb5,by simp [BR],rfl,by omega⟩⟩
  have hmc:=Kf hs5 g.w (by rw[hf y hy3 hy1 hy2];omega)
  rw[hf y hy3 hy1 hy2] at hmc
  simp -dsimp (disch:=first|omega|(simp only[go_sem,seval];try omega))only[go_sem,seval,BI]
  refine OpX.call NP rfl (Calls.ret (hmc) ?_)
  rintro v w6 ⟨ho6,hc6⟩
  have hml:(AN (f y)).length=g.w:=by rw[DX,hf y hy3 hy1 hy2]
  have hw0':=hg.w0
  obtain⟨mb,cap6,sp6,rfl,hcap6,hmb,hblk6⟩:=ho6.blk (by intro h;rw[h] at hml;simp at hml;omega)
  rw[hml]
  have hb6:=hc6.keep hb5 (by simp)
  have hs6:SxC w6 (some 167) (some ⟨mb,0,none⟩) (AN (f y)):=⟨fun _=>⟨mb,0,_,_,_,[],_,rfl,hblk6,by simp [BR],rfl,rfl⟩⟩
  refine DQ (new:=(AN (f y)).flatMap Cel.cells) Dq hb6 (by omega) (by rw[AJ Cel.len,AJ Cel.len,hml,hf y hy3 hy1 hy2]) (by rw[AJ Cel.len,hml];simp) (CK Cel.ok _) hs6.cell ?_
  refine hkn _ [nb] (((hc5.trans0 hc6)).set _ _ (by simp)) (by simp) ?_
  rw[Au _ _ _ _ rfl (Aa hb6),hp2]
  simp
 ·intro y w4 hc4 hd hi h2 h3 h4
  have hg4:=hc4.keep hg3 (by simp;omega)
  have hr4:=hc4.keep hr3 (by simp;omega)
  have hlt:=Aa hr4
  simp -dsimp (disch:=first|omega|(simp only[go_sem,seval];try omega))only[go_sem,seval,hg4,hr4]
  refine ER (by simp -dsimp (disch:=first|omega|(simp only[go_sem,seval];try omega))only[go_sem,seval,hd]) ?_
  simp -dsimp (disch:=first|omega|(simp only[go_sem,seval];try omega))only[go_sem,seval]
  refine hK _ _ ⟨⟨nb,cap',sp,?_,?_,by omega,?_⟩,?_⟩
  ·show _=Value.agg #[.int .i64 g.w,.int .i64 g.h,.slice _ (g.chg top fin f).cs.length cap']
   rw[Gr.chg_len hg hf]
  ·rw[Gr.chg_len hg hf];exact hcap
  ·rw[AZ _ _ _ _ (by omega),AZ _ _ _ _ (by omega),hi]
   congr 5
   refine Eb fun k hk=>?_
   have:(top≤(k:Int)∧(k:Int)<fin∧k<y)↔(top≤(k:Int)∧(k:Int)<fin):=by omega
   simp only[this]
  ·exact((hc3'.trans hc4 (by simp;omega)).set _ _ (.inr (by omega))).set _ _ (.inr (by omega))
 ·intro w4 _ _ h4
  exact h4.elim
theorem LS {w:World} {b o:Nat} {e:TypeId} {pre post:List Value} {l:List Cel} {i:Nat} (h:w.heap[b]?=some (.cells (pre++l.flatMap Cel.cells++post).toArray e)) (ho:pre.length=o) (hi:i<l.length) (y:Cel) :
  Az w.heap[b]? (o+i*4) y.cells=some (.cells (pre++(l.set i y).flatMap Cel.cells++post).toArray e):=by
 obtain⟨p,q,h1,h2,h3⟩:=GR Cel.len l i l[i] y (List.getElem?_eq_getElem hi)
 rw[h,h1,h3]
 have:=DC (pre++p) (l[i].cells) y.cells (q++post) e (o+i*4) (by simp;omega) rfl
 simpa using this
theorem Ki {w:World} {b o n cap:Nat} {e:TypeId} {pre post:List Value} {l:List Cel} (h:w.heap[b]?=some (.cells (pre++l.flatMap Cel.cells++post).toArray e)) (ho:pre.length=o) (hn:l.length=n) (hl:n≤100000) (c:Cel) :
  Calls Tryz.prog 234 #[.slice (some ⟨b,o,none⟩) n cap,c.val] w (Ac fun _ w'=>Chg [b] w w'∧w'.heap[b]?=some (.cells (pre++(AL n fun _=>c).flatMap Cel.cells++post).toArray e)):=by
 have hb:=Aa h
 apply Mh
 intro K hK
 unfold HW
 simp -dsimp (disch:=first|omega|(simp only[go_sem,seval];try omega))only[go_sem,seval]
 refine Loop1.st (fun k:Nat=>.int .i64 k) (fun k w'=>k≤n∧Chg [b] w w'∧w'.heap[w.heap.size]?=some (.cells c.cells.toArray 167)∧∃l',w'.heap[b]?=some (.cells (pre++l'.flatMap Cel.cells++post).toArray e)∧l'.length=n∧∀i,i<k→l'[i]?=some c)
  (fun k=>n-k) 0 rfl ⟨by omega,(Chg.refl _ _).alloc _,(by simp -dsimp (disch:=first|omega|(simp only[go_sem,seval];try omega))only[go_sem,seval]),l,(by simp -dsimp (disch:=first|omega|(simp only[go_sem,seval];try omega))only[go_sem,seval,h]),hn,by simp⟩ ?_
 rintro next k w' hk ⟨h1,hc,hbx,l',h2,h3,h4⟩
 simp -dsimp (disch:=first|omega|(simp only[go_sem,seval];try omega))only[go_sem,seval]
 refine BrW.dec (fun h5=>?_) (fun h5=>?_)
 ·have h6:k<n:=by omega
  have hp:=LS h2 ho (i:=k) (by omega) c
  have hp':Az w'.heap[b]? (o+k*4) [.int .i32 c.r,.int .u8 c.fg.toNat,.int .u8 c.bg.toNat,.int .u8 c.a.toNat]=some _:=hp
  simp -dsimp (disch:=first|omega|(simp only[go_sem,seval];try omega))only[go_sem,seval,hbx,hp']
  refine hk (k+1) _ ⟨by omega,hc.set _ _ (by simp),?_,l'.set k c,(by rw[Au _ _ _ _ rfl (Aa h2)];simp),by simpa using h3,?_⟩ (by omega)
  ·rw[AZ _ _ _ _ (by omega)];exact hbx
  ·intro i hi
   rw[List.getElem?_set]
   split
   ·rw[if_pos (by omega)]
   ·exact h4 i (by omega)
 ·have h6:k=n:=by omega
  subst h6
  refine hK _ _ ⟨hc,?_⟩
  rw[h2,GM h3 h4]
theorem TR (w:World) (a:Option Addr) (cap:Nat) (c:Cel) :
  Calls Tryz.prog 234 #[.slice a 0 cap,c.val] w (Ac fun _ w'=>Chg [] w w'):=by
 apply Mh
 intro K hK
 unfold HW
 simp -dsimp (disch:=first|omega|(simp only[go_sem,seval];try omega))only[go_sem,seval]
 refine Loop1.st (fun k:Nat=>.int .i64 k) (fun k w'=>Chg [] w w') (fun k=>0) 0 rfl ((Chg.refl _ _).alloc _) ?_
 rintro next k w' hk hc
 simp -dsimp (disch:=first|omega|(simp only[go_sem,seval];try omega))only[go_sem,seval]
 refine BrW.dec (fun h5=>?_) (fun h5=>?_)
 ·omega
 ·exact hK _ _ hc
def AY (w:World) (b:Nat) (n:Int):Prop:=w.heap[b]?=some (.cells #[.int .i64 n] 3)
def CH (w:World) (b:Nat) (c:Cel):Prop:=w.heap[b]?=some (.cells c.cells.toArray 167)
theorem VT {w:World} {g:Gr} (hg:g.ok) {bl br bc:Nat} {left right:Int} {c:Cel} (h1:AY w bl left) (h2:AY w br right) (h3:CH w bc c) (hl:0≤left) (hlr:left≤right) (hr:right≤g.w) (top fin:Int) :
  Ew w g top fin (.func (.func 238) #[] #[.pointer (some ⟨bl,0,none⟩),.pointer (some ⟨br,0,none⟩),.pointer (some ⟨bc,0,none⟩)])
   (fun y=>AL g.w fun x=>if left≤(x:Int)∧(x:Int)<right then c else g.at x y):=by
 intro y w1 nb pre post _ _ hy hc1 hnb hb hpre
 have hw1:=hg.w1
 have k1:=hc1.keep h1 (by simp)
 have k2:=hc1.keep h2 (by simp)
 have k3:=hc1.keep h3 (by simp)
 refine Bd.of (us:=[]) (cs:=[_,_,_]) Yc ?_
 show Calls _ _ #[.int .i64 y,BI nb 0 g y,.pointer (some ⟨bl,0,none⟩),.pointer (some ⟨br,0,none⟩),.pointer (some ⟨bc,0,none⟩)] _ _
 obtain⟨L,rfl⟩:=Int.eq_ofNat_of_zero_le hl
 obtain⟨Rt,rfl⟩:=Int.eq_ofNat_of_zero_le (Int.le_trans hl hlr)
 apply Vz
 intro K hK
 unfold Kn
 simp -dsimp (disch:=first|omega|(simp only[go_sem,seval];try omega))only[go_sem,seval,k1,k2,k3,BI]
 have hrl:=hg.row_len hy
 by_cases hz:Rt-L=0
 ·rw[hz]
  refine OpX.call Iy rfl (Calls.ret (TR _ _ _ c) ?_)
  rintro v w2 hc2
  have hc2':=(Chg.refl [] w1).drew.trans0 hc2
  refine hK _ _ ⟨hc2'.mono (by simp),?_⟩
  rw[hc2'.keep hb (by simp),hg.row_line hy]
  congr 6
  refine Ep fun i hi=>?_
  rw[if_neg (by omega)]
 ·have e1:slo (y*g.w*4) g.w L 4=y*g.w*4+L*4:=by unfold slo;rw[if_neg (by omega)]
  rw[e1]
  have hsp:g.row y=(g.row y).take L++((g.row y).drop L).take (Rt-L)++(g.row y).drop Rt:=by
   have e2:(g.row y).drop Rt=((g.row y).drop L).drop (Rt-L):=by rw[List.drop_drop];congr 1;omega
   rw[e2,List.append_assoc,List.take_append_drop,List.take_append_drop]
  have hb2:w1.drew.heap[nb]?=some (Obj.cells ((pre++((g.row y).take L).flatMap Cel.cells)++(((g.row y).drop L).take (Rt-L)).flatMap Cel.cells++(((g.row y).drop Rt).flatMap Cel.cells++post)).toArray 167):=by
   show w1.heap[nb]?=_
   rw[hb]
   conv=>lhs;rw[hsp]
   simp
  refine OpX.call Iy rfl (Calls.ret (Ki hb2 (by rw[List.length_append,hpre,AJ Cel.len,List.length_take,Nat.min_eq_left (by omega)]) (by simp;omega) (by omega) c) ?_)
  rintro v w2 ⟨hc2,hb3⟩
  refine hK _ _ ⟨(Chg.refl [nb] w1).drew.trans hc2 (by simp),?_⟩
  rw[hb3]
  have:(AL g.w fun x=>if(L:Int)≤(x:Int)∧(x:Int)<(Rt:Int) then c else g.at x y)=(g.row y).take L++(AL (Rt-L) fun _=>c)++(g.row y).drop Rt:=by
   refine(GM ?_ fun i hi=>?_).symm
   ·simp [Bi];omega
   ·by_cases h4:i<L
    ·rw[List.append_assoc,List.getElem?_append_left (by simp;omega),List.getElem?_take_of_lt h4,hg.row_get hi hy,if_neg (by omega)]
    ·by_cases h5:i<Rt
     ·rw[List.getElem?_append_left (by simp [Bi];omega),List.getElem?_append_right (by simp;omega),Gt (by simp;omega),if_pos (by omega)]
     ·rw[List.getElem?_append_right (by simp [Bi];omega),List.getElem?_drop]
      have:Rt+(i-((g.row y).take L++AL (Rt-L) fun _=>c).length)=i:=by simp [Bi];omega
      rw[this,hg.row_get hi hy,if_neg (by omega)]
  dsimp only
  rw[this]
  simp
theorem MP {w:World} {g:Gr} (hg:g.ok) (hr:g.right=true) {e:Option TypeId} {a:Option Addr} (hs:SxC w e a g.cs) (cap:Nat) (hcap:g.cs.length≤cap) {X Y W H:Int} {c:Cel} (hu:c.usual=true)
  (hX:-9223372036854775808≤X∧X≤9223372036854775807) (hY:-9223372036854775808≤Y∧Y≤9223372036854775807) (hW:W≤9223372036854775807) (hH:H≤9223372036854775807) :
  Calls Tryz.prog 229 #[g.val a cap,.agg #[.int .i64 X,.int .i64 Y,.int .i64 W,.int .i64 H],c.val] w (Ac fun v w'=>GAt w.heap.size w' v (g.fill X Y W H c)∧Chg [] w w'):=by
 have hh1:=hg.h1
 have hw1:=hg.w1
 apply Vq
 intro K hK
 unfold LW
 simp -dsimp (disch:=first|omega|(simp only[go_sem,seval];try omega))only[go_sem,seval,Gr.val]
 refine Join1.inl ?_
 simp -dsimp (disch:=first|omega|(simp only[go_sem,seval];try omega))only[go_sem,seval]
 refine OpX.gen fun w0 hw0=>?_
 have hc0:Chg [] w w0:=by rw[hw0];exact IH _ _ _ _ _
 have hz0:w0.heap.size=w.heap.size+4:=by rw[hw0];simp -dsimp (disch:=first|omega|(simp only[go_sem,seval];try omega))only[go_sem,seval]
 have hg0:w0.heap[w.heap.size]?=some (.cells #[.int .i64 g.w,.int .i64 g.h,.slice a g.cs.length cap] 59):=by rw[hw0];simp -dsimp (disch:=first|omega|(simp only[go_sem,seval];try omega))only[go_sem,seval]
 have hr0:w0.heap[w.heap.size+1]?=some (.cells #[.int .i64 X,.int .i64 Y,.int .i64 W,.int .i64 H] 49):=by rw[hw0];simp -dsimp (disch:=first|omega|(simp only[go_sem,seval];try omega))only[go_sem,seval]
 have hk0:w0.heap[w.heap.size+2]?=some (.cells c.cells.toArray 167):=by rw[hw0];simp -dsimp (disch:=first|omega|(simp only[go_sem,seval];try omega))only[go_sem,seval]
 have ho0:w0.heap[w.heap.size+3]?=some (.cells #[.int .i64 0,.int .i64 0,.slice none 0 0] 59):=by rw[hw0];simp -dsimp (disch:=first|omega|(simp only[go_sem,seval];try omega))only[go_sem,seval]
 clear hw0
 refine OpX.call DH rfl (Calls.ret (DI hg (hs.chg0 hc0) cap hcap) ?_)
 rintro v w1 ⟨rfl,hc1⟩
 rw[hr]
 have hk1:=hc1.keep hk0 (by simp)
 simp -dsimp (disch:=first|omega|(simp only[go_sem,seval];try omega))only[go_sem,seval,hk1]
 refine OpX.call Ge rfl (Calls.ret (FU _ c) ?_)
 rintro v w2 ⟨rfl,hc2⟩
 rw[hu]
 have hc12:=hc1.trans0 hc2
 have hg2:=hc12.keep hg0 (by simp)
 have hr2:=hc12.keep hr0 (by simp)
 simp -dsimp (disch:=first|omega|(simp only[go_sem,seval];try omega))only[go_sem,seval,hg2,hr2]
 refine OpX.call Fi rfl (Calls.ret (Fl _ Y H g.h (by omega) (by omega) hY.1 hY.2 hH) ?_)
 rintro v w3 ⟨rfl,rfl⟩
 simp -dsimp (disch:=first|omega|(simp only[go_sem,seval];try omega))only[go_sem,seval,hg2,hr2]
 refine OpX.call Fi rfl (Calls.ret (Fl _ X W g.w (by omega) (by omega) hX.1 hX.2 hW) ?_)
 rintro v w4 ⟨rfl,rfl⟩
 have hlt:=Aa hr2
 simp -dsimp (disch:=first|omega|(simp only[go_sem,seval];try omega))only[go_sem,seval,hg2]
 refine OpX.gen fun w5 hw5=>?_
 have hc5:Chg [] w4 w5:=by rw[hw5];exact Cm _ _ _
 have hl5:AY w5 w4.heap.size (AT X W g.w).1:=by show w5.heap[_]?=_;rw[hw5];simp -dsimp (disch:=first|omega|(simp only[go_sem,seval];try omega))only[go_sem,seval]
 have hm5:AY w5 (w4.heap.size+1) (AT X W g.w).2:=by show w5.heap[_]?=_;rw[hw5];simp -dsimp (disch:=first|omega|(simp only[go_sem,seval];try omega))only[go_sem,seval]
 have hk5:CH w5 (w.heap.size+2) c:=(hc12.trans0 hc5).keep hk0 (by simp)
 have hc05:=(hc0.trans0 hc12).trans0 hc5
 clear hw5
 have hb1:=Ez (x:=X) (n:=W) (size:=g.w) (by omega)
 have hb2:=Ez (x:=Y) (n:=H) (size:=g.h) (by omega)
 refine OpX.call DP rfl (Calls.ret (Es hg (hs.chg0 hc05) cap (by omega) (by omega) (VT hg hl5 hm5 hk5 hb1.1 hb1.2.1 hb1.2.2 _ _) (fun y _ _ _=>Bi _ _)) ?_)
 rintro v w6 ⟨hga,hc6⟩
 have hc06:=hc05.trans0 hc6
 have ho6:=((hc12.trans0 hc5).trans0 hc6).keep ho0 (by simp)
 have hlo:=Aa ho6
 have hs5:=hc5.size
 have hs12:=hc12.size
 obtain⟨nb,cap',sp,rfl,k1,k2,k3⟩:=hga
 simp -dsimp (disch:=first|omega|(simp only[go_sem,seval];try omega))only[go_sem,seval,Gr.val,ho6]
 refine hK _ _ ⟨⟨nb,cap',sp,rfl,k1,by omega,?_⟩,hc06.set _ _ (.inr (by omega))⟩
 rw[AZ _ _ _ _ (by omega)];exact k3
theorem GH (n:Nat) (h:n≤100000):AR .and .u64 (n:Int) 4294967295=n:=by
 show IntKind.u64.wrap ((BitVec.ofInt 64 (n:Int) &&& BitVec.ofInt 64 4294967295).toNat:Int)=_
 rw[show BitVec.ofInt 64 (n:Int)=BitVec.ofNat 64 n from BitVec.ofInt_natCast ..]
 rw[BitVec.toNat_and,BitVec.toNat_ofNat,Nat.mod_eq_of_lt (by omega)]
 rw[show(BitVec.ofInt 64 4294967295).toNat=2 ^ 32-1 from rfl,Nat.and_two_pow_sub_one_eq_mod,Nat.mod_eq_of_lt (by omega)]
 exact Ik _ (by omega) (by omega)
theorem ZX (w:World) (n:Nat) (hn:n≤100000):Calls Tryz.prog 240 #[.int .u64 1,.int .u64 n] w (Ac fun v w'=>v=.tuple #[.int .u64 0,.int .u64 n]∧w'=w):=by
 have h1:AR .and .u64 1 4294967295=1:=GH 1 (by omega)
 have h2:Int.fdiv 1 (2 ^ min 32 64)=0:=by decide
 have h3:(n:Int).fdiv (2 ^ min 32 64)=0:=by
  rw[Int.fdiv_eq_ediv_of_nonneg _ (by decide)]
  exact Int.ediv_eq_zero_of_lt (by omega) (by simp;omega)
 have h4:Int.fdiv 0 (2 ^ min 32 64)=0:=by decide
 have h5:AR .and .u64 0 4294967295=0:=GH 0 (by omega)
 have h6:IntKind.u64.wrap (n:Int)=n:=Ik _ (by omega) (by omega)
 have h7:IntKind.u64.wrap 0=0:=Ik _ (by omega) (by omega)
 apply Rb
 intro K hK
 unfold Ng
 simp -dsimp (disch:=first|omega|(simp only[go_sem,seval];try omega))only[go_sem,seval,h1,h2,h3,h4,GH n hn]
 refine hK _ _ ⟨?_,rfl⟩
 simp only[h1,h2,h3,h4,h5,h6,h7,GH n hn,Int.zero_mul,Int.one_mul,Int.add_zero,Int.zero_add,Int.mul_zero]
theorem Ql (w:World) (n:Nat) (hn:n≤100000):Calls Tryz.prog 232 #[.int .u64 1,.int .u64 n] w (Ac fun v w'=>v=.tuple #[.int .u64 0,.int .u64 n]∧w'=w):=by
 apply Q9
 intro K hK
 unfold Ls
 refine OpX.call Vx rfl (Calls.ret (ZX _ n hn) ?_)
 rintro v w1 ⟨rfl,rfl⟩
 simp -dsimp (disch:=first|omega|(simp only[go_sem,seval];try omega))only[go_sem,seval]
 exact hK _ _ ⟨rfl,rfl⟩
theorem P7 {w:World} {e:Option TypeId} {a:Option Addr} {c:Cel} (hs:SxC w e a [c]) (cap n:Nat) (hn0:0<n) (hn:n≤20000):Calls Tryz.prog 223 #[.slice a 1 cap,.int .i64 n] w
  (Ac fun v w'=>Chg [] w w'∧∃nb,v=.slice (some ⟨nb,0,none⟩) n n∧w.heap.size≤nb∧w'.heap[nb]?=some (.cells ((List.replicate n c).flatMap Cel.cells).toArray 167)):=by
 apply U2
 intro K hK
 unfold Nv
 refine Join0.inl ?_
 simp -dsimp (disch:=first|omega|(simp only[go_sem,seval];try omega))only[go_sem,seval]
 refine BrW.dec (fun h=>by omega) (fun h=>?_)
 simp -dsimp (disch:=first|omega|(simp only[go_sem,seval];try omega))only[go_sem,seval]
 refine OpX.call UX rfl (Calls.ret (Ql _ n (by omega)) ?_)
 rintro v w1 ⟨rfl,rfl⟩
 simp -dsimp (disch:=first|omega|(simp only[go_sem,seval];try omega))only[go_sem,seval]
 refine Join0.inl ?_
 refine Join1.inl ?_
 simp -dsimp (disch:=first|omega|(simp only[go_sem,seval];try omega))only[go_sem,seval]
 refine BrW.dec (fun h=>by omega) (fun h=>?_)
 simp -dsimp (disch:=first|omega|(simp only[go_sem,seval];try omega))only[go_sem,seval]
 refine Kv (f:=Cel.cells) Cel.none J2 Cel.len rfl (by omega) (by omega) (by omega) (Nat.le_refl _) ?_
 intro w2 hw2 ho2
 have hc2:Chg [] w1 w2:=by rw[hw2];exact(Chg.refl _ _).alloc _
 have hb2:w2.heap[w1.heap.size]?=some (.cells ([]++(List.replicate 1 Cel.none).flatMap Cel.cells++(List.replicate (n-1) Cel.none).flatMap Cel.cells).toArray 167):=by
  rw[hw2]
  simp -dsimp (disch:=first|omega|(simp only[go_sem,seval];try omega))only[go_sem,seval]
  rw[OD (f:=Cel.cells) (z:=Cel.none) (zs:=[.int .i32 0,.int .u8 0,.int .u8 0,.int .u8 0]) rfl]
  have:n=1+(n-1):=by omega
  conv=>lhs;rw[this,←List.replicate_append_replicate]
  simp
 obtain⟨b,o,c',e2,fr,pre,post,rfl,k2,k3,k4,k5⟩:=(hs.chg0 hc2).at_ (by simp)
 have hs2:SxC w2 e (some ⟨b,o,none⟩) [c]:=hs.chg0 hc2
 refine DQ (t:=57) (new:=[c].flatMap Cel.cells) Dq hb2 rfl (by simp [Cel.len]) (by simp [Cel.len];omega) (CK Cel.ok _) hs2.cell ?_
 have hmin:min 1 n=1:=by omega
 rw[hmin]
 have hc3:Chg [] w1 (Ab w2 w1.heap.size (.cells ([]++[c].flatMap Cel.cells++(List.replicate (n-1) Cel.none).flatMap Cel.cells).toArray 167)):=hc2.set _ _ (.inr (Nat.le_refl _))
 have hb3:=Au w2 w1.heap.size (.cells ([]++[c].flatMap Cel.cells++(List.replicate (n-1) Cel.none).flatMap Cel.cells).toArray 167) w1.heap.size rfl (Aa hb2)
 generalize Ab w2 w1.heap.size (.cells ([]++[c].flatMap Cel.cells++(List.replicate (n-1) Cel.none).flatMap Cel.cells).toArray 167)=w3 at hc3 hb3 ⊢
 refine Loop1.st (fun k:Nat=>.int .i64 k) (fun k w'=>0<k∧k≤n∧Chg [] w1 w'∧w'.heap[w1.heap.size]?=some (.cells ((List.replicate k c).flatMap Cel.cells++(List.replicate (n-k) Cel.none).flatMap Cel.cells).toArray 167)) (fun k=>n-k) 1 rfl ⟨by omega,by omega,hc3,by rw[hb3];rfl⟩ ?_
 rintro next k w4 hk ⟨h1,h2,h3,h4⟩
 simp -dsimp (disch:=first|omega|(simp only[go_sem,seval];try omega))only[go_sem,seval]
 refine BrW.dec (fun h5=>?_) (fun h5=>?_)
 ·simp -dsimp (disch:=first|omega|(simp only[go_sem,seval];try omega))only[go_sem,seval]
  have e1:slo 0 n k 4=k*4:=by unfold slo;rw[if_neg (by omega)];omega
  try rw[e1]
  obtain⟨m,hm⟩:∃m,m=min k (n-k):=⟨_,rfl⟩
  have hb5:w4.drew.heap[w1.heap.size]?=some (.cells ((List.replicate k c).flatMap Cel.cells++(List.replicate m Cel.none).flatMap Cel.cells++(List.replicate (n-k-m) Cel.none).flatMap Cel.cells).toArray 167):=by
   show w4.heap[_]?=_
   rw[h4]
   have:n-k=m+(n-k-m):=by omega
   rw[this,←List.replicate_append_replicate,←this]
   simp only[List.flatMap_append,List.append_assoc]
  have hs5:SxC w4.drew (some 167) (some ⟨w1.heap.size,0,none⟩) (List.replicate m c):=by
   refine⟨fun _=>⟨_,0,_,_,_,[],(List.replicate (k-m) c).flatMap Cel.cells++(List.replicate (n-k) Cel.none).flatMap Cel.cells,rfl,h4,by simp [BR],?_,rfl⟩⟩
   have:List.replicate k c=List.replicate m c++List.replicate (k-m) c:=by rw[List.replicate_append_replicate];congr 1;omega
   rw[this]
   simp only[List.flatMap_append,List.append_assoc,List.nil_append]
  refine DQ (new:=(List.replicate m c).flatMap Cel.cells) Dq hb5 (by rw[AJ Cel.len];simp) (by rw[AJ Cel.len,AJ Cel.len];simp) (by rw[AJ Cel.len,hm];simp) (CK Cel.ok _) hs5.cell ?_
  rw[←hm]
  simp -dsimp (disch:=first|omega|(simp only[go_sem,seval];try omega))only[go_sem,seval]
  refine hk (k+m) _ ⟨by omega,by omega,(h3.set _ _ (.inr (Nat.le_refl _))).drew,?_⟩ (by omega)
  show(Ab w4 _ _).heap[_]?=_
  rw[Au _ _ _ _ rfl (Aa h4),←List.replicate_append_replicate,show n-(k+m)=n-k-m by omega]
  simp only[List.flatMap_append,List.append_assoc]
 ·have:k=n:=by omega
  subst this
  refine hK _ _ ⟨h3,_,rfl,Nat.le_refl _,?_⟩
  rw[h4];simp
theorem GU (w:World) (x y:Nat) (c:Cel) (x0:0<x) (x1:x≤200) (y0:0<y) (y1:y≤60):Calls Tryz.prog 204 #[.int .i64 x,.int .i64 y,c.val] w
  (Ac fun v w'=>GAt w.heap.size w' v (Gr.plain x y c)∧Chg [] w w'):=by
 have hm:=Nat.mul_le_mul x1 y1
 have hm0:=Nat.mul_pos x0 y0
 have e1:(x:Int)*(y:Int)=((x*y:Nat):Int):=by simp
 apply QF
 intro K hK
 unfold Kc
 simp -dsimp (disch:=first|omega|(simp only[go_sem,seval];try omega))only[go_sem,seval]
 simp -dsimp (disch:=first|omega|(simp only[go_sem,seval];try omega))only[go_sem,seval,e1]
 refine OpX.gen fun w0 hw0=>?_
 have hc0:Chg [] w w0:=by rw[hw0];exact EZ _ _ _ _
 have hz0:w0.heap.size=w.heap.size+3:=by rw[hw0];simp -dsimp (disch:=first|omega|(simp only[go_sem,seval];try omega))only[go_sem,seval]
 have ho0:w0.heap[w.heap.size+1]?=some (.cells #[.int .i64 0,.int .i64 0,.slice none 0 0] 59):=by rw[hw0];simp -dsimp (disch:=first|omega|(simp only[go_sem,seval];try omega))only[go_sem,seval]
 have hs0:SxC w0 (some 167) (some ⟨w.heap.size+1+1,0,none⟩) [c]:=Sx.built (c:=c.cells) (by rw[hw0];simp -dsimp (disch:=first|omega|(simp only[go_sem,seval];try omega))only[go_sem,seval]) (by simp)
 clear hw0
 refine OpX.call YO rfl (Calls.ret (P7 hs0 1 (x*y) hm0 (by omega)) ?_)
 rintro v w1 ⟨hc1,nb,rfl,hnb,hb⟩
 have ho1:=hc1.keep ho0 (by simp)
 have hlo:=Aa ho1
 simp -dsimp (disch:=first|omega|(simp only[go_sem,seval];try omega))only[go_sem,seval,ho1]
 refine hK _ _ ⟨⟨nb,x*y,[],?_,by simp [Gr.plain],by omega,?_⟩,(hc0.trans0 hc1).set _ _ (.inr (by omega))⟩
 ·simp [Gr.val,Gr.plain]
 ·rw[AZ _ _ _ _ (by omega),hb];simp [Gr.plain]
theorem EO (w:World) (x y:Nat) (x0:0<x) (x1:x≤200) (y0:0<y) (y1:y≤60):Calls Tryz.prog 167 #[.int .i64 x,.int .i64 y] w
  (Ac fun v w'=>GAt w.heap.size w' v (Gr.plain x y Cel.blank)∧Chg [] w w'):=by
 have hf:Ce x y=true:=by unfold Ce;apply decide_eq_true;omega
 apply WC
 intro K hK
 unfold Jy
 simp -dsimp (disch:=first|omega|(simp only[go_sem,seval];try omega))only[go_sem,seval]
 refine OpX.call IE rfl (Calls.ret (G0 _ x y) ?_)
 rintro v w1 ⟨rfl,rfl⟩
 simp -dsimp (disch:=first|omega|(simp only[go_sem,seval];try omega))only[go_sem,seval,hf]
 refine OpX.call Gq rfl (Calls.ret (FK _) ?_)
 rintro v w2 ⟨rfl,hc2⟩
 have hc1:=AE w (.cells #[.int .i64 0,.int .i64 0,.slice none 0 0] 59)
 have ho1:(w.alloc (.cells #[.int .i64 0,.int .i64 0,.slice none 0 0] 59)).heap[w.heap.size]?=some (.cells #[.int .i64 0,.int .i64 0,.slice none 0 0] 59):=by simp -dsimp (disch:=first|omega|(simp only[go_sem,seval];try omega))only[go_sem,seval]
 have hc12:=hc1.trans0 hc2
 have ho2:=hc2.keep ho1 (by simp)
 have hlo:=Aa ho2
 refine OpX.call Il rfl (Calls.ret (GU _ x y Cel.blank x0 x1 y0 y1) ?_)
 rintro v w3 ⟨⟨nb,cap',sp,rfl,k1,k2,k3⟩,hc3⟩
 have ho3:=hc3.keep ho2 (by simp)
 have hlo3:=Aa ho3
 simp -dsimp (disch:=first|omega|(simp only[go_sem,seval];try omega))only[go_sem,seval,Gr.val,ho3]
 refine hK _ _ ⟨⟨nb,cap',sp,rfl,k1,by omega,?_⟩,(hc12.trans0 hc3).set _ _ (.inr (by omega))⟩
 rw[AZ _ _ _ _ (by omega)];exact k3
theorem Ic {w:World} {b o n:Nat} {e:TypeId} {pre post:List Value} {c:Nat→Cel} {i:Nat} (h:w.heap[b]?=some (.cells (pre++(AL n c).flatMap Cel.cells++post).toArray e)) (ho:pre.length=o) (hi:i<n) (v:Cel) (d:Nat→Cel) (hd:d i=v) (hdc:∀k,k<n→k≠i→d k=c k) :
  Az w.heap[b]? (o+i*4) [.int .i32 v.r,.int .u8 v.fg.toNat,.int .u8 v.bg.toNat,.int .u8 v.a.toNat]=some (.cells (pre++(AL n d).flatMap Cel.cells++post).toArray e):=by
 rw[←TM hi hd hdc]
 exact LS h ho (by rw[Bi];exact hi) v
theorem SS {w:World} {g:Gr} (hg:g.ok) {bl br bc bx:Nat} {left right X:Int} {e:Option TypeId} {a:Option Addr} {l:List Cel} {cap:Nat} (h1:AY w bl left) (h2:AY w br right) (h3:w.heap[bc]?=some (.cells #[.slice a l.length cap] 57)) (h4:AY w bx X) (hs:SxC w e a l)
  (hl:0≤left) (hr:right≤g.w) (hx:∀i:Int,left≤i→i<right→X≤i∧i<X+l.length) (hX:-1000000≤X) (top fin:Int) :
  Ew w g top fin (.func (.func 210) #[] #[.pointer (some ⟨bl,0,none⟩),.pointer (some ⟨br,0,none⟩),.pointer (some ⟨bc,0,none⟩),.pointer (some ⟨bx,0,none⟩)])
   (fun y=>AL g.w fun x=>if left≤(x:Int)∧(x:Int)<right then l.getD ((x:Int)-X).toNat Cel.none else g.at x y):=by
 intro y w1 nb pre post _ _ hy hc1 hnb hb hpre
 have hw1:=hg.w1
 have k1:=hc1.keep h1 (by simp)
 have k2:=hc1.keep h2 (by simp)
 have k3:=hc1.keep h3 (by simp)
 have k4:=hc1.keep h4 (by simp)
 have n1:=Aa h1
 have n2:=Aa h2
 have n3:=Aa h3
 have n4:=Aa h4
 refine Bd.of (us:=[]) (cs:=[_,_,_,_]) Xg ?_
 show Calls _ _ #[.int .i64 y,BI nb 0 g y,.pointer (some ⟨bl,0,none⟩),.pointer (some ⟨br,0,none⟩),.pointer (some ⟨bc,0,none⟩),.pointer (some ⟨bx,0,none⟩)] _ _
 obtain⟨L,rfl⟩:=Int.eq_ofNat_of_zero_le hl
 apply YX
 intro K hK
 unfold Ll
 simp -dsimp (disch:=first|omega|(simp only[go_sem,seval];try omega))only[go_sem,seval,k1,BI]
 refine Loop1.st (fun k:Nat=>.int .i64 k) (fun k w'=>L≤k∧Chg [nb] w1 w'∧w'.heap[nb]?=some (.cells (pre++(AL g.w fun x=>if(L:Int)≤(x:Int)∧(x:Int)<right∧x<k then l.getD ((x:Int)-X).toNat Cel.none else g.at x y).flatMap Cel.cells++post).toArray 167))
  (fun k=>g.w-k) L rfl ⟨by omega,Chg.refl _ _,?_⟩ ?_
 ·rw[hb,hg.row_line hy]
  congr 6
  refine Ep fun i hi=>?_
  rw[if_neg (by omega)]
 ·rintro next k w' hn ⟨i1,i2,i3⟩
  have m1:=i2.keep k1 (by simp;omega)
  have m2:=i2.keep k2 (by simp;omega)
  have m3:=i2.keep k3 (by simp;omega)
  have m4:=i2.keep k4 (by simp;omega)
  simp -dsimp (disch:=first|omega|(simp only[go_sem,seval];try omega))only[go_sem,seval,m2]
  refine BrW.dec (fun h5=>?_) (fun h5=>?_)
  ·obtain⟨x1,x2⟩:=hx k (by omega) h5
   have hs':SxC w' e a l:=(hs.chg0 hc1).chg i2 (fun b o ha hl hm=>by have:=hs.lt hl ha;simp at hm;omega)
   obtain⟨q,hq⟩:=Int.eq_ofNat_of_zero_le (show 0≤(k:Int)-X by omega)
   have hql:q<l.length:=by omega
   obtain⟨b',o',rfl,hb',h6,-⟩:=SxC.cel hs' (List.getElem?_eq_getElem hql)
   have hp:=Ic i3 hpre (i:=k) (by omega) l[q] (fun x=>if(L:Int)≤(x:Int)∧(x:Int)<right∧x<k+1 then l.getD ((x:Int)-X).toNat Cel.none else g.at x y)
    (by rw[if_pos (by omega),hq];simp [List.getD_eq_getElem?_getD,hql]) (fun j hj hne=>by
     have:((L:Int)≤(j:Int)∧(j:Int)<right∧j<k+1)↔((L:Int)≤(j:Int)∧(j:Int)<right∧j<k):=by omega
     simp only[this])
   simp -dsimp (disch:=first|omega|(simp only[go_sem,seval];try omega))only[go_sem,seval,m3,m4,hq,h6,BI,hp]
   refine hn (k+1) _ ⟨by omega,i2.set _ _ (by simp),?_⟩ (by omega)
   rw[Au _ _ _ _ rfl (Aa i3)]
   simp
  ·refine hK _ _ ⟨i2,?_⟩
   rw[i3]
   congr 6
   refine Ep fun i hi=>?_
   have:((L:Int)≤(i:Int)∧(i:Int)<right∧i<k)↔((L:Int)≤(i:Int)∧(i:Int)<right):=by omega
   simp only[this]
theorem WR {w:World} {g:Gr} (hg:g.ok) {bn bt be bc bg:Nat} {top' end' N:Int} {e:Option TypeId} {b o cap:Nat} {c:Cel} (h1:AY w bn N) (h2:AY w bt top') (h3:AY w be end') (h4:CH w bc c)
  (h5:w.heap[bg]?=some (.cells #[.int .i64 g.w,.int .i64 g.h,.slice (some ⟨b,o,none⟩) g.cs.length cap] 59)) (hs:SxC w e (some ⟨b,o,none⟩) g.cs) (hcap:g.cs.length≤cap)
  (ht:0≤top') (he:end'≤g.h) (hN:-100≤N∧N≤100) (top fin:Int) :
  Ew w g top fin (.func (.func 233) #[] #[.pointer (some ⟨bn,0,none⟩),.pointer (some ⟨bt,0,none⟩),.pointer (some ⟨be,0,none⟩),.pointer (some ⟨bc,0,none⟩),.pointer (some ⟨bg,0,none⟩)])
   (fun y=>if(y:Int)+N<top'∨end'≤(y:Int)+N then AL g.w fun _=>c else g.row ((y:Int)+N).toNat):=by
 intro y w1 nb pre post _ _ hy hc1 hnb hb hpre
 have hw1:=hg.w1
 have hh1:=hg.h1
 have k1:=hc1.keep h1 (by simp)
 have k2:=hc1.keep h2 (by simp)
 have k3:=hc1.keep h3 (by simp)
 have k4:=hc1.keep h4 (by simp)
 have k5:=hc1.keep h5 (by simp)
 have hrl:=hg.row_len hy
 refine Bd.of (us:=[]) (cs:=[_,_,_,_,_]) Xq ?_
 show Calls _ _ #[.int .i64 y,BI nb 0 g y,.pointer (some ⟨bn,0,none⟩),.pointer (some ⟨bt,0,none⟩),.pointer (some ⟨be,0,none⟩),.pointer (some ⟨bc,0,none⟩),.pointer (some ⟨bg,0,none⟩)] _ _
 apply Xk
 intro K hK
 unfold MM
 refine Join1.cut (fun v w'=>v=.bool (decide ((y:Int)+N<top'∨end'≤(y:Int)+N))∧w'=w1) ?_ ?_
 ·simp -dsimp (disch:=first|omega|(simp only[go_sem,seval];try omega))only[go_sem,seval,k1,k2,k3]
  refine BrW.dec (fun h=>?_) (fun h=>?_)
  ·exact⟨by simp [h],rfl⟩
  ·simp -dsimp (disch:=first|omega|(simp only[go_sem,seval];try omega))only[go_sem,seval,k1,k2,k3]
   simp [h]
 ·rintro v w2 ⟨rfl,rfl⟩
  refine BrW.dec (fun h=>?_) (fun h=>?_)
  ·simp -dsimp (disch:=first|omega|(simp only[go_sem,seval];try omega))only[go_sem,seval,k4,BI]
   refine OpX.call Iy rfl (Calls.ret (Ki hb (by omega) hrl (by omega) c) ?_)
   rintro v w3 ⟨hc3,hb3⟩
   refine hK _ _ ⟨hc3,?_⟩
   dsimp only
   rw[if_pos h,hb3]
  ·obtain⟨q,hq⟩:=Int.eq_ofNat_of_zero_le (show 0≤(y:Int)+N by omega)
   simp -dsimp (disch:=first|omega|(simp only[go_sem,seval];try omega))only[go_sem,seval,k1,k5,hq]
   refine OpX.call Fk rfl (Calls.ret (EP (w:=w2) hg b o cap hcap q (by omega)) ?_)
   rintro v w3 ⟨rfl,hc3⟩
   have hb3:=hc3.keep hb (by simp)
   have hs3:SxC w3 e (some ⟨b,o+q*g.w*4,none⟩) (g.row q):=Sx.sub ((hs.chg0 hc1).chg0 hc3) Cel.len (q*g.w) g.w _ (.inr (.inr rfl))
   have hql:=hg.row_len (y:=q) (by omega)
   refine DQ (new:=(g.row q).flatMap Cel.cells) Dq hb3 (by omega) (by rw[AJ Cel.len,AJ Cel.len,hql,hrl]) (by rw[AJ Cel.len,hql];simp) (CK Cel.ok _) hs3.cell ?_
   refine hK _ _ ⟨(hc3.mono (by simp)).set _ _ (by simp),?_⟩
   dsimp only
   rw[if_neg h,Au _ _ _ _ rfl (Aa hb3),hq]
   rfl
theorem Yu {w:World} {g:Gr} (hg:g.ok) {bn bx bc bg:Nat} {X N:Int} {e:Option TypeId} {b o cap:Nat} {c:Cel} (h1:AY w bn N) (h2:AY w bx X) (h4:CH w bc c)
  (h5:w.heap[bg]?=some (.cells #[.int .i64 g.w,.int .i64 g.h,.slice (some ⟨b,o,none⟩) g.cs.length cap] 59)) (hs:SxC w e (some ⟨b,o,none⟩) g.cs) (hcap:g.cs.length≤cap)
  (hX:0≤X∧X≤9223372036854775807) (hN:-1000≤N∧N≤1000) (top fin:Int) :
  Ew w g top fin (.func (.func 231) #[] #[.pointer (some ⟨bg,0,none⟩),.pointer (some ⟨bx,0,none⟩),.pointer (some ⟨bc,0,none⟩),.pointer (some ⟨bn,0,none⟩)])
   (fun y=>AL g.w fun x=>if X≤(x:Int) then(if X≤(x:Int)-N∧(x:Int)-N<g.w then g.at ((x:Int)-N).toNat y else c) else g.at x y):=by
 intro y w1 nb pre post _ _ hy hc1 hnb hb hpre
 have hw1:=hg.w1
 have hh1:=hg.h1
 have k1:=hc1.keep h1 (by simp)
 have k2:=hc1.keep h2 (by simp)
 have k4:=hc1.keep h4 (by simp)
 have k5:=hc1.keep h5 (by simp)
 have n1:=Aa h1
 have n2:=Aa h2
 have n4:=Aa h4
 have n5:=Aa h5
 have hrl:=hg.row_len hy
 obtain⟨L,rfl⟩:=Int.eq_ofNat_of_zero_le hX.1
 refine Bd.of (us:=[]) (cs:=[_,_,_,_]) XM ?_
 show Calls _ _ #[.int .i64 y,BI nb 0 g y,.pointer (some ⟨bg,0,none⟩),.pointer (some ⟨bx,0,none⟩),.pointer (some ⟨bc,0,none⟩),.pointer (some ⟨bn,0,none⟩)] _ _
 apply ZW
 intro K hK
 unfold MH
 simp -dsimp (disch:=first|omega|(simp only[go_sem,seval];try omega))only[go_sem,seval,k5]
 refine OpX.call Fk rfl (Calls.ret (EP (w:=w1) hg b o cap hcap y hy) ?_)
 rintro v w2 ⟨rfl,hc2⟩
 have k2':=hc2.keep k2 (by simp)
 have hb2:=hc2.keep hb (by simp)
 have hs2:SxC w2 e (some ⟨b,o+y*g.w*4,none⟩) (g.row y):=Sx.sub ((hs.chg0 hc1).chg0 hc2) Cel.len (y*g.w) g.w _ (.inr (.inr rfl))
 have hbo:b<w.heap.size:=hs.lt hg.ne rfl
 simp -dsimp (disch:=first|omega|(simp only[go_sem,seval];try omega))only[go_sem,seval,k2']
 refine Loop1.st (fun k:Nat=>.int .i64 k) (fun k w'=>L≤k∧Chg [nb] w1 w'∧w'.heap[nb]?=some (.cells (pre++(AL g.w fun x=>if(L:Int)≤(x:Int)∧x<k then(if(L:Int)≤(x:Int)-N∧(x:Int)-N<g.w then g.at ((x:Int)-N).toNat y else c) else g.at x y).flatMap Cel.cells++post).toArray 167)
   ∧ SxC w' e (some ⟨b,o+y*g.w*4,none⟩) (g.row y))
  (fun k=>g.w-k) L rfl ⟨by omega,hc2.mono (by simp),?_,hs2⟩ ?_
 ·rw[hb2,hg.row_line hy]
  congr 6
  refine Ep fun i hi=>?_
  rw[if_neg (by omega)]
 ·rintro next k w' hn ⟨i1,i2,i3,i4⟩
  have m1:=i2.keep k1 (by simp;omega)
  have m2:=i2.keep k2 (by simp;omega)
  have m4:=i2.keep k4 (by simp;omega)
  have m5:=i2.keep k5 (by simp;omega)
  simp -dsimp (disch:=first|omega|(simp only[go_sem,seval];try omega))only[go_sem,seval,m5]
  refine BrW.dec (fun h5=>?_) (fun h5=>?_)
  ·have hkw:k<g.w:=by omega
   have hp:=Ic i3 hpre (i:=k) hkw c (fun x=>if x=k then c else if(L:Int)≤(x:Int)∧x<k then(if(L:Int)≤(x:Int)-N∧(x:Int)-N<g.w then g.at ((x:Int)-N).toNat y else c) else g.at x y)
    (by rw[if_pos rfl]) (fun j hj hne=>by rw[if_neg hne])
   have hb6:=Au w' nb (.cells (pre++(AL g.w (fun x=>if x=k then c else if(L:Int)≤(x:Int)∧x<k then(if(L:Int)≤(x:Int)-N∧(x:Int)-N<g.w then g.at ((x:Int)-N).toNat y else c) else g.at x y)).flatMap Cel.cells++post).toArray 167) nb rfl (Aa i3)
   have hc6:=(Chg.refl [nb] w').set nb (.cells (pre++(AL g.w (fun x=>if x=k then c else if(L:Int)≤(x:Int)∧x<k then(if(L:Int)≤(x:Int)-N∧(x:Int)-N<g.w then g.at ((x:Int)-N).toNat y else c) else g.at x y)).flatMap Cel.cells++post).toArray 167) (by simp)
   simp only[List.append_assoc] at hp hb6 hc6
   simp -dsimp (disch:=first|omega|(simp only[go_sem,seval];try omega))only[go_sem,seval,m4,BI,hp]
   generalize Ab w' nb _=w6 at hb6 hc6 ⊢
   have p1:=hc6.keep m1 (by simp;omega)
   have p2:=hc6.keep m2 (by simp;omega)
   have p5:=hc6.keep m5 (by simp;omega)
   have i6:=i2.trans hc6 (by simp)
   have hs6:SxC w6 e (some ⟨b,o+y*g.w*4,none⟩) (g.row y):=i4.chg hc6 (fun b' o' ha hl hm=>by cases ha;simp at hm;omega)
   refine Join1.cut (fun v w'=>v=.bool (decide ((L:Int)≤(k:Int)-N∧(k:Int)-N<g.w))∧w'=w6) ?_ ?_
   ·simp -dsimp (disch:=first|omega|(simp only[go_sem,seval];try omega))only[go_sem,seval,p1,p2,p5]
    refine BrW.dec (fun h=>?_) (fun h=>?_)
    ·simp -dsimp (disch:=first|omega|(simp only[go_sem,seval];try omega))only[go_sem,seval,p1,p5]
     simp [h]
    ·exact⟨by simp [h],rfl⟩
   ·rintro v w7 ⟨rfl,rfl⟩
    refine BrW.dec (fun h=>?_) (fun h=>?_)
    ·obtain⟨q,hq⟩:=Int.eq_ofNat_of_zero_le (show 0≤(k:Int)-N by omega)
     have hqw:q<g.w:=by omega
     obtain⟨b',o',hbo',hb',h6,-⟩:=SxC.cel hs6 (hg.row_get hqw hy)
     cases hbo'
     simp only[←List.append_assoc] at hb6
     have hp2:=Ic hb6 hpre (i:=k) hkw (g.at q y) (fun x=>if(L:Int)≤(x:Int)∧x<k+1 then(if(L:Int)≤(x:Int)-N∧(x:Int)-N<g.w then g.at ((x:Int)-N).toNat y else c) else g.at x y)
      (by rw[if_pos (by omega),if_pos h,hq];rfl) (fun j hj hne=>by
       have:((L:Int)≤(j:Int)∧j<k+1)↔((L:Int)≤(j:Int)∧j<k):=by omega
       simp only[this,if_neg hne])
     simp -dsimp (disch:=first|omega|(simp only[go_sem,seval];try omega))only[go_sem,seval,p1,hq,h6,BI,hp2]
     refine hn (k+1) _ ⟨by omega,i6.set _ _ (by simp),?_,?_⟩ (by omega)
     ·rw[Au _ _ _ _ rfl (Aa hb6)]
      simp
     ·exact hs6.chg ((Chg.refl [nb] _).set _ _ (by simp)) (fun b' o' ha hl hm=>by cases ha;simp at hm;omega)
    ·simp -dsimp (disch:=first|omega|(simp only[go_sem,seval];try omega))only[go_sem,seval]
     refine hn (k+1) _ ⟨by omega,i6,?_,hs6⟩ (by omega)
     rw[hb6]
     simp only[←List.append_assoc]
     congr 6
     refine Ep fun j hj=>?_
     by_cases hne:j=k
     ·subst hne
      rw[if_pos rfl,if_pos (by omega),if_neg h]
     ·have:((L:Int)≤(j:Int)∧j<k+1)↔((L:Int)≤(j:Int)∧j<k):=by omega
      simp only[this,if_neg hne]
  ·refine hK _ _ ⟨i2,?_⟩
   rw[i3]
   congr 6
   refine Ep fun i hi=>?_
   have:((L:Int)≤(i:Int)∧i<k)↔((L:Int)≤(i:Int)):=by omega
   simp only[this]
theorem SX {w:World} {g:Gr} (hg:g.ok) (a:Option Addr) (cap:Nat):Calls Tryz.prog 159 #[g.val a cap] w (Ac fun v w'=>v=.bool true∧Chg [] w w'):=by
 have h0:=hg.w0
 have h1:=hg.h0
 have hd:(g.cs.length:Int).tdiv g.w=g.h:=by
  rw[hg.len]
  have:((g.w*g.h:Nat):Int)=(g.w:Int)*g.h:=by simp
  rw[this,Int.mul_tdiv_cancel_left _ (by omega)]
 have hle:=hg.le
 have hh:=hg.h1
 apply Ws
 intro K hK
 unfold OR
 simp -dsimp (disch:=first|omega|(simp only[go_sem,seval];try omega))only[go_sem,seval,Gr.val]
 refine Join1.cut (fun v w'=>v=.bool true∧Chg [] w w') ?_ ?_
 ·simp -dsimp (disch:=first|omega|(simp only[go_sem,seval];try omega))only[go_sem,seval,hd]
  refine BrW.dec (fun h=>?_) (fun h=>by omega)
  simp -dsimp (disch:=first|omega|(simp only[go_sem,seval];try omega))only[go_sem,seval]
  refine BrW.dec (fun h=>?_) (fun h=>by omega)
  simp -dsimp (disch:=first|omega|(simp only[go_sem,seval];try omega))only[go_sem,seval,hd]
  exact⟨by simp,(AE _ _).drew⟩
 ·rintro v w1 ⟨rfl,hc⟩
  exact hK _ _ ⟨rfl,hc⟩
theorem Mb {w:World} {g G:Gr} (hg:g.ok) (hG:G.ok) {bg:Nat} {e:Option TypeId} {b o cap:Nat}
  (h5:w.heap[bg]?=some (.cells #[.int .i64 g.w,.int .i64 g.h,.slice (some ⟨b,o,none⟩) g.cs.length cap] 59)) (hs:SxC w e (some ⟨b,o,none⟩) g.cs) (hcap:g.cs.length≤cap) (top fin:Int) (hfin:fin≤g.h) :
  Ew w G top fin (.func (.func 207) #[] #[.pointer (some ⟨bg,0,none⟩)])
   (fun y=>AL G.w fun x=>if x<g.w then g.at x y else G.at x y):=by
 intro y w1 nb pre post _ hfy hy hc1 hnb hb hpre
 have hw1:=hg.w1
 have hW1:=hG.w1
 have hw0:=hg.w0
 have hyg:y<g.h:=by omega
 have k5:=hc1.keep h5 (by simp)
 refine Bd.of (us:=[]) (cs:=[_]) Ts ?_
 show Calls _ _ #[.int .i64 y,BI nb 0 G y,.pointer (some ⟨bg,0,none⟩)] _ _
 apply Xh
 intro K hK
 unfold OE
 simp -dsimp (disch:=first|omega|(simp only[go_sem,seval];try omega))only[go_sem,seval,k5]
 refine OpX.call Fk rfl (Calls.ret (EP (w:=w1) hg b o cap hcap y hyg) ?_)
 rintro v w2 ⟨rfl,hc2⟩
 have hb2:=hc2.keep hb (by simp)
 have hs2:SxC w2 e (some ⟨b,o+y*g.w*4,none⟩) (g.row y):=Sx.sub ((hs.chg0 hc1).chg0 hc2) Cel.len (y*g.w) g.w _ (.inr (.inr rfl))
 have hrl:=hg.row_len hyg
 have hRl:=hG.row_len hy
 have hb3:w2.heap[nb]?=some (.cells (pre++((G.row y).take g.w).flatMap Cel.cells++(((G.row y).drop g.w).flatMap Cel.cells++post)).toArray 167):=by
  rw[hb2]
  conv=>lhs;rw[←List.take_append_drop g.w (G.row y)]
  simp only[List.flatMap_append,List.append_assoc]
 have hs3:SxC w2 e (some ⟨b,o+y*g.w*4,none⟩) ((g.row y).take G.w):=by
  have:=hs2.sub Cel.len 0 G.w (some ⟨b,o+y*g.w*4,none⟩) (.inr (.inr (by simp)))
  simpa using this
 refine DQ (new:=((g.row y).take G.w).flatMap Cel.cells) Dq hb3 (by omega) (by rw[AJ Cel.len,AJ Cel.len];simp;omega) (by rw[AJ Cel.len];simp;omega) (CK Cel.ok _) hs3.cell ?_
 refine hK _ _ ⟨(hc2.mono (by simp)).set _ _ (by simp),?_⟩
 rw[Au _ _ _ _ rfl (Aa hb3)]
 have:(AL G.w fun x=>if x<g.w then g.at x y else G.at x y)=(g.row y).take G.w++(G.row y).drop g.w:=by
  refine(GM (by simp;omega) fun i hi=>?_).symm
  by_cases h4:i<g.w
  ·rw[List.getElem?_append_left (by simp;omega),List.getElem?_take_of_lt hi,hg.row_get h4 hyg,if_pos h4]
  ·rw[List.getElem?_append_right (by simp;omega),List.getElem?_drop]
   have:g.w+(i-((g.row y).take G.w).length)=i:=by simp;omega
   rw[this,hG.row_get hi hy,if_neg h4]
 dsimp only
 rw[this]
 simp only[List.flatMap_append,List.append_assoc]
theorem Q6 {w:World} {g:Gr} (hg:g.ok) (hr:g.right=true) {e e':Option TypeId} {a a':Option Addr} (hs:SxC w e a g.cs) (cap:Nat) (hcap:g.cs.length≤cap) {X Y:Int} {l:List Cel} (hl:SxC w e' a' l) (cap':Nat) (hll:l.length≤100000)
  (hX:-1000000≤X∧X≤1000000) (hY:-9223372036854775808≤Y∧Y≤9223372036854775807) :
  Calls Tryz.prog 181 #[g.val a cap,.int .i64 X,.int .i64 Y,.slice a' l.length cap'] w (Ac fun v w'=>GAt w.heap.size w' v (g.put X Y l)∧Chg [] w w'):=by
 have hh1:=hg.h1
 have hw1:=hg.w1
 apply U7
 intro K hK
 unfold KK
 simp -dsimp (disch:=first|omega|(simp only[go_sem,seval];try omega))only[go_sem,seval,Gr.val]
 refine OpX.gen fun w0 hw0=>?_
 have hc0:Chg [] w w0:=by rw[hw0];exact IH _ _ _ _ _
 have hz0:w0.heap.size=w.heap.size+4:=by rw[hw0];simp -dsimp (disch:=first|omega|(simp only[go_sem,seval];try omega))only[go_sem,seval]
 have hg0:w0.heap[w.heap.size]?=some (.cells #[.int .i64 g.w,.int .i64 g.h,.slice a g.cs.length cap] 59):=by rw[hw0];simp -dsimp (disch:=first|omega|(simp only[go_sem,seval];try omega))only[go_sem,seval]
 have hx0:AY w0 (w.heap.size+1) X:=by show w0.heap[_]?=_;rw[hw0];simp -dsimp (disch:=first|omega|(simp only[go_sem,seval];try omega))only[go_sem,seval]
 have hk0:w0.heap[w.heap.size+2]?=some (.cells #[.slice a' l.length cap'] 57):=by rw[hw0];simp -dsimp (disch:=first|omega|(simp only[go_sem,seval];try omega))only[go_sem,seval]
 have ho0:w0.heap[w.heap.size+3]?=some (.cells #[.int .i64 0,.int .i64 0,.slice none 0 0] 59):=by rw[hw0];simp -dsimp (disch:=first|omega|(simp only[go_sem,seval];try omega))only[go_sem,seval]
 clear hw0
 refine OpX.call DH rfl (Calls.ret (DI hg (hs.chg0 hc0) cap hcap) ?_)
 rintro v w1 ⟨rfl,hc1⟩
 rw[hr]
 have hg1:=hc1.keep hg0 (by simp)
 have hx1:w1.heap[w.heap.size+1]?=some _:=hc1.keep hx0 (by simp)
 have hk1:=hc1.keep hk0 (by simp)
 simp -dsimp (disch:=first|omega|(simp only[go_sem,seval];try omega))only[go_sem,seval,hg1]
 refine OpX.call Fi rfl (Calls.ret (Fl _ Y 1 g.h (by omega) (by omega) hY.1 hY.2 (by omega)) ?_)
 rintro v w2 ⟨rfl,rfl⟩
 simp -dsimp (disch:=first|omega|(simp only[go_sem,seval];try omega))only[go_sem,seval,hg1,hx1,hk1]
 refine OpX.call Fi rfl (Calls.ret (Fl _ X l.length g.w (by omega) (by omega) (by omega) (by omega) (by omega)) ?_)
 rintro v w4 ⟨rfl,rfl⟩
 have hlt:=Aa hk1
 simp -dsimp (disch:=first|omega|(simp only[go_sem,seval];try omega))only[go_sem,seval,hg1]
 refine OpX.gen fun w5 hw5=>?_
 have hc5:Chg [] w4 w5:=by rw[hw5];exact Cm _ _ _
 have hl5:AY w5 w4.heap.size (AT X l.length g.w).1:=by show w5.heap[_]?=_;rw[hw5];simp -dsimp (disch:=first|omega|(simp only[go_sem,seval];try omega))only[go_sem,seval]
 have hm5:AY w5 (w4.heap.size+1) (AT X l.length g.w).2:=by show w5.heap[_]?=_;rw[hw5];simp -dsimp (disch:=first|omega|(simp only[go_sem,seval];try omega))only[go_sem,seval]
 have hk5:=hc5.keep hk1 (by simp)
 have hx5:AY w5 (w.heap.size+1) X:=hc5.keep hx1 (by simp)
 have hc05:=(hc0.trans0 hc1).trans0 hc5
 clear hw5
 have hb1:=Ez (x:=X) (n:=l.length) (size:=g.w) (by omega)
 have hb2:=Ez (x:=Y) (n:=1) (size:=g.h) (by omega)
 refine OpX.call DP rfl (Calls.ret (Es hg (hs.chg0 hc05) cap (by omega) (by omega) (SS hg hl5 hm5 hk5 hx5 (hl.chg0 hc05) hb1.1 hb1.2.2 (fun i h1 h2=>(Zo (by omega) (by omega)).1 ⟨h1,h2⟩) hX.1 _ _) (fun y _ _ _=>Bi _ _)) ?_)
 rintro v w6 ⟨hga,hc6⟩
 have hc06:=hc05.trans0 hc6
 have ho6:=((hc1.trans0 hc5).trans0 hc6).keep ho0 (by simp)
 have hlo:=Aa ho6
 have hs5:=hc5.size
 have hs12:=hc1.size
 obtain⟨nb,cap',sp,rfl,k1,k2,k3⟩:=hga
 simp -dsimp (disch:=first|omega|(simp only[go_sem,seval];try omega))only[go_sem,seval,Gr.val,ho6]
 refine hK _ _ ⟨⟨nb,cap',sp,rfl,k1,by omega,?_⟩,hc06.set _ _ (.inr (by omega))⟩
 rw[AZ _ _ _ _ (by omega)];exact k3
theorem U4 {w:World} {g:Gr} (hg:g.ok) (hr:g.right=true) {e:Option TypeId} {a:Option Addr} (hs:SxC w e a g.cs) (cap:Nat) (hcap:g.cs.length≤cap) {T E N:Int} {c:Cel} (hu:c.usual=true) :
  Calls Tryz.prog 225 #[g.val a cap,.int .i64 T,.int .i64 E,.int .i64 N,c.val] w (Ac fun v w'=>GAt w.heap.size w' v (g.scroll T E N c)∧Chg [] w w'):=by
 have hh1:=hg.h1
 have hw1:=hg.w1
 obtain⟨b,o,_,_,_,_,_,rfl,hb0,_⟩:=hs.at_ hg.ne
 have hb0':=Aa hb0
 clear hb0
 apply Ze
 intro K hK
 unfold Ni
 simp -dsimp (disch:=first|omega|(simp only[go_sem,seval];try omega))only[go_sem,seval,Gr.val]
 refine Join1.inl ?_
 simp -dsimp (disch:=first|omega|(simp only[go_sem,seval];try omega))only[go_sem,seval]
 refine OpX.gen fun w0 hw0=>?_
 have hc0:Chg [] w w0:=by rw[hw0];exact TV _ _ _ _ _ _ _
 have hz0:w0.heap.size=w.heap.size+6:=by rw[hw0];simp -dsimp (disch:=first|omega|(simp only[go_sem,seval];try omega))only[go_sem,seval]
 have hg0:w0.heap[w.heap.size]?=some (.cells #[.int .i64 g.w,.int .i64 g.h,.slice (some ⟨b,o,none⟩) g.cs.length cap] 59):=by rw[hw0];simp -dsimp (disch:=first|omega|(simp only[go_sem,seval];try omega))only[go_sem,seval]
 have ht0:AY w0 (w.heap.size+1) T:=by show w0.heap[_]?=_;rw[hw0];simp -dsimp (disch:=first|omega|(simp only[go_sem,seval];try omega))only[go_sem,seval]
 have he0:AY w0 (w.heap.size+2) E:=by show w0.heap[_]?=_;rw[hw0];simp -dsimp (disch:=first|omega|(simp only[go_sem,seval];try omega))only[go_sem,seval]
 have hn0:AY w0 (w.heap.size+3) N:=by show w0.heap[_]?=_;rw[hw0];simp -dsimp (disch:=first|omega|(simp only[go_sem,seval];try omega))only[go_sem,seval]
 have hk0:CH w0 (w.heap.size+4) c:=by show w0.heap[_]?=_;rw[hw0];simp -dsimp (disch:=first|omega|(simp only[go_sem,seval];try omega))only[go_sem,seval]
 have ho0:w0.heap[w.heap.size+5]?=some (.cells #[.int .i64 0,.int .i64 0,.slice none 0 0] 59):=by rw[hw0];simp -dsimp (disch:=first|omega|(simp only[go_sem,seval];try omega))only[go_sem,seval]
 clear hw0
 refine OpX.call DH rfl (Calls.ret (DI hg (hs.chg0 hc0) cap hcap) ?_)
 rintro v w1 ⟨rfl,hc1⟩
 rw[hr]
 have hk1:=hc1.keep hk0 (by simp)
 simp -dsimp (disch:=first|omega|(simp only[go_sem,seval];try omega))only[go_sem,seval,hk1]
 refine OpX.call Ge rfl (Calls.ret (FU _ c) ?_)
 rintro v w2 ⟨rfl,hc2⟩
 rw[hu]
 have hc12:=hc1.trans0 hc2
 have hg2:=hc12.keep hg0 (by simp)
 have ht2:w2.heap[w.heap.size+1]?=some _:=hc12.keep ht0 (by simp)
 have he2:w2.heap[w.heap.size+2]?=some _:=hc12.keep he0 (by simp)
 have hn2:w2.heap[w.heap.size+3]?=some _:=hc12.keep hn0 (by simp)
 have hlt:=Aa hn2
 have hsz:=hc12.size
 simp -dsimp (disch:=first|omega|(simp only[go_sem,seval];try omega))only[go_sem,seval,hg2,ht2,he2,hn2]
 have hlk:=Aa (hc12.keep hk0 (by simp))
 have hgk:=Aa hg2
 have hk2:=hc12.keep hk0 (by simp)
 have ho2:=hc12.keep ho0 (by simp)
 have hc02:=hc0.trans0 hc12
 refine OpX.gen fun w5 hw5=>?_
 have hc5:Chg [] w w5:=by rw[hw5];exact(((hc02.set _ _ (.inr (by omega))).set _ _ (.inr (by omega))).set _ _ (.inr (by omega))).drew
 have hg5:w5.heap[w.heap.size]?=some (.cells #[.int .i64 g.w,.int .i64 g.h,.slice (some ⟨b,o,none⟩) g.cs.length cap] 59):=by rw[hw5];simp -dsimp (disch:=first|omega|(simp only[go_sem,seval];try omega))only[go_sem,seval,hg2]
 have ht5:AY w5 (w.heap.size+1) (min (max T 0) g.h):=by show w5.heap[_]?=_;rw[hw5];simp -dsimp (disch:=first|omega|(simp only[go_sem,seval];try omega))only[go_sem,seval]
 have he5:AY w5 (w.heap.size+1+1) (min (max E 0) g.h):=by show w5.heap[_]?=_;rw[hw5];simp -dsimp (disch:=first|omega|(simp only[go_sem,seval];try omega))only[go_sem,seval]
 have hn5:AY w5 (w.heap.size+1+1+1) (min (max N (-g.h)) g.h):=by show w5.heap[_]?=_;rw[hw5];simp -dsimp (disch:=first|omega|(simp only[go_sem,seval];try omega))only[go_sem,seval]
 have hk5:CH w5 (w.heap.size+1+1+1+1) c:=by show w5.heap[_]?=_;rw[hw5];simp -dsimp (disch:=first|omega|(simp only[go_sem,seval];try omega))only[go_sem,seval,hk2]
 have ho5:w5.heap[w.heap.size+5]?=some (.cells #[.int .i64 0,.int .i64 0,.slice none 0 0] 59):=by rw[hw5];simp -dsimp (disch:=first|omega|(simp only[go_sem,seval];try omega))only[go_sem,seval,ho2]
 clear hw5
 have hfl:=hg.scrollF_len (N:=min (max N (-g.h)) g.h) (c:=c) (show 0≤min (max T 0) g.h by omega) (show min (max E 0) g.h≤g.h by omega)
 refine OpX.call DP rfl (Calls.ret (Es hg (hs.chg0 hc5) cap (by omega) (by omega) (WR hg hn5 ht5 he5 hk5 hg5 (hs.chg0 hc5) hcap (by omega) (by omega) (by omega) _ _) (fun y h1 h2 h3=>hfl y)) ?_)
 rintro v w6 ⟨hga,hc6⟩
 have hc06:=hc5.trans0 hc6
 have ho6:=hc6.keep ho5 (by simp)
 have hs5:=Aa ho5
 have hs6:=hc6.size
 have hlo:=Aa ho6
 obtain⟨nb,cap',sp,rfl,k1,k2,k3⟩:=hga
 simp -dsimp (disch:=first|omega|(simp only[go_sem,seval];try omega))only[go_sem,seval,Gr.val,ho6]
 refine hK _ _ ⟨⟨nb,cap',sp,rfl,k1,by omega,?_⟩,hc06.set _ _ (.inr (by omega))⟩
 rw[AZ _ _ _ _ (by omega)];exact k3
theorem P9 {w:World} {g:Gr} (hg:g.ok) (hr:g.right=true) {e:Option TypeId} {a:Option Addr} (hs:SxC w e a g.cs) (cap:Nat) (hcap:g.cs.length≤cap) {X Y N:Int} {c:Cel} (hu:c.usual=true)
  (hX:X≤9223372036854775807) (hY:-9223372036854775808≤Y∧Y≤9223372036854775807) :
  Calls Tryz.prog 218 #[g.val a cap,.int .i64 X,.int .i64 Y,.int .i64 N,c.val] w (Ac fun v w'=>GAt w.heap.size w' v (g.shift X Y N c)∧Chg [] w w'):=by
 have hh1:=hg.h1
 have hw1:=hg.w1
 obtain⟨b,o,_,_,_,_,_,rfl,hb0,_⟩:=hs.at_ hg.ne
 have hb0':=Aa hb0
 clear hb0
 apply QW
 intro K hK
 unfold Jb
 simp -dsimp (disch:=first|omega|(simp only[go_sem,seval];try omega))only[go_sem,seval,Gr.val]
 refine Join1.inl ?_
 simp -dsimp (disch:=first|omega|(simp only[go_sem,seval];try omega))only[go_sem,seval]
 refine OpX.gen fun w0 hw0=>?_
 have hc0:Chg [] w w0:=by rw[hw0];exact NW _ _ _ _ _ _
 have hz0:w0.heap.size=w.heap.size+5:=by rw[hw0];simp -dsimp (disch:=first|omega|(simp only[go_sem,seval];try omega))only[go_sem,seval]
 have hg0:w0.heap[w.heap.size]?=some (.cells #[.int .i64 g.w,.int .i64 g.h,.slice (some ⟨b,o,none⟩) g.cs.length cap] 59):=by rw[hw0];simp -dsimp (disch:=first|omega|(simp only[go_sem,seval];try omega))only[go_sem,seval]
 have hx0:AY w0 (w.heap.size+1) X:=by show w0.heap[_]?=_;rw[hw0];simp -dsimp (disch:=first|omega|(simp only[go_sem,seval];try omega))only[go_sem,seval]
 have hn0:AY w0 (w.heap.size+2) N:=by show w0.heap[_]?=_;rw[hw0];simp -dsimp (disch:=first|omega|(simp only[go_sem,seval];try omega))only[go_sem,seval]
 have hk0:CH w0 (w.heap.size+3) c:=by show w0.heap[_]?=_;rw[hw0];simp -dsimp (disch:=first|omega|(simp only[go_sem,seval];try omega))only[go_sem,seval]
 have ho0:w0.heap[w.heap.size+4]?=some (.cells #[.int .i64 0,.int .i64 0,.slice none 0 0] 59):=by rw[hw0];simp -dsimp (disch:=first|omega|(simp only[go_sem,seval];try omega))only[go_sem,seval]
 clear hw0
 refine OpX.call DH rfl (Calls.ret (DI hg (hs.chg0 hc0) cap hcap) ?_)
 rintro v w1 ⟨rfl,hc1⟩
 rw[hr]
 have hk1:=hc1.keep hk0 (by simp)
 simp -dsimp (disch:=first|omega|(simp only[go_sem,seval];try omega))only[go_sem,seval,hk1]
 refine OpX.call Ge rfl (Calls.ret (FU _ c) ?_)
 rintro v w2 ⟨rfl,hc2⟩
 rw[hu]
 have hc12:=hc1.trans0 hc2
 have hg2:=hc12.keep hg0 (by simp)
 have hx2:w2.heap[w.heap.size+1]?=some _:=hc12.keep hx0 (by simp)
 have hn2:w2.heap[w.heap.size+2]?=some _:=hc12.keep hn0 (by simp)
 have hk2:=hc12.keep hk0 (by simp)
 have ho2:=hc12.keep ho0 (by simp)
 have hlt:=Aa ho2
 have hsz:=hc12.size
 have hc02:=hc0.trans0 hc12
 simp -dsimp (disch:=first|omega|(simp only[go_sem,seval];try omega))only[go_sem,seval,hg2,hx2,hn2]
 refine OpX.gen fun w5 hw5=>?_
 have hc5:Chg [] w w5:=by rw[hw5];exact(((hc02.set _ _ (.inr (by omega))).set _ _ (.inr (by omega)))).drew
 have hg5:w5.heap[w.heap.size]?=some (.cells #[.int .i64 g.w,.int .i64 g.h,.slice (some ⟨b,o,none⟩) g.cs.length cap] 59):=by rw[hw5];simp -dsimp (disch:=first|omega|(simp only[go_sem,seval];try omega))only[go_sem,seval,hg2]
 have hx5:AY w5 (w.heap.size+1) (max X 0):=by show w5.heap[_]?=_;rw[hw5];simp -dsimp (disch:=first|omega|(simp only[go_sem,seval];try omega))only[go_sem,seval]
 have hn5:AY w5 (w.heap.size+1+1) (min (max N (-g.w)) g.w):=by show w5.heap[_]?=_;rw[hw5];simp -dsimp (disch:=first|omega|(simp only[go_sem,seval];try omega))only[go_sem,seval]
 have hk5:CH w5 (w.heap.size+1+1+1) c:=by show w5.heap[_]?=_;rw[hw5];simp -dsimp (disch:=first|omega|(simp only[go_sem,seval];try omega))only[go_sem,seval,hk2]
 have ho5:w5.heap[w.heap.size+4]?=some (.cells #[.int .i64 0,.int .i64 0,.slice none 0 0] 59):=by rw[hw5];simp -dsimp (disch:=first|omega|(simp only[go_sem,seval];try omega))only[go_sem,seval,ho2]
 clear hw5
 refine OpX.call Fi rfl (Calls.ret (Fl _ Y 1 g.h (by omega) (by omega) hY.1 hY.2 (by omega)) ?_)
 rintro v w7 ⟨rfl,rfl⟩
 have hb2:=Ez (x:=Y) (n:=1) (size:=g.h) (by omega)
 simp -dsimp (disch:=first|omega|(simp only[go_sem,seval];try omega))only[go_sem,seval,hg5]
 refine OpX.call DP rfl (Calls.ret (Es hg (hs.chg0 hc5) cap (by omega) (by omega) (Yu hg hn5 hx5 hk5 hg5 (hs.chg0 hc5) hcap (by omega) (by omega) _ _) (fun y h1 h2 h3=>Bi _ _)) ?_)
 rintro v w6 ⟨hga,hc6⟩
 have hc06:=hc5.trans0 hc6
 have ho6:=hc6.keep ho5 (by simp)
 have hs5:=Aa ho5
 have hs6:=hc6.size
 have hlo:=Aa ho6
 obtain⟨nb,cap',sp,rfl,k1,k2,k3⟩:=hga
 simp -dsimp (disch:=first|omega|(simp only[go_sem,seval];try omega))only[go_sem,seval,Gr.val,ho6]
 refine hK _ _ ⟨⟨nb,cap',sp,rfl,k1,by omega,?_⟩,hc06.set _ _ (.inr (by omega))⟩
 rw[AZ _ _ _ _ (by omega)];exact k3
theorem IS {w:World} {g:Gr} (hg:g.ok) (hr:g.right=true) {e:Option TypeId} {a:Option Addr} (hs:SxC w e a g.cs) (cap:Nat) (hcap:g.cs.length≤cap) {x y:Nat} {c:Cel} (hu:c.usual=true) (x0:0<x) (x1:x≤200) (y0:0<y) (y1:y≤60) :
  Calls Tryz.prog 168 #[g.val a cap,.int .i64 x,.int .i64 y,c.val] w (Ac fun v w'=>GAt w.heap.size w' v (g.resize x y c)∧Chg [] w w'):=by
 have hh1:=hg.h1
 have hw1:=hg.w1
 obtain⟨b,o,_,_,_,_,_,rfl,hb0,_⟩:=hs.at_ hg.ne
 have hb0':=Aa hb0
 clear hb0
 have hft:Ce x y=true:=by unfold Ce;apply decide_eq_true;omega
 apply RB
 intro K hK
 unfold I1
 simp -dsimp (disch:=first|omega|(simp only[go_sem,seval];try omega))only[go_sem,seval,Gr.val]
 refine Join1.inl ?_
 simp -dsimp (disch:=first|omega|(simp only[go_sem,seval];try omega))only[go_sem,seval]
 refine OpX.gen fun w0 hw0=>?_
 have hc0:Chg [] w w0:=by rw[hw0];exact EZ _ _ _ _
 have hz0:w0.heap.size=w.heap.size+3:=by rw[hw0];simp -dsimp (disch:=first|omega|(simp only[go_sem,seval];try omega))only[go_sem,seval]
 have hg0:w0.heap[w.heap.size]?=some (.cells #[.int .i64 g.w,.int .i64 g.h,.slice (some ⟨b,o,none⟩) g.cs.length cap] 59):=by rw[hw0];simp -dsimp (disch:=first|omega|(simp only[go_sem,seval];try omega))only[go_sem,seval]
 have hk0:CH w0 (w.heap.size+1) c:=by show w0.heap[_]?=_;rw[hw0];simp -dsimp (disch:=first|omega|(simp only[go_sem,seval];try omega))only[go_sem,seval]
 have ho0:w0.heap[w.heap.size+2]?=some (.cells #[.int .i64 0,.int .i64 0,.slice none 0 0] 59):=by rw[hw0];simp -dsimp (disch:=first|omega|(simp only[go_sem,seval];try omega))only[go_sem,seval]
 clear hw0
 refine OpX.call DH rfl (Calls.ret (DI hg (hs.chg0 hc0) cap hcap) ?_)
 rintro v w1 ⟨rfl,hc1⟩
 rw[hr]
 have hk1:=hc1.keep hk0 (by simp)
 simp -dsimp (disch:=first|omega|(simp only[go_sem,seval];try omega))only[go_sem,seval,hk1]
 refine OpX.call Ge rfl (Calls.ret (FU _ c) ?_)
 rintro v w2 ⟨rfl,hc2⟩
 rw[hu]
 simp -dsimp (disch:=first|omega|(simp only[go_sem,seval];try omega))only[go_sem,seval]
 refine OpX.call IE rfl (Calls.ret (G0 _ x y) ?_)
 rintro v w3 ⟨rfl,rfl⟩
 have hc12:=hc1.trans0 hc2
 have hg2:=hc12.keep hg0 (by simp)
 have hk2:=hc12.keep hk0 (by simp)
 have ho2:=hc12.keep ho0 (by simp)
 have hlt:=Aa ho2
 have hsz:=hc12.size
 have hc02:=hc0.trans0 hc12
 simp -dsimp (disch:=first|omega|(simp only[go_sem,seval];try omega))only[go_sem,seval,hft]
 refine Join0.cut (fun w'=>Chg [] w w'∧∃cs,GAt (w.heap.size+3) w' (.agg cs) (g.resize x y c)∧w'.heap[w.heap.size+2]?=some (.cells cs 59)) ?_ ?_
 ·have hP:=Gr.plain_ok x0 x1 y0 y1 c
  simp -dsimp (disch:=first|omega|(simp only[go_sem,seval];try omega))only[go_sem,seval,hg2,hk2]
  refine⟨?_,?_⟩
  ·refine OpX.call Il rfl (Calls.ret (GU _ x y c x0 x1 y0 y1) ?_)
   rintro v w5 ⟨hga,hc5⟩
   obtain⟨nb,cap5,rfl,hcap5,hnb5,hnl5,hs5⟩:=hga.sx
   have hg5:=hc5.keep hg2 (by simp)
   have ho5:=hc5.keep ho2 (by simp)
   have hc05:=hc02.drew.trans0 hc5
   have hsz5:w3.heap.size≤w5.heap.size:=hc5.size
   have hz5:=Aa ho5
   simp -dsimp (disch:=first|omega|(simp only[go_sem,seval];try omega))only[go_sem,seval,hg5]
   refine OpX.call DP rfl (Calls.ret (Es hP hs5 cap5 (by omega) (by omega) (Mb hg hP hg5 (hs.chg0 hc05) hcap _ _ (by omega)) (fun y _ _ _=>Bi _ _)) ?_)
   rintro v w6 ⟨⟨nb6,cap6,sp,rfl,k1,k2,k3⟩,hc6⟩
   have ho6:=hc6.keep ho5 (by simp)
   have hlo6:=Aa ho6
   simp -dsimp (disch:=first|omega|(simp only[go_sem,seval];try omega))only[go_sem,seval,Gr.val,ho6]
   refine⟨(hc05.trans0 hc6).set _ _ (.inr (by omega)),_,⟨nb6,cap6,sp,rfl,k1,by omega,?_⟩,rfl⟩
   rw[AZ _ _ _ _ (by omega)];exact k3
  ·refine OpX.call Il rfl (Calls.ret (GU _ x y c x0 x1 y0 y1) ?_)
   rintro v w5 ⟨hga,hc5⟩
   obtain⟨nb,cap5,rfl,hcap5,hnb5,hnl5,hs5⟩:=hga.sx
   have hg5:=hc5.keep hg2 (by simp)
   have ho5:=hc5.keep ho2 (by simp)
   have hc05:=hc02.drew.trans0 hc5
   have hsz5:w3.heap.size≤w5.heap.size:=hc5.size
   have hz5:=Aa ho5
   simp -dsimp (disch:=first|omega|(simp only[go_sem,seval];try omega))only[go_sem,seval,hg5]
   refine OpX.call DP rfl (Calls.ret (Es hP hs5 cap5 (by omega) (by omega) (Mb hg hP hg5 (hs.chg0 hc05) hcap _ _ (by omega)) (fun y _ _ _=>Bi _ _)) ?_)
   rintro v w6 ⟨⟨nb6,cap6,sp,rfl,k1,k2,k3⟩,hc6⟩
   have ho6:=hc6.keep ho5 (by simp)
   have hlo6:=Aa ho6
   simp -dsimp (disch:=first|omega|(simp only[go_sem,seval];try omega))only[go_sem,seval,Gr.val,ho6]
   refine⟨(hc05.trans0 hc6).set _ _ (.inr (by omega)),_,⟨nb6,cap6,sp,rfl,k1,by omega,?_⟩,rfl⟩
   rw[AZ _ _ _ _ (by omega)];exact k3
 ·rintro w4 ⟨hc4,cs,⟨nb,cap4,sp,hcs,k1,k2,k3⟩,hr4⟩
  have hlo4:=Aa hr4
  obtain rfl:cs=_:=Value.agg.inj hcs
  simp -dsimp (disch:=first|omega|(simp only[go_sem,seval];try omega))only[go_sem,seval,hr4]
  exact hK _ _ ⟨⟨nb,cap4,sp,rfl,k1,by omega,k3⟩,hc4⟩
def BZ (b:Bool):Int:=bif b then 1 else 0
@[go_sem] theorem ai:BZ true=1:=rfl
@[go_sem] theorem bS:BZ false=0:=rfl
theorem GB (b:Bool):0≤BZ b∧BZ b<2:=by cases b<;>decide
structure Scm where
 S:Scr
 b0:Nat
 c0:Nat
 p0:List Value
 b1:Nat
 c1:Nat
 p1:List Value
 gv:Value
 rows:List Rw
def Scm.end (M:Scm):List Value:=M.S.tabs.map Value.bool++[.bool M.S.wraps,.bool M.S.waits,.bool M.S.shown,M.gv]
def Scm.cells (M:Scm):List Value :=
 (.int .i64 M.S.w:Value)::(.int .i64 M.S.h:Value)::(.int .i64 M.S.g0.w:Value)::(.int .i64 M.S.g0.h:Value)::(.slice (some ⟨M.b0,0,none⟩) M.S.g0.cs.length M.c0:Value)::(.int .i64 M.S.g1.w:Value)::(.int .i64 M.S.g1.h:Value)::(.slice (some ⟨M.b1,0,none⟩) M.S.g1.cs.length M.c1:Value)::(.int .i64 M.S.s0.x:Value)::(.int .i64 M.S.s0.y:Value)::(.int .i32 M.S.s0.pen.r:Value)::(.int .u8 M.S.s0.pen.fg.toNat:Value)::(.int .u8 M.S.s0.pen.bg.toNat:Value)::(.int .u8 M.S.s0.pen.a.toNat:Value)::(.int .i64 M.S.s1.x:Value)::(.int .i64 M.S.s1.y:Value)::(.int .i32 M.S.s1.pen.r:Value)::(.int .u8 M.S.s1.pen.fg.toNat:Value)::(.int .u8 M.S.s1.pen.bg.toNat:Value)::(.int .u8 M.S.s1.pen.a.toNat:Value)::(.int .i64 (BZ M.S.alt):Value)::(.int .i64 M.S.now.x:Value)::(.int .i64 M.S.now.y:Value)::(.int .i32 M.S.now.pen.r:Value)::(.int .u8 M.S.now.pen.fg.toNat:Value)::(.int .u8 M.S.now.pen.bg.toNat:Value)::(.int .u8 M.S.now.pen.a.toNat:Value)::(.int .i64 M.S.top:Value)::(.int .i64 M.S.fin:Value)::M.end
def Scm.obj (M:Scm):Obj:=.cells M.cells.toArray 236
theorem Scm.end_len (M:Scm) (h:M.S.tabs.length=200):M.end.length=204:=by simp [Scm.end,h]
theorem Scm.cells_len (M:Scm) (h:M.S.tabs.length=200):M.cells.length=233:=by simp [Scm.cells,M.end_len h]
@[go_sem] theorem Scm.r0 (M:Scm):Av (some M.obj) 0=some (.int .i64 M.S.w):=rfl
@[go_sem] theorem Scm.r1 (M:Scm):Av (some M.obj) 1=some (.int .i64 M.S.h):=rfl
@[go_sem] theorem Scm.r4 (M:Scm):Av (some M.obj) 4=some (.slice (some ⟨M.b0,0,none⟩) M.S.g0.cs.length M.c0):=rfl
@[go_sem] theorem Scm.r7 (M:Scm):Av (some M.obj) 7=some (.slice (some ⟨M.b1,0,none⟩) M.S.g1.cs.length M.c1):=rfl
@[go_sem] theorem Scm.r8 (M:Scm):Av (some M.obj) 8=some (.int .i64 M.S.s0.x):=rfl
@[go_sem] theorem Scm.r9 (M:Scm):Av (some M.obj) 9=some (.int .i64 M.S.s0.y):=rfl
@[go_sem] theorem Scm.r14 (M:Scm):Av (some M.obj) 14=some (.int .i64 M.S.s1.x):=rfl
@[go_sem] theorem Scm.r15 (M:Scm):Av (some M.obj) 15=some (.int .i64 M.S.s1.y):=rfl
@[go_sem] theorem Scm.r20 (M:Scm):Av (some M.obj) 20=some (.int .i64 (BZ M.S.alt)):=rfl
@[go_sem] theorem Scm.r21 (M:Scm):Av (some M.obj) 21=some (.int .i64 M.S.now.x):=rfl
@[go_sem] theorem Scm.r22 (M:Scm):Av (some M.obj) 22=some (.int .i64 M.S.now.y):=rfl
@[go_sem] theorem Scm.r25 (M:Scm):Av (some M.obj) 25=some (.int .u8 M.S.now.pen.bg.toNat):=rfl
@[go_sem] theorem Scm.r27 (M:Scm):Av (some M.obj) 27=some (.int .i64 M.S.top):=rfl
@[go_sem] theorem Scm.r28 (M:Scm):Av (some M.obj) 28=some (.int .i64 M.S.fin):=rfl
theorem Scm.rTail (M:Scm) (i:Nat):Av (some M.obj) (29+i)=M.end[i]?:=by
 show M.cells.toArray[29+i]?=_
 rw[List.getElem?_toArray,Nat.add_comm]
 rfl
@[go_sem] theorem Scm.r229 (M:Scm) (h:M.S.tabs.length=200):Av (some M.obj) 229=some (.bool M.S.wraps):=by
 rw[show 229=29+200 from rfl,M.rTail,Scm.end,List.getElem?_append_right (by simp [h])];simp [h]
@[go_sem] theorem Scm.r230 (M:Scm) (h:M.S.tabs.length=200):Av (some M.obj) 230=some (.bool M.S.waits):=by
 rw[show 230=29+201 from rfl,M.rTail,Scm.end,List.getElem?_append_right (by simp [h])];simp [h]
@[go_sem] theorem Scm.r231 (M:Scm) (h:M.S.tabs.length=200):Av (some M.obj) 231=some (.bool M.S.shown):=by
 rw[show 231=29+202 from rfl,M.rTail,Scm.end,List.getElem?_append_right (by simp [h])];simp [h]
@[go_sem] theorem Scm.r232 (M:Scm) (h:M.S.tabs.length=200):Av (some M.obj) 232=some (M.gv):=by
 rw[show 232=29+203 from rfl,M.rTail,Scm.end,List.getElem?_append_right (by simp [h])];simp [h]
@[go_sem] theorem Scm.rTab (M:Scm) (i:Nat) (h:M.S.tabs.length=200) (hi:i<200):Av (some M.obj) (29+i)=some (.bool (M.S.tabs.getD i false)):=by
 rw[M.rTail,Scm.end,List.getElem?_append_left (by simp;omega),List.getElem?_map,List.getD_eq_getElem?_getD,List.getElem?_eq_getElem (by omega)]
 rfl
@[go_sem] theorem Scm.a2 (M:Scm):AU (some M.obj) 2 3=some #[.int .i64 M.S.g0.w,.int .i64 M.S.g0.h,.slice (some ⟨M.b0,0,none⟩) M.S.g0.cs.length M.c0]:=by
 refine Dx (l:=[.int .i64 M.S.g0.w,.int .i64 M.S.g0.h,.slice (some ⟨M.b0,0,none⟩) M.S.g0.cs.length M.c0]) rfl (by omega) fun j hj=>?_
 match j,hj with
 | 0,_=>rfl
 | 1,_=>rfl
 | 2,_=>rfl
@[go_sem] theorem Scm.a5 (M:Scm):AU (some M.obj) 5 3=some #[.int .i64 M.S.g1.w,.int .i64 M.S.g1.h,.slice (some ⟨M.b1,0,none⟩) M.S.g1.cs.length M.c1]:=by
 refine Dx (l:=[.int .i64 M.S.g1.w,.int .i64 M.S.g1.h,.slice (some ⟨M.b1,0,none⟩) M.S.g1.cs.length M.c1]) rfl (by omega) fun j hj=>?_
 match j,hj with
 | 0,_=>rfl
 | 1,_=>rfl
 | 2,_=>rfl
@[go_sem] theorem Scm.a8 (M:Scm):AU (some M.obj) 8 6=some #[.int .i64 M.S.s0.x,.int .i64 M.S.s0.y,.int .i32 M.S.s0.pen.r,.int .u8 M.S.s0.pen.fg.toNat,.int .u8 M.S.s0.pen.bg.toNat,.int .u8 M.S.s0.pen.a.toNat]:=by
 refine Dx (l:=[.int .i64 M.S.s0.x,.int .i64 M.S.s0.y,.int .i32 M.S.s0.pen.r,.int .u8 M.S.s0.pen.fg.toNat,.int .u8 M.S.s0.pen.bg.toNat,.int .u8 M.S.s0.pen.a.toNat]) rfl (by omega) fun j hj=>?_
 match j,hj with
 | 0,_=>rfl
 | 1,_=>rfl
 | 2,_=>rfl
 | 3,_=>rfl
 | 4,_=>rfl
 | 5,_=>rfl
@[go_sem] theorem Scm.a14 (M:Scm):AU (some M.obj) 14 6=some #[.int .i64 M.S.s1.x,.int .i64 M.S.s1.y,.int .i32 M.S.s1.pen.r,.int .u8 M.S.s1.pen.fg.toNat,.int .u8 M.S.s1.pen.bg.toNat,.int .u8 M.S.s1.pen.a.toNat]:=by
 refine Dx (l:=[.int .i64 M.S.s1.x,.int .i64 M.S.s1.y,.int .i32 M.S.s1.pen.r,.int .u8 M.S.s1.pen.fg.toNat,.int .u8 M.S.s1.pen.bg.toNat,.int .u8 M.S.s1.pen.a.toNat]) rfl (by omega) fun j hj=>?_
 match j,hj with
 | 0,_=>rfl
 | 1,_=>rfl
 | 2,_=>rfl
 | 3,_=>rfl
 | 4,_=>rfl
 | 5,_=>rfl
@[go_sem] theorem Scm.a21 (M:Scm):AU (some M.obj) 21 6=some #[.int .i64 M.S.now.x,.int .i64 M.S.now.y,.int .i32 M.S.now.pen.r,.int .u8 M.S.now.pen.fg.toNat,.int .u8 M.S.now.pen.bg.toNat,.int .u8 M.S.now.pen.a.toNat]:=by
 refine Dx (l:=[.int .i64 M.S.now.x,.int .i64 M.S.now.y,.int .i32 M.S.now.pen.r,.int .u8 M.S.now.pen.fg.toNat,.int .u8 M.S.now.pen.bg.toNat,.int .u8 M.S.now.pen.a.toNat]) rfl (by omega) fun j hj=>?_
 match j,hj with
 | 0,_=>rfl
 | 1,_=>rfl
 | 2,_=>rfl
 | 3,_=>rfl
 | 4,_=>rfl
 | 5,_=>rfl
@[go_sem] theorem Scm.a23 (M:Scm):AU (some M.obj) 23 4=some #[.int .i32 M.S.now.pen.r,.int .u8 M.S.now.pen.fg.toNat,.int .u8 M.S.now.pen.bg.toNat,.int .u8 M.S.now.pen.a.toNat]:=by
 refine Dx (l:=[.int .i32 M.S.now.pen.r,.int .u8 M.S.now.pen.fg.toNat,.int .u8 M.S.now.pen.bg.toNat,.int .u8 M.S.now.pen.a.toNat]) rfl (by omega) fun j hj=>?_
 match j,hj with
 | 0,_=>rfl
 | 1,_=>rfl
 | 2,_=>rfl
 | 3,_=>rfl
theorem Scm.put (M M':Scm) (o:Nat) (vs:List Value) (h:M.S.tabs.length=200) (ho:o+vs.length≤233) (he:M.cells.take o++vs++M.cells.drop (o+vs.length)=M'.cells):Az (some M.obj) o vs=some M'.obj:=by
 unfold Scm.obj
 rw[CW,if_pos (by simp [M.cells_len h];omega)]
 rw[E3,he]
@[go_sem] theorem Scm.wX (M:Scm) (x:Nat) (h:M.S.tabs.length=200):Az (some M.obj) 21 [.int .i64 (x:Int)]=some ({ M with S:={ M.S with now:={ M.S.now with x:=x } } }:Scm).obj:=M.put _ 21 _ h (by simp) rfl
@[go_sem] theorem Scm.wX0 (M:Scm) (h:M.S.tabs.length=200):Az (some M.obj) 21 [.int .i64 0]=some ({ M with S:={ M.S with now:={ M.S.now with x:=0 } } }:Scm).obj:=M.put _ 21 _ h (by simp) rfl
@[go_sem] theorem Scm.wY (M:Scm) (y:Nat) (h:M.S.tabs.length=200):Az (some M.obj) 22 [.int .i64 (y:Int)]=some ({ M with S:={ M.S with now:={ M.S.now with y:=y } } }:Scm).obj:=M.put _ 22 _ h (by simp) rfl
@[go_sem] theorem Scm.wNow (M:Scm) (x y:Nat) (r:Int) (f b a:BitVec 8) (h:M.S.tabs.length=200):Az (some M.obj) 21 [.int .i64 (x:Int),.int .i64 (y:Int),.int .i32 r,.int .u8 (f.toNat:Int),.int .u8 (b.toNat:Int),.int .u8 (a.toNat:Int)]=some ({ M with S:={ M.S with now:=⟨x,y,⟨r,f,b,a⟩⟩ } }:Scm).obj:=M.put _ 21 _ h (by simp) rfl
@[go_sem] theorem Scm.wS0 (M:Scm) (x y:Nat) (r:Int) (f b a:BitVec 8) (h:M.S.tabs.length=200):Az (some M.obj) 8 [.int .i64 (x:Int),.int .i64 (y:Int),.int .i32 r,.int .u8 (f.toNat:Int),.int .u8 (b.toNat:Int),.int .u8 (a.toNat:Int)]=some ({ M with S:={ M.S with s0:=⟨x,y,⟨r,f,b,a⟩⟩ } }:Scm).obj:=M.put _ 8 _ h (by simp) rfl
@[go_sem] theorem Scm.wS1 (M:Scm) (x y:Nat) (r:Int) (f b a:BitVec 8) (h:M.S.tabs.length=200):Az (some M.obj) 14 [.int .i64 (x:Int),.int .i64 (y:Int),.int .i32 r,.int .u8 (f.toNat:Int),.int .u8 (b.toNat:Int),.int .u8 (a.toNat:Int)]=some ({ M with S:={ M.S with s1:=⟨x,y,⟨r,f,b,a⟩⟩ } }:Scm).obj:=M.put _ 14 _ h (by simp) rfl
@[go_sem] theorem Scm.wPen (M:Scm) (r:Int) (f b a:BitVec 8) (h:M.S.tabs.length=200):Az (some M.obj) 23 [.int .i32 r,.int .u8 (f.toNat:Int),.int .u8 (b.toNat:Int),.int .u8 (a.toNat:Int)]=some ({ M with S:={ M.S with now:={ M.S.now with pen:=⟨r,f,b,a⟩ } } }:Scm).obj:=M.put _ 23 _ h (by simp) rfl
@[go_sem] theorem Scm.wAlt0 (M:Scm) (h:M.S.tabs.length=200):Az (some M.obj) 20 [.int .i64 0]=some ({ M with S:={ M.S with alt:=false } }:Scm).obj:=M.put _ 20 _ h (by simp) rfl
@[go_sem] theorem Scm.wAlt1 (M:Scm) (h:M.S.tabs.length=200):Az (some M.obj) 20 [.int .i64 1]=some ({ M with S:={ M.S with alt:=true } }:Scm).obj:=M.put _ 20 _ h (by simp) rfl
@[go_sem] theorem Scm.wTop (M:Scm) (n:Nat) (h:M.S.tabs.length=200):Az (some M.obj) 27 [.int .i64 (n:Int)]=some ({ M with S:={ M.S with top:=n } }:Scm).obj:=M.put _ 27 _ h (by simp) rfl
@[go_sem] theorem Scm.wTop0 (M:Scm) (h:M.S.tabs.length=200):Az (some M.obj) 27 [.int .i64 0]=some ({ M with S:={ M.S with top:=0 } }:Scm).obj:=M.put _ 27 _ h (by simp) rfl
@[go_sem] theorem Scm.wFin (M:Scm) (n:Nat) (h:M.S.tabs.length=200):Az (some M.obj) 28 [.int .i64 (n:Int)]=some ({ M with S:={ M.S with fin:=n } }:Scm).obj:=M.put _ 28 _ h (by simp) rfl
@[go_sem] theorem Scm.wW (M:Scm) (n:Nat) (h:M.S.tabs.length=200):Az (some M.obj) 0 [.int .i64 (n:Int)]=some ({ M with S:={ M.S with w:=n } }:Scm).obj:=M.put _ 0 _ h (by simp) rfl
@[go_sem] theorem Scm.wH (M:Scm) (n:Nat) (h:M.S.tabs.length=200):Az (some M.obj) 1 [.int .i64 (n:Int)]=some ({ M with S:={ M.S with h:=n } }:Scm).obj:=M.put _ 1 _ h (by simp) rfl
@[go_sem] theorem Scm.wS0x (M:Scm) (n:Nat) (h:M.S.tabs.length=200):Az (some M.obj) 8 [.int .i64 (n:Int)]=some ({ M with S:={ M.S with s0:={ M.S.s0 with x:=n } } }:Scm).obj:=M.put _ 8 _ h (by simp) rfl
@[go_sem] theorem Scm.wS0y (M:Scm) (n:Nat) (h:M.S.tabs.length=200):Az (some M.obj) 9 [.int .i64 (n:Int)]=some ({ M with S:={ M.S with s0:={ M.S.s0 with y:=n } } }:Scm).obj:=M.put _ 9 _ h (by simp) rfl
@[go_sem] theorem Scm.wS1x (M:Scm) (n:Nat) (h:M.S.tabs.length=200):Az (some M.obj) 14 [.int .i64 (n:Int)]=some ({ M with S:={ M.S with s1:={ M.S.s1 with x:=n } } }:Scm).obj:=M.put _ 14 _ h (by simp) rfl
@[go_sem] theorem Scm.wS1y (M:Scm) (n:Nat) (h:M.S.tabs.length=200):Az (some M.obj) 15 [.int .i64 (n:Int)]=some ({ M with S:={ M.S with s1:={ M.S.s1 with y:=n } } }:Scm).obj:=M.put _ 15 _ h (by simp) rfl
theorem Scm.wG0 (M:Scm) (G:Gr) (b c:Nat) (p:List Value) (h:M.S.tabs.length=200):Az (some M.obj) 2 [.int .i64 G.w,.int .i64 G.h,.slice (some ⟨b,0,none⟩) G.cs.length c]=some ({ M with S:={ M.S with g0:=G },b0:=b,c0:=c,p0:=p }:Scm).obj:=M.put _ 2 _ h (by simp) rfl
theorem Scm.wG1 (M:Scm) (G:Gr) (b c:Nat) (p:List Value) (h:M.S.tabs.length=200):Az (some M.obj) 5 [.int .i64 G.w,.int .i64 G.h,.slice (some ⟨b,0,none⟩) G.cs.length c]=some ({ M with S:={ M.S with g1:=G },b1:=b,c1:=c,p1:=p }:Scm).obj:=M.put _ 5 _ h (by simp) rfl
theorem Scm.putTail (M M':Scm) (i:Nat) (v:Value) (h:M.S.tabs.length=200) (hi:i<204) (he:M.cells.take 29=M'.cells.take 29) (ht:M.end.set i v=M'.end):Az (some M.obj) (29+i) [v]=some M'.obj:=by
 refine M.put M' _ _ h (by simp;omega) ?_
 have e1:M.cells=M.cells.take 29++M.end:=rfl
 have e2:M'.cells=M'.cells.take 29++M'.end:=rfl
 have hl:(M.cells.take 29).length=29:=by simp [M.cells_len h]
 have hE:=M.end_len h
 rw[e1,e2,←he,←ht]
 rw[List.take_append,List.drop_append,hl]
 rw[List.take_of_length_le (by rw[hl];omega),List.drop_eq_nil_of_le (by rw[hl];simp;omega)]
 rw[show 29+i-29=i by omega,show 29+i+[v].length-29=i+1 by simp;omega]
 rw[List.set_eq_take_append_cons_drop,if_pos (by omega)]
 simp
@[go_sem] theorem Scm.wTab (M:Scm) (i:Nat) (b:Bool) (h:M.S.tabs.length=200) (hi:i<200):Az (some M.obj) (29+i) [.bool b]=some ({ M with S:={ M.S with tabs:=M.S.tabs.set i b } }:Scm).obj :=
 M.putTail _ i _ h (by omega) rfl (by simp only[Scm.end];rw[List.set_append_left _ _ (by simp;omega),List.map_set])
@[go_sem] theorem Scm.wwraps (M:Scm) (b:Bool) (h:M.S.tabs.length=200):Az (some M.obj) 229 [.bool b]=some ({ M with S:={ M.S with wraps:=b } }:Scm).obj :=
 M.putTail _ 200 _ h (by omega) rfl (by simp only[Scm.end];rw[List.set_append_right _ _ (by simp [h])];simp [h])
@[go_sem] theorem Scm.wwaits (M:Scm) (b:Bool) (h:M.S.tabs.length=200):Az (some M.obj) 230 [.bool b]=some ({ M with S:={ M.S with waits:=b } }:Scm).obj :=
 M.putTail _ 201 _ h (by omega) rfl (by simp only[Scm.end];rw[List.set_append_right _ _ (by simp [h])];simp [h])
@[go_sem] theorem Scm.wshown (M:Scm) (b:Bool) (h:M.S.tabs.length=200):Az (some M.obj) 231 [.bool b]=some ({ M with S:={ M.S with shown:=b } }:Scm).obj :=
 M.putTail _ 202 _ h (by omega) rfl (by simp only[Scm.end];rw[List.set_append_right _ _ (by simp [h])];simp [h])
theorem Scm.wGv (M:Scm) (v:Value) (l:List Rw) (g:List (List Cel)) (h:M.S.tabs.length=200):Az (some M.obj) 232 [v]=some ({ M with S:={ M.S with gone:=g },gv:=v,rows:=l }:Scm).obj :=
 M.putTail _ 203 _ h (by omega) rfl (by simp only[Scm.end];rw[List.set_append_right _ _ (by simp [h])];simp [h])
def Scm.cb (M:Scm):Nat:=bif M.S.alt then M.b1 else M.b0
def Scm.cc (M:Scm):Nat:=bif M.S.alt then M.c1 else M.c0
def Scm.cp (M:Scm):List Value:=bif M.S.alt then M.p1 else M.p0
def Scm.setCur (M:Scm) (G:Gr) (b c:Nat) (p:List Value):Scm :=
 bif M.S.alt then { M with S:={ M.S with g1:=G },b1:=b,c1:=c,p1:=p } else { M with S:={ M.S with g0:=G },b0:=b,c0:=c,p0:=p }
theorem Scm.setCur_S (M:Scm) (G:Gr) (b c:Nat) (p:List Value):(M.setCur G b c p).S=M.S.setCur G:=by
 unfold Scm.setCur Scr.setCur
 rcases Bool.eq_false_or_eq_true M.S.alt with h|h<;>simp only[h,cond_true,cond_false]
@[go_sem] theorem Scm.aCur (M:Scm):AU (some M.obj) (2+(BZ M.S.alt).toNat*3) 3=some #[.int .i64 M.S.cur.w,.int .i64 M.S.cur.h,.slice (some ⟨M.cb,0,none⟩) M.S.cur.cs.length M.cc]:=by
 unfold Scr.cur Scm.cb Scm.cc
 cases M.S.alt
 ·exact M.a2
 ·exact M.a5
@[go_sem] theorem Scm.rCur (M:Scm):Av (some M.obj) (2+(BZ M.S.alt).toNat*3+2)=some (.slice (some ⟨M.cb,0,none⟩) M.S.cur.cs.length M.cc):=by
 unfold Scr.cur Scm.cb Scm.cc
 cases M.S.alt
 ·exact M.r4
 ·exact M.r7
theorem Scm.wCur (M:Scm) (G:Gr) (b c:Nat) (p:List Value) (h:M.S.tabs.length=200):Az (some M.obj) (2+(BZ M.S.alt).toNat*3) [.int .i64 G.w,.int .i64 G.h,.slice (some ⟨b,0,none⟩) G.cs.length c]=some (M.setCur G b c p).obj:=by
 unfold Scm.setCur
 rcases Bool.eq_false_or_eq_true M.S.alt with ha|ha<;>rw[ha]
 ·exact M.wG1 G b c p h
 ·exact M.wG0 G b c p h
def Scm.blk (M:Scm):List Nat:=M.b0::M.b1::M.gv.ownBlock.toList
structure SAt (w:World) (s:Nat) (M:Scm):Prop where
 hb:w.heap[s]?=some M.obj
 h0:w.heap[M.b0]?=some (.cells (M.S.g0.cs.flatMap Cel.cells++M.p0).toArray 167)
 k0:M.S.g0.cs.length≤M.c0
 h1:w.heap[M.b1]?=some (.cells (M.S.g1.cs.flatMap Cel.cells++M.p1).toArray 167)
 k1:M.S.g1.cs.length≤M.c1
 ne:M.b0≠M.b1
 tl:M.S.tabs.length=200
 own:Ox 0 w 57 1 Rw.f M.gv M.rows
 rows:∀r∈M.rows,SxC w (some 167) r.a r.cs
 far:∀r∈M.rows,∀b o,r.a=some ⟨b,o,none⟩→r.cs≠[]→b≠M.b0∧b≠M.b1
 gone:M.S.gone=M.rows.map Rw.cs
theorem SAt.s_ne {w:World} {s:Nat} {M:Scm} (h:SAt w s M):s≠M.b0∧s≠M.b1:=by
 have hb:=h.hb
 have h0:=h.h0
 have h1:=h.h1
 unfold Scm.obj at hb
 refine⟨fun e=>?_,fun e=>?_⟩
 ·rw[←e,hb] at h0;simp at h0
 ·rw[←e,hb] at h1;simp at h1
theorem SAt.s_own {w:World} {s:Nat} {M:Scm} (h:SAt w s M):s∉M.gv.ownBlock.toList:=by
 intro hm
 have hb:=h.hb
 unfold Scm.obj at hb
 exact h.own.off hb rfl (by simpa using hm)
theorem SAt.b_own {w:World} {s:Nat} {M:Scm} (h:SAt w s M):M.b0∉M.gv.ownBlock.toList∧M.b1∉M.gv.ownBlock.toList :=
 ⟨fun hm=>h.own.off h.h0 rfl (by simpa using hm),fun hm=>h.own.off h.h1 rfl (by simpa using hm)⟩
theorem SAt.row_ne {w:World} {s:Nat} {M:Scm} (h:SAt w s M):∀r∈M.rows,∀b o,r.a=some ⟨b,o,none⟩→r.cs≠[]→b≠s∧b∉M.gv.ownBlock.toList:=by
 intro r hr b o ha hne
 have hb:=h.hb
 unfold Scm.obj at hb
 refine⟨(h.rows r hr).ne ha hne hb rfl,fun hm=>?_⟩
 obtain⟨hl,ho⟩:=h.own
 rcases ho with ⟨hv,-⟩|⟨g,cap,cur,hv,-,hg,-⟩
 ·rw[hv] at hm;simp [Value.ownBlock] at hm
 ·rw[hv] at hm;simp [Value.ownBlock] at hm
  subst hm
  exact(h.rows r hr).ne ha hne hg rfl rfl
theorem SAt.lt {w:World} {s:Nat} {M:Scm} (h:SAt w s M):∀b∈s::M.blk,b<w.heap.size:=by
 intro b hb
 simp only[Scm.blk,List.mem_cons] at hb
 rcases hb with rfl|rfl|rfl|hb
 ·exact Aa h.hb
 ·exact Aa h.h0
 ·exact Aa h.h1
 ·obtain⟨hl,ho⟩:=h.own
  rcases ho with ⟨hv,-⟩|⟨g,cap,cur,hv,-,hg,-⟩
  ·rw[hv] at hb;simp [Value.ownBlock] at hb
  ·rw[hv] at hb;simp [Value.ownBlock] at hb
   subst hb;exact Aa hg
theorem SAt.chg {w w':World} {s:Nat} {M:Scm} {F:List Nat} (h:SAt w s M) (hc:Chg F w w') (hF:∀x∈s::M.blk,x∉F) (hr:∀r∈M.rows,∀b o,r.a=some ⟨b,o,none⟩→r.cs≠[]→b∉F):SAt w' s M :=
 ⟨hc.keep h.hb (hF s (by simp)),hc.keep h.h0 (hF _ (by simp [Scm.blk])),h.k0,hc.keep h.h1 (hF _ (by simp [Scm.blk])),h.k1,h.ne,h.tl,h.own.chg hc (fun b hb=>hF b (by simp [Scm.blk,←hb])),fun r hr'=>(h.rows r hr').chg hc (hr r hr'),h.far,h.gone⟩
theorem SAt.chg0 {w w':World} {s:Nat} {M:Scm} (h:SAt w s M) (hc:Chg [] w w'):SAt w' s M:=h.chg hc (by simp) (by simp)
theorem SAt.set {w:World} {s:Nat} {M:Scm} (h:SAt w s M) (T:Scr) (e0:T.g0.cs=M.S.g0.cs) (e1:T.g1.cs=M.S.g1.cs) (et:T.tabs.length=200) (eg:T.gone=M.S.gone):SAt (Ab w s ({ M with S:=T }:Scm).obj) s { M with S:=T }:=by
 have hl:=Aa h.hb
 have hc:Chg [s] w (Ab w s ({ M with S:=T }:Scm).obj):=(Chg.refl _ _).set _ _ (by simp)
 have hn:=h.s_ne
 refine⟨Au _ _ _ _ rfl hl,?_,?_,?_,?_,h.ne,et,?_,fun r hr=>(h.rows r hr).chg hc fun b o ha hne=>?_,h.far,eg.trans h.gone⟩
 ·show _=some (Obj.cells (T.g0.cs.flatMap Cel.cells++M.p0).toArray _)
  rw[e0];exact hc.keep h.h0 (by simp;omega)
 ·show T.g0.cs.length≤M.c0
  rw[e0];exact h.k0
 ·show _=some (Obj.cells (T.g1.cs.flatMap Cel.cells++M.p1).toArray _)
  rw[e1];exact hc.keep h.h1 (by simp;omega)
 ·show T.g1.cs.length≤M.c1
  rw[e1];exact h.k1
 ·exact h.own.chg hc fun b hb hm=>by
   simp at hm;subst hm
   exact h.s_own (by simp [←hb])
 ·simp;exact(h.row_ne r hr b o ha hne).1
def Did (w:World) (s:Nat) (M:Scm) (w':World) (T:Scr):Prop:=∃M':Scm,SAt w' s M'∧M'.S=T∧Chg (s::M.blk) w w'∧∀b∈M'.blk,b∈M.blk∨w.heap.size≤b
theorem Did.of {w w':World} {s:Nat} {M:Scm} (h:SAt w' s M) (hc:Chg (s::M.blk) w w') {T:Scr} (e:M.S=T):Did w s M w' T:=⟨M,h,e,hc,fun b hb=>.inl hb⟩
theorem Did.refl {w:World} {s:Nat} {M:Scm} (h:SAt w s M):Did w s M w M.S:=.of h (Chg.refl _ _) rfl
theorem Did.trans {w w1 w2:World} {s:Nat} {M M1:Scm} {T:Scr} (h1:Chg (s::M.blk) w w1) (hb:∀b∈M1.blk,b∈M.blk∨w.heap.size≤b) (h2:Did w1 s M1 w2 T):Did w s M w2 T:=by
 obtain⟨M2,a,b,c,d⟩:=h2
 refine⟨M2,a,b,h1.trans c fun x hx=>?_,fun x hx=>?_⟩
 ·rcases List.mem_cons.1 hx with rfl|hx
  ·exact .inl (by simp)
  ·exact(hb x hx).imp (fun h=>by simp [h]) id
 ·rcases d x hx with h|h
  ·exact hb x h
  ·have:=h1.size;exact .inr (by omega)
theorem Did.trans0 {w w1 w2:World} {s:Nat} {M:Scm} {T:Scr} (h:Did w s M w1 T) (hc:Chg [] w1 w2):Did w s M w2 T:=by
 obtain⟨M2,a,b,c,d⟩:=h
 exact⟨M2,a.chg0 hc,b,c.trans0 hc,d⟩
theorem Did.set {w w1:World} {s:Nat} {M M1:Scm} (h:SAt w1 s M1) (h1:Chg (s::M.blk) w w1) (hb:∀b∈M1.blk,b∈M.blk∨w.heap.size≤b) (T:Scr) (e0:T.g0.cs=M1.S.g0.cs) (e1:T.g1.cs=M1.S.g1.cs) (et:T.tabs.length=200) (eg:T.gone=M1.S.gone):Did w s M (Ab w1 s ({ M1 with S:=T }:Scm).obj) T :=
 .trans h1 hb ⟨_,h.set T e0 e1 et eg,rfl,(Chg.refl _ _).set _ _ (by simp),fun b hb=>.inl hb⟩
theorem Hc {w:World} {s:Nat} {M:Scm} (h:SAt w s M) (hw:0<M.S.w):Calls Tryz.prog 122 #[.pointer (some ⟨s,0,none⟩)] w (Ac fun v w'=>v=.bool false∧w=w'):=by
 have hb:=h.hb
 apply ZT
 intro K hK
 unfold ME
 refine Join1.inl ?_
 simp -dsimp (disch:=first|omega|(simp only[go_sem,seval];try omega))only[go_sem,seval,hb]
 exact hK _ _ ⟨by simp;omega,rfl⟩
theorem FZ {w:World} {s:Nat} {M:Scm} (h:SAt w s M) (w1:M.S.w≤200) (h1:M.S.h≤60) (x y:Int):Calls Tryz.prog 169 #[.pointer (some ⟨s,0,none⟩),.int .i64 x,.int .i64 y] w
  (Ac fun v w'=>v=.tuple #[.int .i64 (min (max x 0) ((M.S.w:Int)-1)),.int .i64 (min (max y 0) ((M.S.h:Int)-1))]∧Chg [] w w'):=by
 have hb:=h.hb
 apply Pf
 intro K hK
 unfold NJ
 simp -dsimp (disch:=first|omega|(simp only[go_sem,seval];try omega))only[go_sem,seval,hb]
 exact hK _ _ ⟨rfl,(Chg.refl _ _).drew⟩
theorem DY {w:World} {s:Nat} {M:Scm} (h:SAt w s M) (ok:M.S.ok) (x y:Int):Calls Tryz.prog 170 #[.pointer (some ⟨s,0,none⟩),.int .i64 x,.int .i64 y] w
  (Ac fun _ w'=>Did w s M w' (M.S.move x y)):=by
 have w0:=ok.w0
 have h0:=ok.h0
 have tl:=h.tl
 apply N1
 intro K hK
 unfold GZ
 refine OpX.call F3 rfl (Calls.ret (FZ h ok.w1 ok.h1 x y) ?_)
 rintro v w1 ⟨rfl,hc1⟩
 have h1:=h.chg0 hc1
 have hb:=h1.hb
 have hl:=Aa hb
 have e1:min (max x 0) ((M.S.w:Int)-1)=((AH x M.S.w:Nat):Int):=by unfold AH;omega
 have e2:min (max y 0) ((M.S.h:Int)-1)=((AH y M.S.h:Nat):Int):=by unfold AH;omega
 rw[e1,e2]
 simp -dsimp (disch:=first|omega|(simp only[go_sem,seval];try omega))only[go_sem,seval,hb]
 exact hK _ _ (Did.set h1 (hc1.mono (by simp)) (fun b hb=>.inl hb) _ rfl rfl tl rfl)
theorem Ho {w:World} {s:Nat} {M:Scm} (h:SAt w s M):Calls Tryz.prog 183 #[.pointer (some ⟨s,0,none⟩)] w (Ac fun _ w'=>Did w s M w' M.S.save):=by
 have hb:=h.hb
 have hl:=Aa hb
 have tl:=h.tl
 apply XV
 intro K hK
 unfold JF
 unfold Scr.save at hK
 cases ha:M.S.alt with
 | false =>
  rw[ha] at hK
  simp -dsimp (disch:=first|omega|(simp only[go_sem,seval];try omega))only[go_sem,seval,hb,ha]
  exact hK _ _ (Did.trans0 (Did.set h (Chg.refl _ _) (fun b hb=>.inl hb) _ rfl rfl tl rfl) (Chg.refl _ _).drew)
 | true =>
  rw[ha] at hK
  simp -dsimp (disch:=first|omega|(simp only[go_sem,seval];try omega))only[go_sem,seval,hb,ha]
  exact hK _ _ (Did.trans0 (Did.set h (Chg.refl _ _) (fun b hb=>.inl hb) _ rfl rfl tl rfl) (Chg.refl _ _).drew)
theorem H3 {w:World} {s:Nat} {M:Scm} (h:SAt w s M):Calls Tryz.prog 185 #[.pointer (some ⟨s,0,none⟩)] w (Ac fun _ w'=>Did w s M w' M.S.restore):=by
 have hb:=h.hb
 have hl:=Aa hb
 have tl:=h.tl
 apply Zm
 intro K hK
 unfold Nk
 unfold Scr.restore at hK
 cases ha:M.S.alt with
 | false =>
  rw[ha] at hK
  simp -dsimp (disch:=first|omega|(simp only[go_sem,seval];try omega))only[go_sem,seval,hb,ha]
  exact hK _ _ (Did.trans0 (Did.set h (Chg.refl _ _) (fun b hb=>.inl hb) _ rfl rfl tl rfl) (Chg.refl _ _).drew)
 | true =>
  rw[ha] at hK
  simp -dsimp (disch:=first|omega|(simp only[go_sem,seval];try omega))only[go_sem,seval,hb,ha]
  exact hK _ _ (Did.trans0 (Did.set h (Chg.refl _ _) (fun b hb=>.inl hb) _ rfl rfl tl rfl) (Chg.refl _ _).drew)
theorem Gi {w:World} {s:Nat} {M:Scm} (h:SAt w s M):Calls Tryz.prog 219 #[.pointer (some ⟨s,0,none⟩)] w (Ac fun v w'=>v=M.S.free.val∧Chg [] w w'):=by
 have hb:=h.hb
 have hl:=Aa hb
 apply SN
 intro K hK
 unfold OJ
 simp -dsimp (disch:=first|omega|(simp only[go_sem,seval];try omega))only[go_sem,seval]
 have hc0:=AE w (.cells #[.int .i32 0,.int .u8 0,.int .u8 0,.int .u8 0] 167)
 have ho0:(w.alloc (.cells #[.int .i32 0,.int .u8 0,.int .u8 0,.int .u8 0] 167)).heap[w.heap.size]?=some (.cells #[.int .i32 0,.int .u8 0,.int .u8 0,.int .u8 0] 167):=by simp -dsimp (disch:=first|omega|(simp only[go_sem,seval];try omega))only[go_sem,seval]
 generalize w.alloc _=w0 at hc0 ho0 ⊢
 refine OpX.call Gq rfl (Calls.ret (FK w0) ?_)
 rintro v w1 ⟨rfl,hc1⟩
 have hb1:=(h.chg0 (hc0.trans0 hc1)).hb
 have hl1:=Aa hb1
 have ho1:=hc1.keep ho0 (by simp)
 have hlo:=Aa ho1
 unfold Cel.blank
 simp -dsimp (disch:=first|omega|(simp only[go_sem,seval];try omega))only[go_sem,seval,hb1,ho1]
 refine hK _ _ ⟨by simp [Scr.free,Cel.val],?_⟩
 exact((hc0.trans0 hc1).set _ _ (.inr (Nat.le_refl _))).alloc _
theorem UF {w:World} {s:Nat} {M:Scm} (h:SAt w s M) (hw:0<M.S.w):Calls Tryz.prog 104 #[.pointer (some ⟨s,0,none⟩)] w
  (Ac fun v w'=>v=M.gv∧SAt w' s { M with S:={ M.S with gone:=[] },gv:=.slice none 0 0,rows:=[] }∧Chg [s] w w'):=by
 have hb:=h.hb
 have hl:=Aa hb
 have tl:=h.tl
 apply PC
 intro K hK
 unfold Ow
 refine OpX.call IA rfl (Calls.ret (Hc h hw) ?_)
 rintro v w1 ⟨rfl,rfl⟩
 have hp:=M.wGv (.slice none 0 0) [] [] tl
 simp -dsimp (disch:=first|omega|(simp only[go_sem,seval];try omega))only[go_sem,seval,hb,hp]
 have hn:=h.s_ne
 have hc:Chg [s] w (Ab w s ({ M with S:={ M.S with gone:=[] },gv:=.slice none 0 0,rows:=[] }:Scm).obj):=(Chg.refl _ _).set _ _ (by simp)
 exact hK _ _ ⟨rfl,⟨Au _ _ _ _ rfl hl,hc.keep h.h0 (by simp;omega),h.k0,hc.keep h.h1 (by simp;omega),h.k1,h.ne,h.tl,Ox.nil _ _ _ _ _,by simp,by simp,rfl⟩,hc⟩
theorem SAt.cur_blk {w:World} {s:Nat} {M:Scm} (h:SAt w s M):w.heap[M.cb]?=some (.cells (M.S.cur.cs.flatMap Cel.cells++M.cp).toArray 167):=by
 unfold Scr.cur Scm.cb Scm.cp
 cases M.S.alt
 ·exact h.h0
 ·exact h.h1
theorem SAt.cur_cap {w:World} {s:Nat} {M:Scm} (h:SAt w s M):M.S.cur.cs.length≤M.cc:=by
 unfold Scr.cur Scm.cc
 cases M.S.alt
 ·exact h.k0
 ·exact h.k1
theorem SAt.cur_s {w:World} {s:Nat} {M:Scm} (h:SAt w s M):SxC w (some 167) (some ⟨M.cb,0,none⟩) M.S.cur.cs:=⟨fun _=>⟨M.cb,0,_,_,_,[],M.cp,rfl,h.cur_blk,by simp [BR],by simp,rfl⟩⟩
theorem SAt.row_lt {w:World} {s:Nat} {M:Scm} (h:SAt w s M):∀r∈M.rows,∀b o,r.a=some ⟨b,o,none⟩→r.cs≠[]→b<w.heap.size:=fun r hr _ _ ha hne=>(h.rows r hr).lt hne ha
theorem SAt.newCur1 {w w':World} {s:Nat} {M:Scm} (h:SAt w s M) (hc:Chg [] w w') {G:Gr} {nb cap:Nat} {sp:List Value} (k:G.cs.length≤cap) (hn:w.heap.size≤nb) (hb:w'.heap[nb]?=some (.cells (G.cs.flatMap Cel.cells++sp).toArray 167)) :
  SAt (Ab w' s (M.setCur G nb cap sp).obj) s (M.setCur G nb cap sp)∧Chg (s::M.blk) w (Ab w' s (M.setCur G nb cap sp).obj)∧∀b∈(M.setCur G nb cap sp).blk,b∈M.blk∨w.heap.size≤b:=by
 have h':=h.chg0 hc
 have hs:=h'.s_ne
 have hl:=h.lt
 have hls:=Aa h'.hb
 have hlt0:=hl M.b0 (by simp [Scm.blk])
 have hlt1:=hl M.b1 (by simp [Scm.blk])
 have hlts:=hl s (by simp)
 have hc2:Chg [s] w' (Ab w' s (M.setCur G nb cap sp).obj):=(Chg.refl _ _).set _ _ (by simp)
 have hown:=h'.own.chg hc2 fun b hb hm=>by
  simp at hm;subst hm
  exact h'.s_own (by simp [←hb])
 have hrows:∀r∈M.rows,SxC (Ab w' s (M.setCur G nb cap sp).obj) (some 167) r.a r.cs:=fun r hr=>(h'.rows r hr).chg hc2 fun b o ha hne=>by simp;exact(h'.row_ne r hr b o ha hne).1
 have hgv:(M.setCur G nb cap sp).gv=M.gv∧(M.setCur G nb cap sp).rows=M.rows:=by unfold Scm.setCur;cases M.S.alt<;>exact⟨rfl,rfl⟩
 have hself:(Ab w' s (M.setCur G nb cap sp).obj).heap[s]?=some (M.setCur G nb cap sp).obj:=Au _ _ _ _ rfl hls
 have hk0:=hc2.keep h'.h0 (by simp;omega)
 have hk1:=hc2.keep h'.h1 (by simp;omega)
 have hkn:=hc2.keep hb (by simp;omega)
 have hch:Chg (s::M.blk) w (Ab w' s (M.setCur G nb cap sp).obj):=(hc.mono (by simp)).trans hc2 (by simp)
 clear hc2
 generalize Ab w' s (M.setCur G nb cap sp).obj=w2 at hself hk0 hk1 hkn hown hrows hch ⊢
 refine⟨?_,hch,?_⟩
 ·unfold Scm.setCur at hself ⊢
  rcases Bool.eq_false_or_eq_true M.S.alt with ha|ha
  ·rw[ha] at hself ⊢
   exact⟨hself,hk0,h'.k0,hkn,k,by show M.b0≠nb;omega,h'.tl,hown,hrows,fun r hr b o hx hne=>⟨(h'.far r hr b o hx hne).1,by have:=h.row_lt r hr b o hx hne;show b≠nb;omega⟩,h'.gone⟩
  ·rw[ha] at hself ⊢
   exact⟨hself,hkn,k,hk1,h'.k1,by show nb≠M.b1;omega,h'.tl,hown,hrows,fun r hr b o hx hne=>⟨by have:=h.row_lt r hr b o hx hne;show b≠nb;omega,(h'.far r hr b o hx hne).2⟩,h'.gone⟩
 ·unfold Scm.setCur Scm.blk
  intro b hbb
  rcases Bool.eq_false_or_eq_true M.S.alt with ha|ha<;>rw[ha] at hbb<;>simp at hbb<;>simp<;>rcases hbb with rfl|rfl|hbb<;>first|(right;omega)|simp_all
theorem SAt.newCur {w w':World} {s:Nat} {M:Scm} (h:SAt w s M) (hc:Chg [] w w') {G:Gr} {nb cap:Nat} {sp:List Value} (k:G.cs.length≤cap) (hn:w.heap.size≤nb) (hb:w'.heap[nb]?=some (.cells (G.cs.flatMap Cel.cells++sp).toArray 167)) :
  Did w s M (Ab w' s (M.setCur G nb cap sp).obj) (M.S.setCur G):=by
 obtain⟨h1,h2,h3⟩:=h.newCur1 hc k hn hb
 exact⟨M.setCur G nb cap sp,h1,M.setCur_S G nb cap sp,h2,h3⟩
theorem FD (S:Scr):S.free.usual=true:=by kernel_rfl
theorem GA {w:World} {s:Nat} {M:Scm} (h:SAt w s M) (ok:M.S.ok) (t n:Int) :
  Calls Tryz.prog 212 #[.pointer (some ⟨s,0,none⟩),.int .i64 t,.int .i64 n] w (Ac fun _ w'=>Did w s M w' (M.S.scroll t n)):=by
 have hb:=h.hb
 have tl:=h.tl
 have hcur:=ok.cur
 have hle:=hcur.ok.le
 have fh:=ok.fh
 have h1:=ok.h1
 have hwi:=GB M.S.alt
 apply Pw
 intro K hK
 unfold OM
 simp -dsimp (disch:=first|omega|(simp only[go_sem,seval];try omega))only[go_sem,seval,hb]
 have hfr:=Gi (w:=w.drew.drew) (h.chg0 (Chg.refl _ _).drew.drew)
 refine OpX.call Fw rfl (Calls.ret (hfr) ?_)
 rintro v w1 ⟨rfl,hc1⟩
 have hc01:Chg [] w w1:=(Chg.refl _ _).drew.drew.trans0 hc1
 have hA1:=h.chg0 hc01
 have hb1:=hA1.hb
 simp -dsimp (disch:=first|omega|(simp only[go_sem,seval];try omega))only[go_sem,seval,hb1]
 refine OpX.call ZD rfl (Calls.ret (U4 hcur.ok hcur.r hA1.cur_s M.cc hA1.cur_cap (FD _)) ?_)
 rintro v w2 ⟨⟨nb,cap,sp,rfl,q1,q2,q3⟩,hc2⟩
 have hb2:=(hA1.chg0 hc2).hb
 have hl2:=Aa hb2
 have hp:=M.wCur (M.S.cur.scroll t M.S.fin n M.S.free) nb cap sp tl
 simp -dsimp (disch:=first|omega|(simp only[go_sem,seval];try omega))only[go_sem,seval,Gr.val,hb2,hp]
 exact hK _ _ (h.newCur (hc01.trans0 hc2) q1 (by have:=hc01.size;omega) q3)
theorem Hd {w:World} {s:Nat} {M:Scm} (h:SAt w s M) (ok:M.S.ok) (y n:Int) (hy:-9223372036854775808≤y∧y≤9223372036854775807) (hn:n≤9223372036854775807) :
  Calls Tryz.prog 215 #[.pointer (some ⟨s,0,none⟩),.int .i64 y,.int .i64 n] w (Ac fun _ w'=>Did w s M w' (M.S.clear y n)):=by
 have hb:=h.hb
 have tl:=h.tl
 have hcur:=ok.cur
 have hle:=hcur.ok.le
 have w1:=ok.w1
 have hwi:=GB M.S.alt
 apply QJ
 intro K hK
 unfold Jx
 simp -dsimp (disch:=first|omega|(simp only[go_sem,seval];try omega))only[go_sem,seval,hb]
 refine Join0.cut (fun w'=>Did w s M w' (M.S.clear y n)) ?_ fun w' h'=>hK _ _ h'
 simp -dsimp (disch:=first|omega|(simp only[go_sem,seval];try omega))only[go_sem,seval,hb]
 have hfr:=Gi (w:=w.drew.drew) (h.chg0 (Chg.refl _ _).drew.drew)
 refine⟨?_,?_⟩
 all_goals
  refine OpX.call Fw rfl (Calls.ret (hfr) ?_)
  rintro v w1 ⟨rfl,hc1⟩
  have hc01:Chg [] w w1:=(Chg.refl _ _).drew.drew.trans0 hc1
  have hA1:=h.chg0 hc01
  have hb1:=hA1.hb
  simp -dsimp (disch:=first|omega|(simp only[go_sem,seval];try omega))only[go_sem,seval,hb1]
  refine OpX.call Lb rfl (Calls.ret (MP (X:=0) (Y:=y) (W:=M.S.w) (H:=n) hcur.ok hcur.r hA1.cur_s M.cc hA1.cur_cap (FD _) (by omega) hy (by omega) hn) ?_)
  rintro v w2 ⟨⟨nb,cap,sp,rfl,q1,q2,q3⟩,hc2⟩
  have hb2:=(hA1.chg0 hc2).hb
  have hl2:=Aa hb2
  have hp:=M.wCur (M.S.cur.fill 0 y M.S.w n M.S.free) nb cap sp tl
  simp -dsimp (disch:=first|omega|(simp only[go_sem,seval];try omega))only[go_sem,seval,Gr.val,hb2,hp]
  exact h.newCur (hc01.trans0 hc2) q1 (by have:=hc01.size;omega) q3
theorem Gr.of_set {g:Gr} (hg:g.ok) {Y:Nat} (hY:Y<g.h) {l:List Cel} (hl:l.length=g.w):(Gr.of g.w g.h fun y=>if y=Y then l else g.row y).cs=g.cs.take (Y*g.w)++l++g.cs.drop (Y*g.w+g.w):=by
 have hlt:=hg.row_lt hY
 have hlen:=hg.len
 have hok:(⟨g.w,g.h,g.cs.take (Y*g.w)++l++g.cs.drop (Y*g.w+g.w)⟩:Gr).ok:=⟨hg.w0,hg.w1,hg.h0,hg.h1,by simp;omega⟩
 have:=Gr.of_rows hok (R:=fun y=>if y=Y then l else g.row y) fun y hy=>?_
 ·rw[this]
 ·have hy':y<g.h:=hy
  have hly:=hg.row_lt hy'
  apply List.ext_getElem?
  intro x
  by_cases hx:x<g.w
  ·unfold Gr.row
   dsimp only
   rw[List.getElem?_take_of_lt hx,List.getElem?_drop]
   by_cases h1:y=Y
   ·subst h1
    rw[if_pos rfl,List.append_assoc,List.getElem?_append_right (by simp;omega),List.getElem?_append_left (by simp;omega)]
    congr 1
    simp;omega
   ·rw[if_neg h1,List.getElem?_take_of_lt hx,List.getElem?_drop]
    rcases Nat.lt_or_ge y Y with h2|h2
    ·have h3:=Nat.mul_le_mul_right g.w (show y+1≤Y by omega)
     rw[Nat.add_mul] at h3
     rw[List.append_assoc,List.getElem?_append_left (by simp;omega),List.getElem?_take_of_lt (by omega)]
    ·have h3:=Nat.mul_le_mul_right g.w (show Y+1≤y by omega)
     rw[Nat.add_mul] at h3
     rw[List.getElem?_append_right (by simp;omega),List.getElem?_drop]
     congr 1
     simp;omega
  ·have a1:((⟨g.w,g.h,g.cs.take (Y*g.w)++l++g.cs.drop (Y*g.w+g.w)⟩:Gr).row y)[x]?=none:=List.getElem?_eq_none (by rw[hok.row_len hy'];show g.w≤x;omega)
   rw[a1]
   split
   ·exact List.getElem?_eq_none (by omega)
   ·exact List.getElem?_eq_none (by rw[hg.row_len hy'];omega)
theorem Scm.setCur_obj (M:Scm) (G:Gr) (hw:G.w=M.S.cur.w) (hh:G.h=M.S.cur.h) (hl:G.cs.length=M.S.cur.cs.length):(M.setCur G M.cb M.cc M.cp).obj=M.obj:=by
 unfold Scm.setCur Scm.cb Scm.cc Scm.cp
 unfold Scr.cur at hw hh hl
 rcases Bool.eq_false_or_eq_true M.S.alt with ha|ha
 ·rw[ha] at hw hh hl ⊢
  simp only[cond_true] at hw hh hl ⊢
  unfold Scm.obj Scm.cells
  simp only[hw,hh,hl,Scm.end]
 ·rw[ha] at hw hh hl ⊢
  simp only[cond_false] at hw hh hl ⊢
  unfold Scm.obj Scm.cells
  simp only[hw,hh,hl,Scm.end]
theorem SAt.wrote {w:World} {s:Nat} {M:Scm} (h:SAt w s M) {G:Gr} (hw:G.w=M.S.cur.w) (hh:G.h=M.S.cur.h) (hl:G.cs.length=M.S.cur.cs.length) :
  Did w s M (Ab w M.cb (.cells (G.cs.flatMap Cel.cells++M.cp).toArray 167)) (M.S.setCur G):=by
 have hs:=h.s_ne
 have hob:=M.setCur_obj G hw hh hl
 have hown:=h.b_own
 have hcb:M.cb=M.b0∨M.cb=M.b1:=by unfold Scm.cb;cases M.S.alt<;>simp
 have hc:Chg [M.cb] w (Ab w M.cb (.cells (G.cs.flatMap Cel.cells++M.cp).toArray 167)):=(Chg.refl _ _).set _ _ (by simp)
 have hself:(Ab w M.cb (.cells (G.cs.flatMap Cel.cells++M.cp).toArray 167)).heap[M.cb]?=some (.cells (G.cs.flatMap Cel.cells++M.cp).toArray 167):=Au _ _ _ _ rfl (Aa h.cur_blk)
 generalize Ab w M.cb _=w2 at hc hself ⊢
 have hcap:=h.cur_cap
 have hb2:=hc.keep h.hb (by simp;rcases hcb with e|e<;>rw[e]<;>omega)
 rw[←hob] at hb2
 have ho2:=h.own.chg hc (fun b hb hm=>by
  simp at hm
  rcases hcb with e|e
  ·rw[hm,e] at hb;exact hown.1 (by simp [←hb])
  ·rw[hm,e] at hb;exact hown.2 (by simp [←hb]))
 have hr2:∀r∈M.rows,SxC w2 (some 167) r.a r.cs:=fun r hr=>(h.rows r hr).chg hc fun b o ha hne=>by
  have:=h.far r hr b o ha hne
  simp;rcases hcb with e|e<;>rw[e]<;>omega
 refine⟨M.setCur G M.cb M.cc M.cp,?_,M.setCur_S _ _ _ _,hc.mono (by simp [Scm.blk];rcases hcb with e|e<;>simp [e]),?_⟩
 ·have hne:=h.ne
  rcases Bool.eq_false_or_eq_true M.S.alt with ha|ha
  ·have e:M.setCur G M.cb M.cc M.cp={ M with S:={ M.S with g1:=G } }:=by unfold Scm.setCur Scm.cb Scm.cc Scm.cp;rw[ha];rfl
   have e1:M.cb=M.b1∧M.cp=M.p1∧M.S.cur=M.S.g1:=by unfold Scm.cb Scm.cp Scr.cur;rw[ha];exact⟨rfl,rfl,rfl⟩
   rw[e1.1,e1.2.1] at hself
   rw[e1.2.2] at hl
   rw[e] at hb2 ⊢
   rw[e1.1] at hc
   exact⟨hb2,hc.keep h.h0 (by simp;omega),h.k0,hself,by show G.cs.length≤M.c1;have:=h.k1;omega,h.ne,h.tl,ho2,hr2,h.far,h.gone⟩
  ·have e:M.setCur G M.cb M.cc M.cp={ M with S:={ M.S with g0:=G } }:=by unfold Scm.setCur Scm.cb Scm.cc Scm.cp;rw[ha];rfl
   have e1:M.cb=M.b0∧M.cp=M.p0∧M.S.cur=M.S.g0:=by unfold Scm.cb Scm.cp Scr.cur;rw[ha];exact⟨rfl,rfl,rfl⟩
   rw[e1.1,e1.2.1] at hself
   rw[e1.2.2] at hl
   rw[e] at hb2 ⊢
   rw[e1.1] at hc
   exact⟨hb2,hself,by show G.cs.length≤M.c0;have:=h.k0;omega,hc.keep h.h1 (by simp;omega),h.k1,h.ne,h.tl,ho2,hr2,h.far,h.gone⟩
 ·intro b hb
  left
  unfold Scm.setCur Scm.blk Scm.cb at hb
  unfold Scm.blk
  rcases Bool.eq_false_or_eq_true M.S.alt with ha|ha<;>rw[ha] at hb<;>exact hb
def H4 (fv:Value) (w:World) (s:Nat) (M:Scm) (f:Gr→Gr):Prop :=
 ∀(w1:World) (g:Gr) (b o cap:Nat),Chg [] w w1→g.fit M.S.w 1→g.cs.length≤cap→SxC w1 (some 167) (some ⟨b,o,none⟩) g.cs →
  Bd Tryz.prog fv [g.val (some ⟨b,o,none⟩) cap] (fun v w2=>GAt w1.heap.size w2 v (f g)∧Chg [] w1 w2) w1
theorem HC {w:World} {s:Nat} {M:Scm} (h:SAt w s M) (ok:M.S.ok) {fv:Value} {f:Gr→Gr} (hf:H4 fv w s M f) (hR:G8 M.S.w f) :
  Calls Tryz.prog 179 #[.pointer (some ⟨s,0,none⟩),fv] w (Ac fun _ w'=>Did w s M w' (M.S.line f)):=by
 have hb:=h.hb
 have tl:=h.tl
 have hcur:=ok.cur
 have hcw:=hcur.w
 have hch:=hcur.h
 have hle:=hcur.ok.le
 have hlen:=hcur.ok.len
 have hcap:=h.cur_cap
 have w1:=ok.w1
 have h1:=ok.h1
 have ny:=ok.ny
 have hwi:=GB M.S.alt
 have hrl:=hcur.ok.row_lt (y:=M.S.now.y) (by omega)
 apply SW
 intro K hK
 unfold O1
 rw[hcw] at hrl
 have e1:(M.S.now.y:Int)*(M.S.w:Int)=((M.S.now.y*M.S.w:Nat):Int):=by simp
 have e2:((M.S.now.y*M.S.w:Nat):Int)+(M.S.w:Int)=((M.S.now.y*M.S.w+M.S.w:Nat):Int):=by simp
 simp -dsimp (disch:=first|omega|(simp only[go_sem,seval];try omega))only[go_sem,seval,hb,e1,e2]
 have hrl2:=hcur.ok.row_len (y:=M.S.now.y) (by omega)
 rw[hcw] at hrl2
 obtain⟨A,hA⟩:∃A,A=M.S.now.y*M.S.w:=⟨_,rfl⟩
 have w0:=ok.w0
 have e3:slo 0 (A+M.S.w) A 4=0+A*4:=by unfold slo;rw[if_neg (by omega)]
 have e4:A+M.S.w-A=M.S.w:=by omega
 simp only[Int.toNat_natCast]
 rw[←hA,e3,e4]
 have hs1:SxC w.drew.drew (some 167) (some ⟨M.cb,0+A*4,none⟩) (M.S.cur.row M.S.now.y):=by
  have:=Sx.sub (h.cur_s.chg0 (Chg.refl _ _).drew.drew) Cel.len A M.S.w _ (.inr (.inr rfl))
  rw[Gr.row,hcw,←hA]
  exact this
 have hy:=hf w.drew.drew ⟨M.S.w,1,M.S.cur.row M.S.now.y⟩ M.cb (0+A*4) M.S.w (Chg.refl _ _).drew.drew (hcur.row1 ny) (by show(M.S.cur.row M.S.now.y).length≤_;omega) hs1
 simp only[Gr.val,hrl2] at hy
 have hfg:=(hR ⟨M.S.w,1,M.S.cur.row M.S.now.y⟩ (hcur.row1 ny))
 refine hy.use ?_
 rintro v w2 ⟨⟨nb,cap,sp,rfl,q1,q2,q3⟩,hc2⟩
 have hc02:Chg [] w w2:=(Chg.refl _ _).drew.drew.trans0 hc2
 have hA2:=h.chg0 hc02
 have hcs:=hfg.cs1.1
 generalize hF:f ⟨M.S.w,1,M.S.cur.row M.S.now.y⟩=F at q1 q3 hfg hcs ⊢
 simp -dsimp (disch:=first|omega|(simp only[go_sem,seval];try omega))only[go_sem,seval,Gr.val]
 have hca:=AE w2 (.cells #[.int .i64 F.w,.int .i64 F.h,.slice (some ⟨nb,0,none⟩) F.cs.length cap] 59)
 generalize w2.alloc _=w3 at hca ⊢
 have hA3:=hA2.chg0 hca
 have q4:=hca.keep q3 (by simp)
 have hsplit:M.S.cur.cs=M.S.cur.cs.take A++M.S.cur.row M.S.now.y++M.S.cur.cs.drop (A+M.S.w):=by
  rw[Gr.row,hcw,←hA,List.append_assoc,←List.drop_drop,List.take_append_drop,List.take_append_drop]
 have hset:=Gr.of_set hcur.ok (Y:=M.S.now.y) (by omega) (l:=F.cs) (by omega)
 rw[hcw,hch,←hA] at hset
 have hsl:F.cs.length=(M.S.cur.row M.S.now.y).length:=by omega
 refine DQ (m:=4) (pre:=(M.S.cur.cs.take A).flatMap Cel.cells) (old:=(M.S.cur.row M.S.now.y).flatMap Cel.cells) (new:=F.cs.flatMap Cel.cells) (post:=(M.S.cur.cs.drop (A+M.S.w)).flatMap Cel.cells++M.cp) (e:=167) Dq ?_ ?_ ?_ ?_ ?_ ?_ ?_
 ·rw[hA3.cur_blk]
  conv=>lhs;rw[hsplit]
  simp
 ·rw[AJ Cel.len]
  simp;omega
 ·rw[AJ Cel.len,AJ Cel.len,hsl]
 ·rw[AJ Cel.len];omega
 ·exact CK Cel.ok _
 ·intro j u hj
  rw[q4,CD,List.getElem?_toArray,Nat.zero_add,List.getElem?_append_left (by have:=(List.getElem?_eq_some_iff.1 hj).1;omega)]
  exact hj
 ·have hw:=hA3.wrote (G:=Gr.of M.S.w M.S.h fun y=>if y=M.S.now.y then F.cs else M.S.cur.row y) (by rw[hcw];rfl) (by rw[hch];rfl) (by rw[hset];simp;omega)
  rw[hset] at hw
  simp only[List.flatMap_append,List.append_assoc] at hw ⊢
  refine hK _ _ (Did.trans ((hc02.trans0 hca).mono (by simp)) (fun b hb=>.inl hb) ?_)
  have hfun:(fun y=>if y=M.S.now.y then(f ⟨M.S.w,1,M.S.cur.row y⟩).cs else M.S.cur.row y)=fun y=>if y=M.S.now.y then F.cs else M.S.cur.row y:=by
   funext y
   by_cases hy':y=M.S.now.y
   ·rw[if_pos hy',if_pos hy',hy',hF]
   ·rw[if_neg hy',if_neg hy']
  unfold Scr.line
  rw[hfun]
  exact hw
theorem F6 {w:World} {s:Nat} {M:Scm} (h:SAt w s M) (ok:M.S.ok) (x n:Int) (hx:-9223372036854775808≤x∧x≤9223372036854775807) (hn:n≤9223372036854775807) :
  Calls Tryz.prog 216 #[.pointer (some ⟨s,0,none⟩),.int .i64 x,.int .i64 n] w (Ac fun _ w'=>Did w s M w' (M.S.erase x n)):=by
 apply Ud
 intro K hK
 unfold JR
 simp -dsimp (disch:=first|omega|(simp only[go_sem,seval];try omega))only[go_sem,seval]
 refine OpX.gen fun w1 hw1=>?_
 have hc1:Chg [] w w1:=by rw[hw1];exact EZ _ _ _ _
 have hx1:w1.heap[w.heap.size+1]?=some (.cells #[.int .i64 x] 3):=by rw[hw1];simp -dsimp (disch:=first|omega|(simp only[go_sem,seval];try omega))only[go_sem,seval]
 have hn1:w1.heap[w.heap.size+2]?=some (.cells #[.int .i64 n] 3):=by rw[hw1];simp -dsimp (disch:=first|omega|(simp only[go_sem,seval];try omega))only[go_sem,seval]
 have hp1:w1.heap[w.heap.size]?=some (.cells #[.pointer (some ⟨s,0,none⟩)] 155):=by rw[hw1];simp -dsimp (disch:=first|omega|(simp only[go_sem,seval];try omega))only[go_sem,seval]
 clear hw1
 have hA1:=h.chg0 hc1
 refine OpX.call HZ rfl (Calls.ret (HC (f:=fun g=>g.fill x 0 n 1 M.S.free) hA1 ok ?_ fun _ hg=>hg.fill) ?_)
 ·intro w2 g b o cap hc2 hg hcap hs
  refine Bd.of (us:=[]) (cs:=[_,_,_]) X1 ?_
  have hx2:=hc2.keep hx1 (by simp)
  have hn2:=hc2.keep hn1 (by simp)
  have hp2:=hc2.keep hp1 (by simp)
  have hA2:=hA1.chg0 hc2
  have w1b:=hg.ok.w1
  have h1b:=hg.ok.h1
  apply Uu
  intro K hK
  unfold JD
  simp -dsimp (disch:=first|omega|(simp only[go_sem,seval];try omega))only[go_sem,seval,Gr.val]
  have hc3:Chg [] w2 (((w2.alloc (.cells #[.int .i64 g.w,.int .i64 g.h,.slice (some ⟨b,o,none⟩) g.cs.length cap] 59)).alloc (.cells #[.int .i64 0,.int .i64 0,.slice none 0 0] 59)).drew):=(Cm _ _ _).drew
  have hg3:(((w2.alloc (.cells #[.int .i64 g.w,.int .i64 g.h,.slice (some ⟨b,o,none⟩) g.cs.length cap] 59)).alloc (.cells #[.int .i64 0,.int .i64 0,.slice none 0 0] 59)).drew).heap[w2.heap.size]?=some (.cells #[.int .i64 g.w,.int .i64 g.h,.slice (some ⟨b,o,none⟩) g.cs.length cap] 59):=by simp -dsimp (disch:=first|omega|(simp only[go_sem,seval];try omega))only[go_sem,seval]
  have ho3:(((w2.alloc (.cells #[.int .i64 g.w,.int .i64 g.h,.slice (some ⟨b,o,none⟩) g.cs.length cap] 59)).alloc (.cells #[.int .i64 0,.int .i64 0,.slice none 0 0] 59)).drew).heap[w2.heap.size+1]?=some (.cells #[.int .i64 0,.int .i64 0,.slice none 0 0] 59):=by simp -dsimp (disch:=first|omega|(simp only[go_sem,seval];try omega))only[go_sem,seval]
  have hz3:(w2.alloc (.cells #[.int .i64 g.w,.int .i64 g.h,.slice (some ⟨b,o,none⟩) g.cs.length cap] 59)).heap.size=w2.heap.size+1:=by simp -dsimp (disch:=first|omega|(simp only[go_sem,seval];try omega))only[go_sem,seval]
  rw[hz3]
  generalize (World.alloc _ _).drew=w3 at hc3 hg3 ho3 ⊢
  have hx3:=hc3.keep hx2 (by simp)
  have hn3:=hc3.keep hn2 (by simp)
  have hp3:=hc3.keep hp2 (by simp)
  have hA3:=hA2.chg0 hc3
  have hs3:=hs.chg0 hc3
  have hl2:=hc3.size
  refine Join0.cut (fun w'=>Chg [] w2 w'∧∃nb cap' sp,w'.heap[w2.heap.size+1]?=some (.cells #[.int .i64 g.w,.int .i64 g.h,.slice (some ⟨nb,0,none⟩) (g.fill x 0 n 1 M.S.free).cs.length cap'] 59)∧(g.fill x 0 n 1 M.S.free).cs.length≤cap'∧w2.heap.size≤nb∧w'.heap[nb]?=some (.cells ((g.fill x 0 n 1 M.S.free).cs.flatMap Cel.cells++sp).toArray 167)) ?_ ?_
  ·have hlo3:=Aa ho3
   simp -dsimp (disch:=first|omega|(simp only[go_sem,seval];try omega))only[go_sem,seval,hg3,hx3,hn3,hp3]
   refine⟨?_,?_⟩
   all_goals
    refine OpX.call Fw rfl (Calls.ret (Gi hA3) ?_)
    rintro v w4 ⟨rfl,hc4⟩
    have hx4:=hc4.keep hx3 (by simp)
    have hn4:=hc4.keep hn3 (by simp)
    have hp4:=hc4.keep hp3 (by simp)
    have hg4:=hc4.keep hg3 (by simp)
    simp -dsimp (disch:=first|omega|(simp only[go_sem,seval];try omega))only[go_sem,seval,hg4,hx4,hn4,hp4]
    refine OpX.call Lb rfl (Calls.ret (MP (X:=x) (Y:=0) (W:=n) (H:=1) hg.ok hg.r (hs3.chg0 hc4) cap hcap (FD _) hx (by omega) hn (by omega)) ?_)
    rintro v w5 ⟨⟨nb,cap',sp,rfl,q1,q2,q3⟩,hc5⟩
    have ho5:=(hc4.trans0 hc5).keep ho3 (by simp)
    have hlo5:=Aa ho5
    have hl4:=hc4.size
    have hnb:=Aa q3
    simp -dsimp (disch:=first|omega|(simp only[go_sem,seval];try omega))only[go_sem,seval,Gr.val,ho5]
    refine⟨((hc3.trans0 hc4).trans0 hc5).set _ _ (.inr (by omega)),nb,cap',sp,rfl,q1,by omega,?_⟩
    simp -dsimp (disch:=first|omega|(simp only[go_sem,seval];try omega))only[go_sem,seval]
    exact q3
  ·rintro w4 ⟨hc4,nb,cap',sp,k1,k2,k3,k4⟩
   simp -dsimp (disch:=first|omega|(simp only[go_sem,seval];try omega))only[go_sem,seval,k1]
   exact hK _ _ ⟨⟨nb,cap',sp,rfl,k2,k3,k4⟩,hc4⟩
 ·rintro v w2 hd
  exact hK _ _ (Did.trans (hc1.mono (by simp)) (fun b hb=>.inl hb) hd)
end Go.Proofs.YtelplojmbjnplaaGreatDoor
namespace Lyc
open Go
section
variable {P:Program}
theorem Vt {t ty e:TypeId} {m by_ g n cap b o k c:Nat} {news:List Value} {x':Obj} {K:Value→World→Prop} {w:World} (ht:BM P t=some (e,m,by_)) (hl:news.length=k*m) (hroom:n+k≤cap)
  (hsrc:∀j u,news[j]?=some u→Av w.heap[b]? (o+j)=some u) (hok:AP news=true) (hput:Az w.heap[g]? (n*m) news=some x') (hk:K (.slice (some ⟨g,0,none⟩) (n+k) cap) (Ab w g x')) :
  OpX P (.call { callee:=.builtin .append,args:=#[.const (.slice (some ⟨g,0,none⟩) n cap),.const (.slice (some ⟨b,o,none⟩) k c)],argTypes:=#[t,t] }) ty K w:=by
 obtain⟨hu,i,z,hi,hz,hs,-,-,-⟩:=GD ht
 have hf:=run_firstCells_some (P:=P) w m k ⟨b,o,none⟩ k c news hl (fun j u hj=>by rw[CG,cell?_at];exact hsrc j u hj)
 have hst:=E2 (P:=P) hput hok
 rw[AW (v:=.slice (some ⟨g,0,none⟩) (n+k) cap) (w':=Ab w g x') fun ρ hg=>?_]
 ·exact hk
 ·have hadd:(⟨g,0,none⟩:Addr).add (n*m)=⟨g,n*m,none⟩:=by rw[CG,Nat.zero_add]
  simp [execOp,An,resolve,invoke,builtin,hg.1,Builtin.append_,run_underlying hu,Go.sizeOf,typeInfo,hi,hs,Builtin.lenOf,hf,hroom,hadd,hst]
theorem RP {t ty e:TypeId} {m b o n c:Nat} {zs:List Value} {x':Obj} {K:Value→World→Prop} {w:World} (ht:tbs P t=some (e,m,zs)) (hn:0<n) (hok:AP (Bg zs n)=true) (hput:Az w.heap[b]? o (Bg zs n)=some x')
  (hk:K (.tuple #[]) (Ab w b x')):OpX P (.call { callee:=.builtin .clear,args:=#[.const (.slice (some ⟨b,o,none⟩) n c)],argTypes:=#[t] }) ty K w:=by
 obtain⟨hu,i,z,hi,hz,hs,hzs,hzn,h0⟩:=FE ht
 have hst:=E2 (P:=P) hput hok
 have hzr:(Builtin.zeroCells z.cells n).toList=Bg zs n:=by
  unfold Builtin.zeroCells
  rw[H8 z.cells n z.cells.size rfl (by omega),hzs]
 rw[AW (v:=.tuple #[]) (w':=Ab w b x') fun ρ hg=>?_]
 ·exact hk
 ·obtain⟨n',rfl⟩:∃n',n=n'+1:=⟨n-1,by omega⟩
  simp [execOp,An,resolve,invoke,builtin,hg.1,Builtin.clear_,run_underlying hu,zeroValue,typeInfo,hi,hz,hzr,hst]
theorem Qw (t ty:TypeId) (n:Nat) (h:AI P t=some n):PureRun P (.slice t (.const (.slice none 0 0)) (some (.const (.int .i64 0))) (some (.const (.int .i64 0))) (some (.const (.int .i64 0)))) ty (.slice none 0 0):=by
 obtain⟨e,hu,hs⟩:=CY h
 refine⟨fun ρ hg w=>?_⟩
 simp [execOp,An,hg.1,Instr.sliceAt,Instr.slice,Instr.sliceBounds,Instr.sliceBound,asIntOf,run_underlying hu,Bh hs]
@[go_sem] theorem aO (t ty:TypeId) (K:Value→World→Prop) (w:World):OpX P (.slice t (.const (.slice none 0 0)) (some (.const (.int .i64 0))) (some (.const (.int .i64 0))) (some (.const (.int .i64 0)))) ty K w=OrK (AI P t) (fun _=>K (.slice none 0 0) w) (OpX P (.slice t (.const (.slice none 0 0)) (some (.const (.int .i64 0))) (some (.const (.int .i64 0))) (some (.const (.int .i64 0)))) ty K w) () :=
 AF (fun _ h=>(Qw t ty _ h).op K w) rfl
end
end Lyc
namespace Go.Proofs.YtelplojmbjnplaaGreatDoor
open Lyc Go
theorem Sf {w:World} {base:Nat} {v:Value} {rows:List Rw} (ho:Ox base w 57 1 Rw.f v rows) {k:Nat} (hk:k≤rows.length) (hl:rows.length≤100000):Calls Tryz.prog 224 #[v,.int .i64 0,.int .i64 k] w
  (Ac fun v' w'=>Ox base w' 57 1 Rw.f v' (rows.drop k)∧Chg v.ownBlock.toList w w'∧v'.ownBlock=v.ownBlock):=by
 apply XU
 intro K hK
 unfold O4
 obtain⟨hfl,hform⟩:=ho
 rcases hform with ⟨rfl,hn⟩|⟨g,cap,cur,rfl,hb,hg,h1,h2,h3,h4⟩
 ·have hk0:k=0:=by omega
  subst hk0
  have hr:rows=[]:=List.eq_nil_of_length_eq_zero hn
  subst hr
  have e0:((0:Nat):Int)=0:=rfl
  rw[e0]
  simp -dsimp (disch:=first|omega|(simp only[go_sem,seval];try omega))only[go_sem,seval]
  exact hK _ _ ⟨⟨hfl,.inl ⟨rfl,rfl⟩⟩,Chg.refl _ _,rfl⟩
 ·have hml:cap≤maxLen:=h2
  unfold maxLen at hml
  simp -dsimp (disch:=first|omega|(simp only[go_sem,seval];try omega))only[go_sem,seval]
  refine BrW.dec (fun h5=>?_) (fun h5=>?_)
  ·have hk0:k=0:=by omega
   subst hk0
   exact hK _ _ ⟨⟨hfl,.inr ⟨g,cap,cur,rfl,hb,hg,h1,h2,h3,h4⟩⟩,Chg.refl _ _,rfl⟩
  ·simp -dsimp (disch:=first|omega|(simp only[go_sem,seval];try omega))only[go_sem,seval]
   have hfd:∀l:List Rw,(l.flatMap Rw.f).length=l.length:=fun l=>by rw[AJ (m:=1) Rw.len];omega
   have hsz:cur.size=cap:=by omega
   have hdl:(rows.drop k).length=rows.length-k:=List.length_drop
   refine Vt (news:=(rows.drop k).flatMap Rw.f) (x':=.cells ((rows.drop k).flatMap Rw.f++cur.toList.drop (rows.length-k)).toArray 57) H5 (by rw[hfd,hdl];omega) (by omega) ?_ (CK Rw.ok _) ?_ ?_
   ·intro j u hj
    have hj':=(List.getElem?_eq_some_iff.1 hj).1
    rw[hfd,hdl] at hj'
    have e5:slo 0 cap k 1=k:=by unfold slo;rw[if_neg (by omega)];omega
    rw[Gx,hg,e5,CD,←Array.getElem?_toList]
    have e6:cur.toList[k+j]?=(cur.toList.take rows.length)[k+j]?:=by rw[List.getElem?_take_of_lt (by omega)]
    have e7:rows.flatMap Rw.f=(rows.take k).flatMap Rw.f++(rows.drop k).flatMap Rw.f:=by rw[←List.flatMap_append,List.take_append_drop]
    rw[e6,show cur.toList.take rows.length=rows.flatMap Rw.f by simpa using h4,e7,List.getElem?_append_right (by rw[hfd];simp;omega)]
    rw[←hj]
    congr 1
    rw[hfd];simp;omega
   ·rw[Gx,hg,CW,if_pos (by rw[hfd,hdl];omega)]
    simp only[spl,Nat.zero_mul,List.take_zero,List.nil_append,Nat.zero_add]
    rw[hfd,hdl]
   ·have hlg:=Aa hg
    have e8:0+(rows.length-k)=rows.length-k:=by omega
    rw[e8]
    simp -dsimp (disch:=first|omega|(simp only[go_sem,seval];try omega))only[go_sem,seval]
    have e9:slo 0 cap (rows.length-k) 1=rows.length-k:=by unfold slo;rw[if_neg (by omega)];omega
    have e10:rows.length-(rows.length-k)=k:=by omega
    rw[e9,e10]
    have hzk:(Bg [Value.slice none 0 0] k).length=k:=by rw[Ko];simp
    refine RP (zs:=[Value.slice none 0 0]) (x':=.cells ((rows.drop k).flatMap Rw.f++(Bg [Value.slice none 0 0] k++cur.toList.drop rows.length)).toArray 57) Xe.2.2.2.2.1 (by omega) ?_ ?_ ?_
    ·have:∀n,AP (Bg [Value.slice none 0 0] n)=true:=by
      intro n
      induction n with
      | zero=>rfl
      | succ n ih=>rw[Fv];simp only[AP,List.all_append,Bool.and_eq_true];exact⟨rfl,ih⟩
     exact this k
    ·rw[Gx,Au _ _ _ _ rfl hlg,CW,if_pos (by rw[hzk];simp [hfd];omega),E3,hzk]
     have hN:((rows.drop k).flatMap Rw.f).length=rows.length-k:=by rw[hfd,hdl]
     generalize (rows.drop k).flatMap Rw.f=N at hN ⊢
     rw[←hN,List.take_left,List.append_assoc,←List.drop_drop,List.drop_left,List.drop_drop,hN]
     rw[show rows.length-k+k=rows.length by omega]
    ·have hN:((rows.drop k).flatMap Rw.f).length=rows.length-k:=by rw[hfd,hdl]
     have hcc:Chg [g] w (Ab (Ab w g (.cells ((rows.drop k).flatMap Rw.f++cur.toList.drop (rows.length-k)).toArray 57)).drew g (.cells ((rows.drop k).flatMap Rw.f++(Bg [Value.slice none 0 0] k++cur.toList.drop rows.length)).toArray 57)):=((Chg.refl _ _).set _ _ (.inl (by simp))).drew.set _ _ (.inl (by simp))
     refine hK _ _ ⟨⟨by rw[hfd,Nat.mul_one],.inr ⟨g,cap,_,by rw[hdl],hb,Au _ _ _ _ rfl (by rw[World.size_drew,Dv];exact hlg),by rw[hdl];omega,h2,?_,?_⟩⟩,?_,rfl⟩
     ·simp [hfd,hzk];omega
     ·rw[hdl,Nat.mul_one]
      show((rows.drop k).flatMap Rw.f++_).take _=_
      rw[←hN,List.take_left]
     ·exact hcc
theorem Vn {w:World} {g:Gr} (hg:g.ok) {e:Option TypeId} {a:Option Addr} (hs:SxC w e a g.cs) (cap:Nat) (hcap:g.cs.length≤cap) {y:Nat} (hy:y<g.h):Calls Tryz.prog 116 #[g.val a cap,.int .i64 y] w
  (Ac fun v w'=>Ox w.heap.size w' 167 4 Cel.cells v (g.row y)∧Chg [] w w'):=by
 have hh1:=hg.h1
 have hw1:=hg.w1
 have hrl:=hg.row_len hy
 obtain⟨b,o,_,_,_,_,_,rfl,hb0,_⟩:=hs.at_ hg.ne
 clear hb0
 apply SC
 intro K hK
 unfold L2
 simp -dsimp (disch:=first|omega|(simp only[go_sem,seval];try omega))only[go_sem,seval,Gr.val]
 have hc0:=AE w (.cells #[.int .i64 g.w,.int .i64 g.h,.slice (some ⟨b,o,none⟩) g.cs.length cap] 59)
 have hg0:(w.alloc (.cells #[.int .i64 g.w,.int .i64 g.h,.slice (some ⟨b,o,none⟩) g.cs.length cap] 59)).heap[w.heap.size]?=some (.cells #[.int .i64 g.w,.int .i64 g.h,.slice (some ⟨b,o,none⟩) g.cs.length cap] 59):=by simp -dsimp (disch:=first|omega|(simp only[go_sem,seval];try omega))only[go_sem,seval]
 generalize w.alloc (.cells #[.int .i64 g.w,.int .i64 g.h,.slice (some ⟨b,o,none⟩) g.cs.length cap] 59)=w0 at hc0 hg0 ⊢
 refine Join1.cut (fun v w'=>v=.bool false∧Chg [] w0 w') ?_ ?_
 ·simp -dsimp (disch:=first|omega|(simp only[go_sem,seval];try omega))only[go_sem,seval,hg0]
  refine OpX.call Yv rfl (Calls.ret (SX hg (some ⟨b,o,none⟩) cap) ?_)
  rintro v w1 ⟨rfl,hc1⟩
  have hg1:=hc1.keep hg0 (by simp)
  simp -dsimp (disch:=first|omega|(simp only[go_sem,seval];try omega))only[go_sem,seval]
  refine BrW.dec (fun h=>by omega) (fun _=>?_)
  simp -dsimp (disch:=first|omega|(simp only[go_sem,seval];try omega))only[go_sem,seval,hg1]
  exact⟨by simp;omega,hc1⟩
 ·rintro v w1 ⟨rfl,hc1⟩
  have hg1:=hc1.keep hg0 (by simp)
  simp -dsimp (disch:=first|omega|(simp only[go_sem,seval];try omega))only[go_sem,seval,hg1]
  refine OpX.call Fk rfl (Calls.ret (EP (w:=w1) hg b o cap hcap y hy) ?_)
  rintro v w2 ⟨rfl,hc2⟩
  have hc02:=(hc0.trans0 hc1).trans0 hc2
  have hs2:SxC w2 e (some ⟨b,o+y*g.w*4,none⟩) (g.row y):=Sx.sub (hs.chg0 hc02) Cel.len (y*g.w) g.w _ (.inr (.inr rfl))
  have hcl:=KL hs2 g.w (by omega)
  rw[hrl] at hcl
  refine OpX.call Lu rfl (Calls.ret (hcl) ?_)
  rintro v w3 ⟨ho3,hc3⟩
  exact hK _ _ ⟨ho3.base_le hc02.size,hc02.trans0 hc3⟩
theorem SAt.setGv {w w':World} {s:Nat} {M:Scm} (h:SAt w s M) (hc:Chg M.gv.ownBlock.toList w w') {v':Value} {rows':List Rw} (ho:Ox 0 w' 57 1 Rw.f v' rows') (hr:∀r∈rows',SxC w' (some 167) r.a r.cs)
  (hf:∀r∈rows',∀b o,r.a=some ⟨b,o,none⟩→r.cs≠[]→b≠M.b0∧b≠M.b1) (hv:∀b∈v'.ownBlock.toList,b∈M.gv.ownBlock.toList∨w.heap.size≤b) :
  Did w s M (Ab w' s ({ M with S:={ M.S with gone:=rows'.map Rw.cs },gv:=v',rows:=rows' }:Scm).obj) { M.S with gone:=rows'.map Rw.cs }:=by
 have hn:=h.s_ne
 have hb':=hc.keep h.hb h.s_own
 have h0':=hc.keep h.h0 h.b_own.1
 have h1':=hc.keep h.h1 h.b_own.2
 have hl:=Aa hb'
 have hb2:=hb'
 unfold Scm.obj at hb2
 have hs2:Chg [s] w' (Ab w' s ({ M with S:={ M.S with gone:=rows'.map Rw.cs },gv:=v',rows:=rows' }:Scm).obj):=(Chg.refl _ _).set _ _ (by simp)
 refine⟨_,⟨Au _ _ _ _ rfl hl,hs2.keep h0' (by simp;omega),h.k0,hs2.keep h1' (by simp;omega),h.k1,h.ne,h.tl,?_,?_,hf,rfl⟩,rfl,(hc.mono (fun x hx=>.inl (by simp [Scm.blk] at hx ⊢;simp [hx]))).trans hs2 (by simp),?_⟩
 ·exact ho.chg hs2 fun b hb hm=>by
   simp at hm;subst hm
   exact ho.off hb2 rfl hb.symm
 ·exact fun r hr'=>(hr r hr').chg hs2 fun b o ha hne=>by
   simp;exact(hr r hr').ne ha hne hb2 rfl
 ·intro b hb
  simp only[Scm.blk,List.mem_cons] at hb ⊢
  rcases hb with rfl|rfl|hb
  ·exact .inl (.inl rfl)
  ·exact .inl (.inr (.inl rfl))
  ·exact(hv b hb).imp (fun h=>.inr (.inr h)) id
theorem Ot {w:World} {s:Nat} {M:Scm} (h:SAt w s M) (ok:M.S.ok) (n:Int):Calls Tryz.prog 208 #[.pointer (some ⟨s,0,none⟩),.int .i64 n] w (Ac fun _ w'=>Did w s M w' (M.S.up n)):=by
 have hb:=h.hb
 have tl:=h.tl
 have hwi:=GB M.S.alt
 have fh:=ok.fh
 have h1:=ok.h1
 have hg0:=ok.g0
 apply WI
 intro K hK
 unfold Lr
 refine Join0.cut (fun w'=>Did w s M w' (M.S.keep n)) ?_ ?_
 ·refine Join1.cut (fun v w'=>v=.bool (decide (M.S.top=0∧M.S.alt=false))∧w=w') ?_ ?_
  ·simp -dsimp (disch:=first|omega|(simp only[go_sem,seval];try omega))only[go_sem,seval,hb]
   refine BrW.dec (fun h2=>?_) (fun h2=>?_)
   ·simp -dsimp (disch:=first|omega|(simp only[go_sem,seval];try omega))only[go_sem,seval,hb]
    refine congrArg Value.bool (decide_eq_decide.2 ?_)
    have hw0:BZ M.S.alt=0↔M.S.alt=false:=by cases M.S.alt<;>decide
    rw[hw0]
    exact⟨fun h3=>⟨by omega,h3⟩,fun h3=>h3.2⟩
   ·exact⟨congrArg Value.bool (decide_eq_false (by omega)).symm,rfl⟩
  ·rintro v w1 ⟨rfl,rfl⟩
   unfold Scr.keep
   by_cases hk:M.S.top=0∧M.S.alt=false
   ·rw[decide_eq_true hk,if_pos hk]
    simp -dsimp (disch:=first|omega|(simp only[go_sem,seval];try omega))only[go_sem,seval,hb]
    have ha:=hk.2
    have hrl:=fun(y:Nat) (hy:y<M.S.fin)=>hg0.ok.row_len (y:=y) (by rw[hg0.h];omega)
    have hgw:=hg0.ok.w1
    obtain⟨m,hm⟩:∃m,m=(min n (M.S.fin:Int)).toNat:=⟨_,rfl⟩
    rw[←hm]
    refine Loop1.st (fun st:Nat × Scm=>.int .i64 st.1) (fun st w'=>st.1≤m∧SAt w' s st.2∧st.2.S={ M.S with gone:=M.S.gone++(List.range st.1).map M.S.g0.row }∧Chg (s::M.blk) w w'∧∀b∈st.2.blk,b∈M.blk∨w.heap.size≤b) (fun st=>m-st.1) (0,M) rfl ⟨by simp,h,by simp,Chg.refl _ _,fun b hb=>.inl hb⟩ ?_
    rintro next ⟨y,M1⟩ w2 hn ⟨hy,hA,hS,hc,hbl⟩
    dsimp only at hy hA hS hbl ⊢
    have hb2:=hA.hb
    have hl2:=Aa hb2
    have tl2:=hA.tl
    have hrn:M1.rows.length=M.S.gone.length+y:=by
     have:=hA.gone
     rw[hS] at this
     have:=congrArg List.length this
     simp at this
     omega
    have hgl:=ok.gl
    simp -dsimp (disch:=first|omega|(simp only[go_sem,seval];try omega))only[go_sem,seval]
    refine BrW.dec (fun h2=>?_) (fun h2=>?_)
    ·have hyf:y<M.S.fin:=by omega
     have hg1:M1.S.g0=M.S.g0:=by rw[hS]
     simp -dsimp (disch:=first|omega|(simp only[go_sem,seval];try omega))only[go_sem,seval,hb2]
     have hs0:SxC w2.drew (some 167) (some ⟨M1.b0,0,none⟩) M1.S.g0.cs:=⟨fun _=>⟨M1.b0,0,_,_,_,[],M1.p0,rfl,(show w2.drew.heap[M1.b0]?=_ from hA.h0),by simp [BR],by simp,rfl⟩⟩
     have hgr:=Vn (w:=w2.drew) (g:=M1.S.g0) (by rw[hg1];exact hg0.ok) hs0 M1.c0 hA.k0 (y:=y) (by rw[hg1,hg0.h];omega)
     refine OpX.call Zj rfl (Calls.ret (hgr) ?_)
     rintro v w3 ⟨ho3,hc3⟩
     have hA3:=(hA.chg0 (Chg.refl _ _).drew).chg0 hc3
     have hb3:=hA3.hb
     have hz3:=hc3.size
     have hrl1:(M1.S.g0.row y).length≤200:=by rw[hg1,hrl y hyf];exact hgw
     obtain⟨a3,cap3,rfl,-,hs3,hblk3,hfm3⟩:=ho3.form
     obtain⟨ga,gc,hgv,-⟩:=hA.own.form
     simp -dsimp (disch:=first|omega|(simp only[go_sem,seval];try omega))only[go_sem,seval,hb3]
     have hs4:Sx (w3.alloc (.cells #[.slice a3 (M1.S.g0.row y).length cap3] 57)) (some 57) Rw.f (some ⟨w3.heap.size,0,none⟩) [⟨a3,cap3,M1.S.g0.row y⟩]:=Sx.built (c:=[.slice a3 (M1.S.g0.row y).length cap3]) (by simp -dsimp (disch:=first|omega|(simp only[go_sem,seval];try omega))only[go_sem,seval]) rfl
     have hc4:=AE w3 (.cells #[.slice a3 (M1.S.g0.row y).length cap3] 57)
     have hb4:=(hA3.chg0 hc4).hb
     have hl4:=Aa hb4
     simp -dsimp (disch:=first|omega|(simp only[go_sem,seval];try omega))only[go_sem,seval,hb4]
     generalize w3.alloc _=w4 at hs4 hc4 hb4 hl4 ⊢
     have hA4:=hA3.chg0 hc4
     have hc24:Chg [] w2 w4:=((Chg.refl _ _).drew.trans0 hc3).trans0 hc4
     refine BL (f:=Rw.f) (l2:=[⟨a3,cap3,M1.S.g0.row y⟩]) H5 Rw.len Rw.ok hA4.own hs4 rfl (by simp;omega) (by omega) (by omega) ?_
     intro v' w5 ho5 hc5 hat
     have hb5:=hc5.keep hb4 hA4.s_own
     have hl5:=Aa hb5
     obtain⟨a5,c5,rfl,-⟩:=ho5.form
     have hp:=M1.wGv (.slice a5 (M1.rows++[(⟨a3,cap3,M1.S.g0.row y⟩:Rw)]).length c5) (M1.rows++[⟨a3,cap3,M1.S.g0.row y⟩]) ((M1.rows++[(⟨a3,cap3,M1.S.g0.row y⟩:Rw)]).map Rw.cs) tl2
     simp -dsimp (disch:=first|omega|(simp only[go_sem,seval];try omega))only[go_sem,seval,hb5,hp]
     have hown:∀b o,a3=some ⟨b,o,none⟩→M1.S.g0.row y≠[]→w2.heap.size≤b:=by
      intro b o hab hne
      obtain⟨g',hg',hge,-⟩:=hfm3 hne
      rw[hab] at hg'
      simp at hg'
      have:w2.drew.heap.size=w2.heap.size:=rfl
      omega
     have hlt2:=hA.lt
     have hs5:SxC w5 (some 167) a3 (M1.S.g0.row y):=(hs3.chg0 hc4).chg hc5 fun b o hab hne hm=>by
      have:=hown b o hab hne
      have:=hlt2 b (by simp only[List.mem_cons,Scm.blk];exact .inr (.inr (.inr hm)))
      omega
     obtain⟨M2,hA',hS',hc',hbl'⟩:=hA4.setGv hc5 ho5 (by
      intro r hr
      rcases List.mem_append.1 hr with hr|hr
      ·exact(hA4.rows r hr).chg hc5 fun b o hab hne=>(hA4.row_ne r hr b o hab hne).2
      ·simp at hr;subst hr;exact hs5) (by
      intro r hr b o hab hne
      rcases List.mem_append.1 hr with hr|hr
      ·exact hA4.far r hr b o hab hne
      ·simp at hr;subst hr
       have h9:=hown b o hab hne
       have h10:=hlt2 M1.b0 (by simp [Scm.blk])
       have h11:=hlt2 M1.b1 (by simp [Scm.blk])
       omega) (by
      intro b hb'
      rcases hat with h9|h9
      ·rw[h9] at hb';exact .inl hb'
      ·rw[h9] at hb';simp at hb';exact .inr (by omega))
     refine hn (y+1,M2) _ ⟨by dsimp only;omega,hA',?_,?_,?_⟩ (by dsimp only;omega)
     ·dsimp only
      rw[hS',hS]
      have hgr':M1.rows.map Rw.cs=M.S.gone++(List.range y).map M.S.g0.row:=by rw[←hA.gone,hS]
      simp only[List.map_append,List.map_cons,List.map_nil,hgr',List.range_succ,List.append_assoc]
     ·have h12:Chg (s::M.blk) w w4:=hc.trans0 hc24
      exact h12.trans hc' fun x hx=>by
       rcases List.mem_cons.1 hx with rfl|hx
       ·exact .inl (by simp)
       ·exact(hbl x hx).imp (fun h=>by simp [h]) id
     ·intro b hb'
      rcases hbl' b hb' with h9|h9
      ·exact hbl b h9
      ·have:=hc.size;have:=hc24.size;exact .inr (by omega)
    ·have hym:y=m:=by omega
     subst hym
     obtain⟨ga,gc,hgv,-⟩:=hA.own.form
     have e5:max ((M1.rows.length:Int)-500) 0=((M1.rows.length-500:Nat):Int):=by omega
     have hm60:y≤60:=by omega
     simp -dsimp (disch:=first|omega|(simp only[go_sem,seval];try omega))only[go_sem,seval,hb2,hgv,e5]
     have hA3:=hA.chg0 (Chg.refl _ _).drew
     have hsd:=Sf hA3.own (k:=M1.rows.length-500) (by omega) (by omega)
     rw[hgv] at hsd
     refine OpX.call Xc rfl (Calls.ret (hsd) ?_)
     rintro v' w4 ⟨ho4,hc4,hown4⟩
     rw[←hgv] at hc4 hown4
     have hb4:=hc4.keep hA3.hb hA3.s_own
     have hl4:=Aa hb4
     obtain⟨a5,c5,rfl,-⟩:=ho4.form
     have hp:=M1.wGv (.slice a5 (M1.rows.drop (M1.rows.length-500)).length c5) (M1.rows.drop (M1.rows.length-500)) ((M1.rows.drop (M1.rows.length-500)).map Rw.cs) tl2
     simp -dsimp (disch:=first|omega|(simp only[go_sem,seval];try omega))only[go_sem,seval,hb4,hp]
     have hd:=hA3.setGv hc4 ho4 (by
      intro r hr
      have hr:=List.mem_of_mem_drop hr
      exact(hA3.rows r hr).chg hc4 fun b o hab hne=>(hA3.row_ne r hr b o hab hne).2) (fun r hr=>hA3.far r (List.mem_of_mem_drop hr)) (by
      intro b hb'
      rw[hown4] at hb'
      exact .inl hb')
     have hgr':M1.rows.map Rw.cs=M.S.gone++(List.range y).map M.S.g0.row:=by rw[←hA.gone,hS]
     have hlat:(M1.rows.drop (M1.rows.length-500)).map Rw.cs=DJ (M.S.gone++(List.range y).map M.S.g0.row):=by
      unfold DJ
      rw[←hgr',List.length_map,List.map_drop]
     obtain⟨M2,x1,x2,x3,x4⟩:=hd
     rw[hlat] at x1 x2 x3 ⊢
     have hc2:Chg (s::M1.blk) w2 w2.drew:=(Chg.refl _ _).drew
     exact Did.trans hc hbl (Did.trans hc2 (fun b hb=>.inl hb) ⟨M2,x1,by rw[x2,hS],x3,x4⟩)
   ·rw[decide_eq_false hk,if_neg hk]
    simp -dsimp (disch:=first|omega|(simp only[go_sem,seval];try omega))only[go_sem,seval]
    exact Did.refl h
 ·rintro w1 ⟨M1,hA1,hS1,hc1,hbl1⟩
  have ok1:=(ok.keep (n:=n)).ok
  rw[←hS1] at ok1
  have ht:M1.S.top=M.S.top:=by rw[hS1];unfold Scr.keep;split<;>rfl
  have hb1:=hA1.hb
  simp -dsimp (disch:=first|omega|(simp only[go_sem,seval];try omega))only[go_sem,seval,hb1]
  refine OpX.call FA rfl (Calls.ret (GA hA1 ok1 M1.S.top n) ?_)
  rintro v w2 hd
  rw[ht,hS1] at hd
  exact hK _ _ (Did.trans hc1 hbl1 hd)
theorem Gp {w:World} {s:Nat} {M:Scm} (h:SAt w s M) (ok:M.S.ok):Calls Tryz.prog 178 #[.pointer (some ⟨s,0,none⟩)] w (Ac fun _ w'=>Did w s M w' M.S.below):=by
 have hb:=h.hb
 have hl:=Aa hb
 have tl:=h.tl
 have fh:=ok.fh
 have h1:=ok.h1
 have tf:=ok.tf
 have ny:=ok.ny
 apply R4
 intro K hK
 unfold Le
 unfold Scr.below at hK
 simp -dsimp (disch:=first|omega|(simp only[go_sem,seval];try omega))only[go_sem,seval,hb]
 refine BrW.dec (fun h2=>?_) (fun h2=>?_)
 ·rw[if_pos (by omega)] at hK
  refine OpX.call Mm rfl (Calls.ret (Ot (h.chg0 (Chg.refl _ _).drew) ok 1) ?_)
  rintro v w1 hd
  exact hK _ _ (Did.trans (M1:=M) (Chg.refl _ _).drew (fun b hb=>.inl hb) hd)
 ·rw[if_neg (by omega)] at hK
  simp -dsimp (disch:=first|omega|(simp only[go_sem,seval];try omega))only[go_sem,seval,hb]
  refine BrW.dec (fun h3=>?_) (fun h3=>?_)
  ·rw[if_pos (by omega)] at hK
   have e:(M.S.now.y:Int)+1=((M.S.now.y+1:Nat):Int):=by omega
   simp -dsimp (disch:=first|omega|(simp only[go_sem,seval];try omega))only[go_sem,seval,hb,e]
   exact hK _ _ (Did.trans0 (Did.set h (Chg.refl _ _) (fun b hb=>.inl hb) _ rfl rfl tl rfl) (Chg.refl _ _).drew.drew)
  ·rw[if_neg (by omega)] at hK
   exact hK _ _ (Did.trans0 (Did.refl h) (Chg.refl _ _).drew.drew)
theorem ZM {w:World} {s:Nat} {M:Scm} (h:SAt w s M) (ok:M.S.ok):Calls Tryz.prog 184 #[.pointer (some ⟨s,0,none⟩)] w (Ac fun _ w'=>Did w s M w' M.S.above):=by
 have hb:=h.hb
 have hl:=Aa hb
 have tl:=h.tl
 have fh:=ok.fh
 have h1:=ok.h1
 have tf:=ok.tf
 have ny:=ok.ny
 apply RJ
 intro K hK
 unfold Ns
 unfold Scr.above at hK
 simp -dsimp (disch:=first|omega|(simp only[go_sem,seval];try omega))only[go_sem,seval,hb]
 refine BrW.dec (fun h2=>?_) (fun h2=>?_)
 ·rw[if_pos (by omega)] at hK
  simp -dsimp (disch:=first|omega|(simp only[go_sem,seval];try omega))only[go_sem,seval,hb]
  refine OpX.call FA rfl (Calls.ret (GA (h.chg0 (Chg.refl _ _).drew) ok M.S.top (-1)) ?_)
  rintro v w1 hd
  exact hK _ _ (Did.trans (M1:=M) (Chg.refl _ _).drew (fun b hb=>.inl hb) hd)
 ·rw[if_neg (by omega)] at hK
  simp -dsimp (disch:=first|omega|(simp only[go_sem,seval];try omega))only[go_sem,seval,hb]
  refine BrW.dec (fun h3=>?_) (fun h3=>?_)
  ·rw[if_pos (by omega)] at hK
   have e:(M.S.now.y:Int)-1=((M.S.now.y-1:Nat):Int):=by omega
   simp -dsimp (disch:=first|omega|(simp only[go_sem,seval];try omega))only[go_sem,seval,hb,e]
   exact hK _ _ (Did.trans0 (Did.set h (Chg.refl _ _) (fun b hb=>.inl hb) _ rfl rfl tl rfl) (Chg.refl _ _).drew)
  ·rw[if_neg (by omega)] at hK
   exact hK _ _ (Did.trans0 (Did.refl h) (Chg.refl _ _).drew)
theorem VP (x:BitVec 8):((x &&& 63#8 ||| 64#8) &&& 191#8) ||| 128#8=(x &&& 63#8) ||| 128#8:=by
 apply BitVec.eq_of_getLsbD_eq
 intro i hi
 have:i=0∨i=1∨i=2∨i=3∨i=4∨i=5∨i=6∨i=7:=by omega
 rcases this with rfl|rfl|rfl|rfl|rfl|rfl|rfl|rfl<;>simp
theorem Wz (w:World) (r:Int) (p:Cel):Calls Tryz.prog 182 #[.int .i32 r,p.val] w (Ac fun v w'=>Ox w.heap.size w' 167 4 Cel.cells v (Co r p)∧Chg [] w w'):=by
 apply TD
 intro K hK
 unfold J3
 simp -dsimp (disch:=first|omega|(simp only[go_sem,seval];try omega))only[go_sem,seval]
 have hc1:=((Chg.refl [] w).alloc (.cells p.cells.toArray 167)).alloc (.cells #[.int .i32 r,.int .u8 p.fg.toNat,.int .u8 p.bg.toNat,.int .u8 (p.a &&& 63#8).toNat] 167)
 have hh:((w.alloc (.cells p.cells.toArray 167)).alloc (.cells #[.int .i32 r,.int .u8 p.fg.toNat,.int .u8 p.bg.toNat,.int .u8 (p.a &&& 63#8).toNat] 167)).heap[w.heap.size+1]?=some (.cells #[.int .i32 r,.int .u8 p.fg.toNat,.int .u8 p.bg.toNat,.int .u8 (p.a &&& 63#8).toNat] 167):=by simp -dsimp (disch:=first|omega|(simp only[go_sem,seval];try omega))only[go_sem,seval]
 refine OpX.gen fun w1 hw1=>?_
 have hz:(w.alloc (.cells #[.int .i32 p.r,.int .u8 p.fg.toNat,.int .u8 p.bg.toNat,.int .u8 p.a.toNat] 167)).heap.size=w.heap.size+1:=by simp -dsimp (disch:=first|omega|(simp only[go_sem,seval];try omega))only[go_sem,seval]
 rw[hz]
 replace hw1:=hw1.symm
 simp only[Cel.cells] at hh hc1
 rw[hw1] at hh hc1
 clear hw1
 refine OpX.call Gy rfl (Calls.ret (FX _ r) ?_)
 rintro v w2 ⟨rfl,hc2⟩
 have hh2:=hc2.keep hh (by simp)
 have hc3:=hc1.trans0 hc2
 clear hh hc1 hc2
 have hl:=Aa hh2
 simp -dsimp (disch:=first|omega|(simp only[go_sem,seval];try omega))only[go_sem,seval,hh2]
 refine BrW.dec (fun h4=>?_) (fun h4=>?_)
 ·simp -dsimp (disch:=first|omega|(simp only[go_sem,seval];try omega))only[go_sem,seval,hh2]
  refine hK _ _ ⟨?_,hc3.alloc _⟩
  have e:Co r p=[⟨r,p.fg,p.bg,p.a &&& 63#8⟩]:=by simp [Co,h4]
  rw[e]
  exact Ox.built (c:=[.int .i32 r,.int .u8 p.fg.toNat,.int .u8 p.bg.toNat,.int .u8 (p.a &&& 63#8).toNat]) (by simp -dsimp (disch:=first|omega|(simp only[go_sem,seval];try omega))only[go_sem,seval]) Cel.len hc3.size rfl rfl (by omega) rfl
 ·simp -dsimp (disch:=first|omega|(simp only[go_sem,seval];try omega))only[go_sem,seval]
  refine BrW.dec (fun h5=>?_) (fun h5=>?_)
  ·simp -dsimp (disch:=first|omega|(simp only[go_sem,seval];try omega))only[go_sem,seval,hh2]
   have hc4:=(hc3.set (w.heap.size+1) (.cells #[.int .i32 r,.int .u8 p.fg.toNat,.int .u8 p.bg.toNat,.int .u8 ((p.a &&& 63#8) ||| 64#8).toNat] 167) (.inr (by omega))).drew
   have hh4:(Ab w2 (w.heap.size+1) (.cells #[.int .i32 r,.int .u8 p.fg.toNat,.int .u8 p.bg.toNat,.int .u8 ((p.a &&& 63#8) ||| 64#8).toNat] 167)).drew.heap[w.heap.size+1]?=some (.cells #[.int .i32 r,.int .u8 p.fg.toNat,.int .u8 p.bg.toNat,.int .u8 ((p.a &&& 63#8) ||| 64#8).toNat] 167):=by simp -dsimp (disch:=first|omega|(simp only[go_sem,seval];try omega))only[go_sem,seval]
   refine OpX.gen fun w3 hw3=>?_
   rw[←hw3] at hc4 hh4
   refine OpX.call JQ rfl (Calls.ret (Lq _ ⟨r,p.fg,p.bg,(p.a &&& 63#8) ||| 64#8⟩) ?_)
   rintro v w4 ⟨rfl,hc5⟩
   have hh5:=hc5.keep hh4 (by simp)
   have hc6:=hc4.trans0 hc5
   simp -dsimp (disch:=first|omega|(simp only[go_sem,seval];try omega))only[go_sem,seval,hh5]
   refine hK _ _ ⟨?_,hc6.alloc _⟩
   have e:Co r p=[⟨r,p.fg,p.bg,(p.a &&& 63#8) ||| 64#8⟩,⟨0,p.fg,p.bg,(p.a &&& 63#8) ||| 128#8⟩]:=by simp [Co,h5]
   rw[e]
   exact Ox.built (c:=[.int .i32 r,.int .u8 p.fg.toNat,.int .u8 p.bg.toNat,.int .u8 ((p.a &&& 63#8) ||| 64#8).toNat,.int .i32 0,.int .u8 p.fg.toNat,.int .u8 p.bg.toNat,.int .u8 ((p.a &&& 63#8) ||| 128#8).toNat]) (by simp -dsimp (disch:=first|omega|(simp only[go_sem,seval];try omega))only[go_sem,seval,Cel.tailOf,VP]) Cel.len hc6.size rfl rfl (by omega) rfl
  ·refine hK _ _ ⟨?_,hc3⟩
   have e:Co r p=[]:=by simp [Co,h4,h5]
   rw[e];exact Ox.nil _ _ _ _ _
theorem Did.keep {w w':World} {s:Nat} {M:Scm} {T:Scr} (h:Did w s M w' T) {b:Nat} {o:Obj} (hb:w.heap[b]?=some o) (hn:b∉s::M.blk):w'.heap[b]?=some o:=by
 obtain⟨M',hA,hS,hc,hbl⟩:=h
 exact hc.keep hb hn
theorem F2 {s x n:Nat} {M M':Scm} (hb:∀b∈M'.blk,b∈M.blk∨n≤b) (hn:x∉s::M.blk) (hx:x<n):x∉s::M'.blk:=fun hm=>by
 rcases List.mem_cons.1 hm with e|hm
 ·exact hn (by rw[e];simp)
 ·rcases hb _ hm with hm|hm
  ·exact hn (List.mem_cons_of_mem _ hm)
  ·omega
theorem Vm (r:Int) (p:Cel):(Co r p).length≤2:=by unfold Co;split<;>(try split)<;>simp
theorem QD {w:World} {s:Nat} {M:Scm} (h:SAt w s M) (ok:M.S.ok) {bp br:Nat} {r:Int} (hp:w.heap[bp]?=some (.cells #[.pointer (some ⟨s,0,none⟩)] 155)) (hr:w.heap[br]?=some (.cells #[.int .i32 r] 21)) :
  H4 (.func (.func 180) #[] #[.pointer (some ⟨bp,0,none⟩),.pointer (some ⟨br,0,none⟩)]) w s M (fun g=>g.put M.S.now.x 0 (Co r M.S.now.pen)):=by
 intro w2 g b o cap hc2 hg hcap hs
 refine Bd.of (us:=[]) (cs:=[_,_]) Zu ?_
 have hp2:=hc2.keep hp (by simp)
 have hr2:=hc2.keep hr (by simp)
 have hA2:=h.chg0 hc2
 have hb2:=hA2.hb
 have hlp:=Aa hp2
 have hlr:=Aa hr2
 have hls:=Aa hb2
 have nx:=ok.nx
 have w1:=ok.w1
 have w1b:=hg.ok.w1
 have h1b:=hg.ok.h1
 apply US
 intro K hK
 unfold KQ
 simp -dsimp (disch:=first|omega|(simp only[go_sem,seval];try omega))only[go_sem,seval,Gr.val,hb2,hp2,hr2]
 have hc3:Chg [] w2 (((w2.alloc (.cells #[.int .i64 g.w,.int .i64 g.h,.slice (some ⟨b,o,none⟩) g.cs.length cap] 59)).alloc (.cells #[.int .i64 0,.int .i64 0,.slice none 0 0] 59)).drew):=(Cm _ _ _).drew
 have hg3:(((w2.alloc (.cells #[.int .i64 g.w,.int .i64 g.h,.slice (some ⟨b,o,none⟩) g.cs.length cap] 59)).alloc (.cells #[.int .i64 0,.int .i64 0,.slice none 0 0] 59)).drew).heap[w2.heap.size]?=some (.cells #[.int .i64 g.w,.int .i64 g.h,.slice (some ⟨b,o,none⟩) g.cs.length cap] 59):=by simp -dsimp (disch:=first|omega|(simp only[go_sem,seval];try omega))only[go_sem,seval]
 have ho3:(((w2.alloc (.cells #[.int .i64 g.w,.int .i64 g.h,.slice (some ⟨b,o,none⟩) g.cs.length cap] 59)).alloc (.cells #[.int .i64 0,.int .i64 0,.slice none 0 0] 59)).drew).heap[w2.heap.size+1]?=some (.cells #[.int .i64 0,.int .i64 0,.slice none 0 0] 59):=by simp -dsimp (disch:=first|omega|(simp only[go_sem,seval];try omega))only[go_sem,seval]
 have hz3:(w2.alloc (.cells #[.int .i64 g.w,.int .i64 g.h,.slice (some ⟨b,o,none⟩) g.cs.length cap] 59)).heap.size=w2.heap.size+1:=by simp -dsimp (disch:=first|omega|(simp only[go_sem,seval];try omega))only[go_sem,seval]
 rw[hz3]
 generalize (World.alloc _ _).drew=w3 at hc3 hg3 ho3 ⊢
 have hlo:=Aa ho3
 refine OpX.call R2 rfl (Calls.ret (Wz _ r M.S.now.pen) ?_)
 rintro v w4 ⟨hv,hc4⟩
 obtain⟨a,cp,rfl,k1,k2,k3,k4⟩:=hv.form
 have hc5:=hc3.trans0 hc4
 have hp4:=hc5.keep hp2 (by simp)
 have hb4:=hc5.keep hb2 (by simp)
 have hg4:=hc4.keep hg3 (by simp)
 have ho4:=hc4.keep ho3 (by simp)
 simp -dsimp (disch:=first|omega|(simp only[go_sem,seval];try omega))only[go_sem,seval,hp4,hb4,hg4]
 refine OpX.call Pr rfl (Calls.ret (Q6 (X:=M.S.now.x) (Y:=0) hg.ok hg.r (hs.chg0 hc5) cap hcap k2 cp (by have:=Vm r M.S.now.pen;omega) (by omega) (by omega)) ?_)
 rintro v w5 ⟨⟨nb,cap',sp,rfl,q1,q2,q3⟩,hc6⟩
 have ho5:=hc6.keep ho4 (by simp)
 have hc7:=hc5.trans0 hc6
 have hz:=hc5.size
 have hz4:=hc4.size
 have hlo5:=Aa ho5
 have hnb:=Aa q3
 simp -dsimp (disch:=first|omega|(simp only[go_sem,seval];try omega))only[go_sem,seval,Gr.val,ho5]
 refine hK _ _ ⟨⟨nb,cap',sp,rfl,q1,by omega,?_⟩,hc7.set _ _ (.inr (by omega))⟩
 simp -dsimp (disch:=first|omega|(simp only[go_sem,seval];try omega))only[go_sem,seval]
 exact q3
theorem Px {w:World} {s:Nat} {M:Scm} (h:SAt w s M) (ok:M.S.ok) (r:Int):Calls Tryz.prog 135 #[.pointer (some ⟨s,0,none⟩),.int .i32 r] w (Ac fun _ w'=>Did w s M w' (M.S.print r)):=by
 have hlt:=h.lt
 apply Q8
 intro K hK
 unfold OT
 simp -dsimp (disch:=first|omega|(simp only[go_sem,seval];try omega))only[go_sem,seval]
 refine OpX.gen fun w1 hw1=>?_
 have hz:(w.alloc (.cells #[.pointer (some ⟨s,0,none⟩)] 155)).heap.size=w.heap.size+1:=by simp -dsimp (disch:=first|omega|(simp only[go_sem,seval];try omega))only[go_sem,seval]
 rw[hz]
 have hc1:Chg [] w w1:=by rw[hw1];exact Cm _ _ _
 have hp1:w1.heap[w.heap.size]?=some (.cells #[.pointer (some ⟨s,0,none⟩)] 155):=by rw[hw1];simp -dsimp (disch:=first|omega|(simp only[go_sem,seval];try omega))only[go_sem,seval]
 have hr1:w1.heap[w.heap.size+1]?=some (.cells #[.int .i32 r] 21):=by rw[hw1];simp -dsimp (disch:=first|omega|(simp only[go_sem,seval];try omega))only[go_sem,seval]
 clear hw1
 refine OpX.call Gy rfl (Calls.ret (FX _ r) ?_)
 rintro v w2 ⟨rfl,hc2⟩
 replace hp1:=hc2.keep hp1 (by simp)
 replace hr1:=hc2.keep hr1 (by simp)
 replace hc1:=hc1.trans0 hc2
 clear hc2
 have hA:=h.chg0 hc1
 have hn1:w.heap.size∉s::M.blk:=fun hm=>by have:=hlt _ hm;omega
 have hn2:w.heap.size+1∉s::M.blk:=fun hm=>by have:=hlt _ hm;omega
 have hb:=hA.hb
 have hwd:=Ja r
 have w1b:=ok.w1
 have nx:=ok.nx
 have tl:=ok.tl
 have hls:=Aa h.hb
 have hlp:=Aa hp1
 have hlr:=Aa hr1
 refine Join1.cut (fun v w'=>v=.bool (decide (Ba r=0∨(M.S.w:Int)<Ba r))∧w2=w') ?_ ?_
 ·simp -dsimp (disch:=first|omega|(simp only[go_sem,seval];try omega))only[go_sem,seval]
  refine BrW.dec (fun h2=>?_) (fun h2=>?_)
  ·exact⟨by simp [h2],rfl⟩
  ·simp -dsimp (disch:=first|omega|(simp only[go_sem,seval];try omega))only[go_sem,seval,hp1,hb]
   simp [h2]
 ·rintro v w3 ⟨rfl,rfl⟩
  unfold Scr.print at hK
  refine BrW.dec (fun h2=>?_) (fun h2=>?_)
  ·rw[if_pos h2] at hK
   exact hK _ _ (Did.trans (hc1.mono (by simp)) (fun b hb=>.inl hb) (Did.refl hA))
  ·rw[if_neg h2] at hK
   obtain⟨n,hn⟩:∃n,n=(Ba r).toNat:=⟨_,rfl⟩
   have hnw:Ba r=(n:Int):=by omega
   rw[←hn] at hK
   rw[hnw] at h2 hwd ⊢
   clear hn hnw
   refine Join0.cut (fun w'=>Did w2 s M w' M.S.wrapped) ?_ ?_
   ·unfold Scr.wrapped
    simp -dsimp (disch:=first|omega|(simp only[go_sem,seval];try omega))only[go_sem,seval,hp1,hb]
    refine BrW.by (fun hw=>?_) (fun hw=>?_)
    ·rw[if_pos hw]
     simp -dsimp (disch:=first|omega|(simp only[go_sem,seval];try omega))only[go_sem,seval,hp1,hb]
     refine OpX.call Ga rfl (Calls.ret (Gp (hA.set (M.S.at 0 M.S.now.y) rfl rfl tl rfl) (ok.at ok.w0 ok.ny).ok) ?_)
     rintro v w3 hd
     exact Did.trans (M1:={ M with S:=M.S.at 0 M.S.now.y }) ((Chg.refl _ _).set _ _ (.inl (by simp))) (fun b hb=>.inl hb) hd
    ·rw[if_neg (by simp [hw])]
     exact Did.refl hA
   ·intro w3 hd3
    replace hp1:=hd3.keep hp1 hn1
    replace hr1:=hd3.keep hr1 hn2
    obtain⟨M3,hA3,hS3,hc3,hbl3⟩:=hd3
    have ok3:M3.S.ok:=by rw[hS3];exact ok.wrapped.ok
    have hw3:M3.S.w=M.S.w:=by rw[hS3];exact ok.wrapped.w
    have hb3:=hA3.hb
    have tl3:=hA3.tl
    have nx3:=ok3.nx
    have hz3:=hc3.size
    refine Join0.cut (fun w'=>Did w3 s M3 w' (M3.S.roomFor n)) ?_ ?_
    ·unfold Scr.roomFor
     have e1:(M3.S.now.x:Int)+(n:Int)=((M3.S.now.x+n:Nat):Int):=by omega
     simp -dsimp (disch:=first|omega|(simp only[go_sem,seval];try omega))only[go_sem,seval,hp1,hb3,e1]
     refine BrW.dec (fun h4=>?_) (fun h4=>?_)
     ·rw[if_pos (by omega)]
      simp -dsimp (disch:=first|omega|(simp only[go_sem,seval];try omega))only[go_sem,seval,hp1,hb3]
      refine BrW.by (fun hw=>?_) (fun hw=>?_)
      ·rw[if_pos hw]
       simp -dsimp (disch:=first|omega|(simp only[go_sem,seval];try omega))only[go_sem,seval,hp1,hb3]
       refine OpX.call Ga rfl (Calls.ret (Gp ((hA3.chg0 (Chg.refl _ _).drew).set (M3.S.at 0 M3.S.now.y) rfl rfl tl3 rfl) (ok3.at ok3.w0 ok3.ny).ok) ?_)
       rintro v w4 hd
       exact Did.trans (M1:={ M3 with S:=M3.S.at 0 M3.S.now.y }) ((Chg.refl _ _).drew.set _ _ (.inl (by simp))) (fun b hb=>.inl hb) hd
      ·rw[if_neg (by simp [hw])]
       have e2:(M3.S.w:Int)-(n:Int)=((M3.S.w-n:Nat):Int):=by omega
       simp -dsimp (disch:=first|omega|(simp only[go_sem,seval];try omega))only[go_sem,seval,hp1,hb3,e2]
       exact Did.set (hA3.chg0 (Chg.refl _ _).drew.drew) (Chg.refl _ _).drew.drew (fun b hb=>.inl hb) (M3.S.at (M3.S.w-n) M3.S.now.y) rfl rfl tl3 rfl
     ·rw[if_neg (by omega)]
      exact Did.trans0 (Did.refl hA3) (Chg.refl _ _).drew
    ·intro w4 hd4
     have hn1':=F2 hbl3 hn1 (by omega)
     have hn2':=F2 hbl3 hn2 (by omega)
     replace hp1:=hd4.keep hp1 hn1'
     replace hr1:=hd4.keep hr1 hn2'
     have hn4:0<n:=by omega
     have hrf:=ok3.roomFor (n:=n) hn4 (by omega)
     obtain⟨M4,hA4,hS4,hc4,hbl4⟩:=hd4
     have ok4:M4.S.ok:=by rw[hS4];exact hrf.1.ok
     have hfit:M4.S.now.x+n≤M4.S.w:=by rw[hS4,hrf.1.w];exact hrf.2
     have hn1':=F2 hbl4 hn1' (by omega)
     rw[←hS3,←hS4] at hK
     have hb4:=hA4.hb
     simp -dsimp (disch:=first|omega|(simp only[go_sem,seval];try omega))only[go_sem,seval,hp1,hb4]
     refine OpX.call HZ rfl (Calls.ret (HC hA4 ok4 (QD hA4 ok4 hp1 hr1) (fun _ hg=>hg.put)) ?_)
     rintro v w5 hd5
     replace hp1:=hd5.keep hp1 hn1'
     obtain⟨M5,hA5,hS5,hc5,hbl5⟩:=hd5
     have hb5:=hA5.hb
     have tl5:=hA5.tl
     have hz4:=hc4.size
     have hz5:=hc5.size
     have hx5:M5.S.now=M4.S.now:=by rw[hS5];exact D3 _
     have hw5:M5.S.w=M4.S.w:=by rw[hS5];exact(ok4.line fun _ hg=>hg.put).w
     have hr5:M5.S.wraps=M4.S.wraps:=by rw[hS5];unfold Scr.line Scr.setCur;cases M4.S.alt<;>rfl
     have e1:(M5.S.now.x:Int)+(n:Int)=((M5.S.now.x+n:Nat):Int):=by omega
     have hx200:M5.S.now.x+n≤M5.S.w∧M5.S.w≤200:=by rw[hx5,hw5];exact⟨hfit,ok4.w1⟩
     simp -dsimp (disch:=first|omega|(simp only[go_sem,seval];try omega))only[go_sem,seval,hp1,hb5,e1]
     refine BrW.dec (fun h6=>?_) (fun h6=>?_)
     ·have e2:(M5.S.w:Int)-1=((M5.S.w-1:Nat):Int):=by have:=ok4.w0;omega
      simp -dsimp (disch:=first|omega|(simp only[go_sem,seval];try omega))only[go_sem,seval,hp1,hb5,e2]
      have e:M4.S.lay r n={ M5.S.at (M5.S.w-1) M5.S.now.y with waits:=M5.S.wraps }:=by
       unfold Scr.lay
       rw[if_pos (by rw[←hx5,←hw5];omega),hx5,hw5,hr5,hS5]
      rw[e] at hK
      exact hK _ _ (Did.trans (hc1.mono (by simp)) (fun b hb=>.inl hb) (Did.trans hc3 hbl3 (Did.trans hc4 hbl4 (Did.trans hc5 hbl5 (Did.trans0 (Did.set hA5 (Chg.refl _ _) (fun b hb=>.inl hb) _ rfl rfl tl5 rfl) (Chg.refl _ _).drew.drew.drew)))))
     ·have e:M4.S.lay r n={ M5.S.at (M5.S.now.x+n) M5.S.now.y with waits:=false }:=by
       unfold Scr.lay
       rw[if_neg (by rw[←hx5,←hw5];omega),hx5,hS5]
      rw[e] at hK
      exact hK _ _ (Did.trans (hc1.mono (by simp)) (fun b hb=>.inl hb) (Did.trans hc3 hbl3 (Did.trans hc4 hbl4 (Did.trans hc5 hbl5 (Did.trans0 (Did.set hA5 (Chg.refl _ _) (fun b hb=>.inl hb) _ rfl rfl tl5 rfl) (Chg.refl _ _).drew)))))
def CE (k:Nat):List Bool:=(List.range 200).map fun x=>decide (x % 8=0∧8≤x∧x<8*k+8)
theorem Eo (k:Nat):(CE k).length=200:=by unfold CE;rw[List.length_map,List.length_range]
theorem Fu (k i:Nat) (h:i<(CE k).length):(CE k)[i]=decide (i % 8=0∧8≤i∧i<8*k+8):=by simp only[CE,List.getElem_map,List.getElem_range]
theorem Q2:CE 0=List.replicate 200 false:=by
 apply List.ext_getElem
 ·rw[Eo,List.length_replicate]
 ·intro i h1 h2
  rw[Fu,List.getElem_replicate]
  exact decide_eq_false (by omega)
theorem Ks:CE 24=DS:=by
 apply List.ext_getElem
 ·rw[Eo,HD]
 ·intro i h1 h2
  rw[Eo] at h1
  rw[Fu]
  simp only[DS,List.getElem_map,List.getElem_range]
  exact decide_eq_decide.2 ⟨fun h=>⟨h.1,h.2.1⟩,fun h=>⟨h.1,h.2,by omega⟩⟩
theorem Wh {k:Nat} (hk:k<24):(CE k).set (8*k+8) true=CE (k+1):=by
 apply List.ext_getElem
 ·rw[List.length_set,Eo,Eo]
 ·intro i h1 h2
  rw[Fu,List.getElem_set]
  split
  ·exact(decide_eq_true (by omega)).symm
  ·rw[Fu];exact decide_eq_decide.2 (by omega)
def Scr.bare (W H:Nat) (k:Nat) (g:List (List Cel)):Scr:=⟨W,H,Gr.plain W H Cel.blank,Gr.plain W H Cel.blank,.zero,.zero,false,.zero,0,H,CE k,true,false,true,g⟩
def Bj (W H:Nat) (a b:List Value) (gv:Value):List Value :=
 [(.int .i64 W:Value),.int .i64 H]++a++b++[(.int .i64 0:Value),.int .i64 0,.int .i32 0,.int .u8 0,.int .u8 0,.int .u8 0,.int .i64 0,.int .i64 0,.int .i32 0,.int .u8 0,.int .u8 0,.int .u8 0,.int .i64 0,.int .i64 0,.int .i64 0,.int .i32 0,.int .u8 0,.int .u8 0,.int .u8 0,.int .i64 0,.int .i64 H]++List.replicate 200 (.bool false)++[.bool true,.bool false,.bool true,gv]
def Be:List Value:=[.int .i64 0,.int .i64 0,.slice none 0 0]
theorem PH (W H:Nat) (gv:Value) {a b:List Value} (ha:a.length=3) (hb:b.length=3):(Bj W H a b gv).length=233:=by unfold Bj;simp only[List.length_append,List.length_replicate,List.length_cons,List.length_nil,ha,hb]
theorem ZS (W H b0 c0 b1 c1:Nat) (p0 p1:List Value) (gv:Value) (rows:List Rw) (g:List (List Cel)) :
  (⟨Scr.bare W H 0 g,b0,c0,p0,b1,c1,p1,gv,rows⟩:Scm).cells=Bj W H [.int .i64 W,.int .i64 H,.slice (some ⟨b0,0,none⟩) (Gr.plain W H Cel.blank).cs.length c0] [.int .i64 W,.int .i64 H,.slice (some ⟨b1,0,none⟩) (Gr.plain W H Cel.blank).cs.length c1] gv:=by
 unfold Scm.cells Scm.end Scr.bare
 dsimp only
 rw[Q2,List.map_replicate]
 rfl
@[go_sem] theorem eI (W H:Nat) (a b:List Value) (gv:Value):(Bj W H a b gv)[0]?=some (.int .i64 W):=rfl
@[go_sem] theorem cn (W H:Nat) (a b:List Value) (gv:Value):(Bj W H a b gv)[1]?=some (.int .i64 H):=rfl
theorem Vw (W H:Nat) {a b vs:List Value} (gv:Value) (T:TypeId) (ha:a.length=3) (hv:vs.length=3):Az (some (.cells (Bj W H a b gv).toArray T)) 2 vs=some (.cells (Bj W H vs b gv).toArray T):=by
 have:=fun post=>DC [(.int .i64 W:Value),.int .i64 H] a vs post T 2 rfl (by omega)
 unfold Bj
 rw[List.append_assoc ([(.int .i64 W:Value),.int .i64 H]++a),List.append_assoc ([(.int .i64 W:Value),.int .i64 H]++a),List.append_assoc ([(.int .i64 W:Value),.int .i64 H]++a),List.append_assoc ([(.int .i64 W:Value),.int .i64 H]++vs),List.append_assoc ([(.int .i64 W:Value),.int .i64 H]++vs),List.append_assoc ([(.int .i64 W:Value),.int .i64 H]++vs)]
 exact this _
theorem VL (W H:Nat) {a b vs:List Value} (gv:Value) (T:TypeId) (ha:a.length=3) (hb:b.length=3) (hv:vs.length=3):Az (some (.cells (Bj W H a b gv).toArray T)) 5 vs=some (.cells (Bj W H a vs gv).toArray T):=by
 have:=fun post=>DC ([(.int .i64 W:Value),.int .i64 H]++a) b vs post T 5 (by simp [ha]) (by omega)
 unfold Bj
 rw[List.append_assoc ([(.int .i64 W:Value),.int .i64 H]++a++b),List.append_assoc ([(.int .i64 W:Value),.int .i64 H]++a++b),List.append_assoc ([(.int .i64 W:Value),.int .i64 H]++a++vs),List.append_assoc ([(.int .i64 W:Value),.int .i64 H]++a++vs)]
 exact this _
theorem K6 (W H:Nat) (c:Cel):(Gr.plain W H c).w=W:=rfl
theorem JM (W H:Nat) (c:Cel):(Gr.plain W H c).h=H:=rfl
theorem VI {c vs:List Value} {T:TypeId} (h:vs.length=c.length):Az (some (.cells c.toArray T)) 0 vs=some (.cells vs.toArray T):=by
 have:=DC [] c vs [] T 0 rfl h
 simpa using this
section
attribute [-go_sem] GF EM
theorem N9 {w:World} {s:Nat} {c:List Value} {gv:Value} {rows:List Rw} {W H:Nat} (hb:w.heap[s]?=some (.cells c.toArray 236)) (hl:c.length=233)
  (h0:c[0]?=some (.int .i64 W)) (h1:c[1]?=some (.int .i64 H)) (h2:c[232]?=some gv) (W0:0<W) (W1:W≤200) (H0:0<H) (H1:H≤60)
  (own:Ox 0 w 57 1 Rw.f gv rows) (hr:∀r∈rows,SxC w (some 167) r.a r.cs) :
  Calls Tryz.prog 171 #[.pointer (some ⟨s,0,none⟩)] w (Ac fun _ w'=>∃M':Scm,SAt w' s M'∧M'.S=Scr.bare W H 24 (rows.map Rw.cs)∧M'.gv=gv∧Chg [s] w w'∧w.heap.size≤M'.b0∧w.heap.size≤M'.b1):=by
 have hls:=Aa hb
 have r0:Av (some (.cells c.toArray 236)) 0=some (.int .i64 W):=by rw[←h0];simp [Av]
 have r1:Av (some (.cells c.toArray 236)) 1=some (.int .i64 H):=by rw[←h1];simp [Av]
 have r2:Av (some (.cells c.toArray 236)) 232=some gv:=by rw[←h2];simp [Av]
 obtain⟨ga,gc,rfl,-,-,-,-⟩:=own.form
 apply ZI
 intro K hK
 unfold Ju
 simp -dsimp (disch:=first|omega|(simp only[go_sem,seval];try omega))only[go_sem,seval,hb,r0,r1,r2]
 refine OpX.build (c:=(Bj W H Be Be (.slice ga rows.length gc)).toArray) (by kernel_rfl) ?_
 have hp:Az (some (.cells c.toArray 236)) 0 (Bj W H Be Be (.slice ga rows.length gc))=some (.cells (Bj W H Be Be (.slice ga rows.length gc)).toArray 236):=VI (by rw[PH _ _ _ rfl rfl,hl])
 simp -dsimp (disch:=first|omega|(simp only[go_sem,seval];try omega))only[go_sem,seval]
 rw[DZ _ _ _ _ _ _ _ (by kernel_rfl) (by kernel_rfl)]
 change StX _ _ _ _ _ _ (Az w.heap[s]? 0 (Bj W H Be Be (.slice ga rows.length gc))) _ _
 rw[hb,hp,D4]
 refine Loop1.st (fun k:Nat=>.int .i64 k) (fun k w'=>(k=0∧w'=Ab w.drew s (.cells (Bj W H Be Be (.slice ga rows.length gc)).toArray 236))∨(k=1∧Chg [s] w w'∧∃nb cap sp,w'.heap[s]?=some (.cells (Bj W H [.int .i64 W,.int .i64 H,.slice (some ⟨nb,0,none⟩) (Gr.plain W H Cel.blank).cs.length cap] Be (.slice ga rows.length gc)).toArray 236)∧(Gr.plain W H Cel.blank).cs.length≤cap∧w.heap.size≤nb∧w'.heap[nb]?=some (.cells ((Gr.plain W H Cel.blank).cs.flatMap Cel.cells++sp).toArray 167))∨(k=2∧Chg [s] w w'∧∃M',SAt w' s M'∧M'.S=Scr.bare W H 0 (rows.map Rw.cs)∧M'.gv=(.slice ga rows.length gc)∧w.heap.size≤M'.b0∧w.heap.size≤M'.b1)) (fun k=>2-k) 0 rfl (.inl ⟨rfl,rfl⟩) ?_
 rintro next k w1 hn hI
 rcases hI with ⟨rfl,rfl⟩|⟨rfl,hc,nb,cap,sp,q1,q2,q3,q4⟩|⟨rfl,hc,M1,hA,hS,hg,q1,q2⟩
 ·simp -dsimp (disch:=first|omega|(simp only[go_sem,seval];try omega))only[go_sem,seval]
  refine OpX.call EG rfl (Calls.ret (EO _ W H W0 W1 H0 H1) ?_)
  rintro v w2 ⟨⟨nb,cap,sp,rfl,q1,q2,q3⟩,hc2⟩
  have hb1:((Ab w s (.cells (Bj W H Be Be (.slice ga rows.length gc)).toArray 236)).drew.drew).heap[s]?=some (.cells (Bj W H Be Be (.slice ga rows.length gc)).toArray 236):=by simp -dsimp (disch:=first|omega|(simp only[go_sem,seval];try omega))only[go_sem,seval]
  have hc1:Chg [s] w ((Ab w s (.cells (Bj W H Be Be (.slice ga rows.length gc)).toArray 236)).drew.drew):=((Chg.refl _ _).set _ _ (by simp)).drew.drew
  have hz:=hc1.size
  have hb2:=hc2.keep hb1 (by simp)
  have hls2:=Aa hb2
  have p2:=Vw W H (a:=Be) (b:=Be) (vs:=[.int .i64 W,.int .i64 H,.slice (some ⟨nb,0,none⟩) (Gr.plain W H Cel.blank).cs.length cap]) (.slice ga rows.length gc) 236 rfl rfl
  simp -dsimp (disch:=first|omega|(simp only[go_sem,seval];try omega))only[go_sem,seval,Gr.val,hb2,K6,JM,p2]
  refine hn 1 _ (.inr (.inl ⟨rfl,(hc1.trans0 hc2).set _ _ (by simp),nb,cap,sp,?_,q1,by omega,?_⟩)) (by omega)
  ·simp -dsimp (disch:=first|omega|(simp only[go_sem,seval];try omega))only[go_sem,seval]
  ·simp -dsimp (disch:=first|omega|(simp only[go_sem,seval];try omega))only[go_sem,seval]
   exact q3
 ·have hls1:=Aa q1
  simp -dsimp (disch:=first|omega|(simp only[go_sem,seval];try omega))only[go_sem,seval,q1]
  refine OpX.call EG rfl (Calls.ret (EO _ W H W0 W1 H0 H1) ?_)
  rintro v w2 ⟨⟨nb2,cap2,sp2,rfl,r1,r2,r3⟩,hc2⟩
  have hc1:Chg [s] w w1.drew:=hc.drew
  have hz:=hc1.size
  have hb2:=hc2.keep (show w1.drew.heap[s]?=_ from q1) (by simp)
  have hg2:=hc2.keep (show w1.drew.heap[nb]?=_ from q4) (by simp)
  have hls2:=Aa hb2
  have hl4:=Aa q4
  have p5:=VL W H (a:=[.int .i64 W,.int .i64 H,.slice (some ⟨nb,0,none⟩) (Gr.plain W H Cel.blank).cs.length cap]) (b:=Be) (vs:=[.int .i64 W,.int .i64 H,.slice (some ⟨nb2,0,none⟩) (Gr.plain W H Cel.blank).cs.length cap2]) (.slice ga rows.length gc) 236 rfl rfl rfl
  simp -dsimp (disch:=first|omega|(simp only[go_sem,seval];try omega))only[go_sem,seval,Gr.val,hb2,K6,JM,p5]
  have hc3:=(hc1.trans0 hc2).set s (.cells (Bj W H [.int .i64 W,.int .i64 H,.slice (some ⟨nb,0,none⟩) (Gr.plain W H Cel.blank).cs.length cap] [.int .i64 W,.int .i64 H,.slice (some ⟨nb2,0,none⟩) (Gr.plain W H Cel.blank).cs.length cap2] (.slice ga rows.length gc)).toArray 236) (by simp)
  refine hn 2 _ (.inr (.inr ⟨rfl,hc3,⟨Scr.bare W H 0 (rows.map Rw.cs),nb,cap,sp,nb2,cap2,sp2,.slice ga rows.length gc,rows⟩,⟨?_,?_,q2,?_,r1,?_,Eo 0,?_,?_,?_,rfl⟩,rfl,rfl,q3,by show _≤nb2;simp at r2;omega⟩)) (by omega)
  ·unfold Scm.obj
   rw[ZS]
   simp -dsimp (disch:=first|omega|(simp only[go_sem,seval];try omega))only[go_sem,seval]
  ·simp -dsimp (disch:=first|omega|(simp only[go_sem,seval];try omega))only[go_sem,seval]
   exact hg2
  ·simp at r2
   simp -dsimp (disch:=first|omega|(simp only[go_sem,seval];try omega))only[go_sem,seval]
   exact r3
  ·simp at r2
   show nb≠nb2
   omega
  ·exact own.chg hc3 (fun b hb' hm=>by
    rw[List.mem_singleton.1 hm] at hb'
    exact own.off hb rfl hb'.symm)
  ·exact fun r hr'=>(hr r hr').chg hc3 (fun b o ha hne hm=>(hr r hr').ne ha hne hb rfl (List.mem_singleton.1 hm))
  ·intro r hr' b o ha hne
   have:=(hr r hr').lt hne ha
   simp at r2
   exact⟨by show b≠nb;omega,by show b≠nb2;omega⟩
 ·simp -dsimp (disch:=first|omega|(simp only[go_sem,seval];try omega))only[go_sem,seval]
  refine Loop1.st (fun k:Nat=>.int .i64 ((8*k+8:Nat):Int)) (fun k w'=>k≤24∧Chg [s] w w'∧∃M',SAt w' s M'∧M'.S=Scr.bare W H k (rows.map Rw.cs)∧M'.gv=(.slice ga rows.length gc)∧w.heap.size≤M'.b0∧w.heap.size≤M'.b1) (fun k=>24-k) 0 rfl ⟨by omega,hc,M1,hA,hS,hg,q1,q2⟩ ?_
  clear hc hA hS hg q1 q2 hn M1 w1
  rintro next k w1 hn ⟨hk,hc,M1,hA,hS,hg,q1,q2⟩
  have hb1:=hA.hb
  have tl:=hA.tl
  simp -dsimp (disch:=first|omega|(simp only[go_sem,seval];try omega))only[go_sem,seval,hb1]
  refine BrW.dec (fun h4=>?_) (fun h4=>?_)
  ·have e1:((8*k+8:Nat):Int)+8=((8*(k+1)+8:Nat):Int):=by omega
   have e2:(((8*k+8:Nat):Int)).toNat=8*k+8:=by omega
   simp -dsimp (disch:=first|omega|(simp only[go_sem,seval];try omega))only[go_sem,seval,hb1,e1,e2]
   refine hn (k+1) _ ⟨by omega,hc.set _ _ (by simp),_,hA.set { M1.S with tabs:=M1.S.tabs.set (8*k+8) true } rfl rfl (by rw[List.length_set];exact tl) rfl,?_,hg,q1,q2⟩ (by omega)
   show({ M1.S with tabs:=M1.S.tabs.set (8*k+8) true }:Scr)=_
   rw[hS]
   unfold Scr.bare
   dsimp only
   rw[Wh (by omega)]
  ·have hk':k=24:=by omega
   subst hk'
   exact hK _ _ ⟨M1,hA,hS,hg,hc,q1,q2⟩
end
theorem XT (S:Scr):S.renew=Scr.bare S.w S.h 24 S.gone:=by unfold Scr.renew Scr.bare;rw[Ks]
theorem ZY (W H:Nat):Scr.new W H=Scr.bare W H 24 []:=by unfold Scr.new Scr.bare;rw[Ks]
theorem VR {w:World} {s:Nat} {M:Scm} (h:SAt w s M) (ok:M.S.ok):Calls Tryz.prog 171 #[.pointer (some ⟨s,0,none⟩)] w (Ac fun _ w'=>Did w s M w' M.S.renew):=by
 refine Calls.mono (N9 (c:=M.cells) (gv:=M.gv) (rows:=M.rows) h.hb (M.cells_len h.tl) rfl rfl ?_ ok.w0 ok.w1 ok.h0 ok.h1 h.own h.rows) ?_
 ·have:=M.rTail 203
  have e:=M.r232 h.tl
  simpa [Scm.obj,Av] using e
 ·intro v w' hv
  cases v with
  | returned v=>?_
  | _=>exact hv
  obtain⟨M',hA,hS,hg,hc,q1,q2⟩:=hv
  refine⟨M',hA,?_,hc.mono (by simp),?_⟩
  ·rw[hS,XT,h.gone]
  ·intro b hb
   simp only[Scm.blk,List.mem_cons] at hb ⊢
   rcases hb with rfl|rfl|hb
   ·exact .inr q1
   ·exact .inr q2
   ·rw[hg] at hb;exact .inl (.inr (.inr hb))
theorem Did.calm {w w1:World} {s:Nat} {M:Scm} {T:Scr} (h:Did w s M w1 T):∃M1:Scm,w1.heap[s]?=some M1.obj∧M1.S=T∧M1.S.tabs.length=200∧Did w s M (Ab w1 s ({ M1 with S:={ M1.S with waits:=false } }:Scm).obj) T.calm:=by
 obtain⟨M1,hA,hS,hc,hb⟩:=h
 refine⟨M1,hA.hb,hS,hA.tl,?_⟩
 have:=Did.set hA hc hb M1.S.calm rfl rfl hA.tl rfl
 rw[hS] at this
 rw[←hS] at this ⊢
 exact this
theorem Qs {w:World} {s:Nat} {M:Scm} (h:SAt w s M) (ok:M.S.ok) (r:Int):Calls Tryz.prog 136 #[.pointer (some ⟨s,0,none⟩),.int .i32 r] w (Ac fun _ w'=>Did w s M w' (M.S.ctl r)):=by
 have hb:=h.hb
 have hl:=Aa hb
 have tl:=h.tl
 have w1b:=ok.w1
 have w0:=ok.w0
 have nx:=ok.nx
 apply SU
 intro K hK
 unfold IQ
 refine Join0.cut (fun w'=>∃T,Did w s M w' T∧M.S.ctl r=T.calm) ?_ ?_
 ·simp -dsimp (disch:=first|omega|(simp only[go_sem,seval];try omega))only[go_sem,seval]
  unfold Scr.ctl
  unfold Scr.ctl at hK
  refine BrW.dec (fun h2=>?_) (fun h2=>?_)
  ·subst h2
   have e1:max ((M.S.now.x:Int)-1) 0=((M.S.now.x-1:Nat):Int):=by omega
   simp -dsimp (disch:=first|omega|(simp only[go_sem,seval];try omega))only[go_sem,seval,hb,e1]
   exact⟨_,Did.set h (Chg.refl _ _) (fun b hb=>.inl hb) (M.S.at (M.S.now.x-1) M.S.now.y) rfl rfl tl rfl,rfl⟩
  ·rw[if_neg h2]
   rw[if_neg h2] at hK
   simp -dsimp (disch:=first|omega|(simp only[go_sem,seval];try omega))only[go_sem,seval]
   refine BrW.dec (fun h3=>?_) (fun h3=>?_)
   ·rw[if_pos h3]
    have e1:(M.S.now.x:Int)+1=((M.S.now.x+1:Nat):Int):=by omega
    simp -dsimp (disch:=first|omega|(simp only[go_sem,seval];try omega))only[go_sem,seval,hb,e1]
    refine Loop1.st (fun x:Nat=>.int .i64 (x:Int)) (fun x w'=>Chg [] w w'∧M.S.now.x+1≤x∧x≤M.S.w∧Dw M.S.tabs M.S.w (M.S.w-x) x=Dw M.S.tabs M.S.w (M.S.w-(M.S.now.x+1)) (M.S.now.x+1)) (fun x=>M.S.w-x) (M.S.now.x+1) rfl ⟨Chg.refl _ _,by omega,by omega,rfl⟩ ?_
    rintro next x w1 hn ⟨hc,k1,k2,k3⟩
    have hb1:=hc.keep hb (by simp)
    have hA1:=h.chg0 hc
    refine Join1.cut (fun v w'=>v=.bool (decide (x<M.S.w∧M.S.tabs.getD x false=false))∧w1=w') ?_ ?_
    ·simp -dsimp (disch:=first|omega|(simp only[go_sem,seval];try omega))only[go_sem,seval,hb1]
     refine BrW.dec (fun h4=>?_) (fun h4=>?_)
     ·simp -dsimp (disch:=first|omega|(simp only[go_sem,seval];try omega))only[go_sem,seval,hb1]
      refine congrArg Value.bool ?_
      have:x<M.S.w:=by omega
      simp [this]
     ·exact⟨congrArg Value.bool (decide_eq_false (by omega)).symm,rfl⟩
    ·rintro v w2 ⟨rfl,rfl⟩
     refine BrW.dec (fun h4=>?_) (fun h4=>?_)
     ·have e2:(x:Int)+1=((x+1:Nat):Int):=by omega
      simp -dsimp (disch:=first|omega|(simp only[go_sem,seval];try omega))only[go_sem,seval,e2]
      refine hn (x+1) _ ⟨hc,by omega,by omega,?_⟩ (by omega)
      rw[←k3]
      obtain⟨k,hk⟩:∃k,M.S.w-x=k+1:=⟨M.S.w-x-1,by omega⟩
      rw[hk]
      conv=>rhs;unfold Dw
      rw[if_pos h4]
      congr 1
      omega
     ·have k4:Dw M.S.tabs M.S.w (M.S.w-x) x=x:=by
       rcases Nat.eq_zero_or_pos (M.S.w-x) with hk|hk
       ·rw[hk];rfl
       ·obtain⟨k,hk⟩:∃k,M.S.w-x=k+1:=⟨M.S.w-x-1,by omega⟩
        rw[hk];unfold Dw;rw[if_neg h4]
      have e2:min (x:Int) ((M.S.w:Int)-1)=((min x (M.S.w-1):Nat):Int):=by omega
      simp -dsimp (disch:=first|omega|(simp only[go_sem,seval];try omega))only[go_sem,seval,hb1,e2]
      refine⟨_,Did.set hA1 (hc.mono (by simp)) (fun b hb=>.inl hb) (M.S.at (min x (M.S.w-1)) M.S.now.y) rfl rfl tl rfl,?_⟩
      unfold Scr.tab
      rw[←k3,k4]
   ·rw[if_neg h3]
    rw[if_neg h3] at hK
    refine Join1.cut (fun v w'=>v=.bool (decide (r=10∨r=11∨r=12))∧w=w') ?_ ?_
    ·simp -dsimp (disch:=first|omega|(simp only[go_sem,seval];try omega))only[go_sem,seval]
     refine BrW.dec (fun h4=>?_) (fun h4=>?_)
     ·exact⟨congrArg Value.bool (decide_eq_true (.inl h4)).symm,rfl⟩
     ·simp -dsimp (disch:=first|omega|(simp only[go_sem,seval];try omega))only[go_sem,seval]
      refine BrW.dec (fun h5=>?_) (fun h5=>?_)
      ·exact⟨congrArg Value.bool (decide_eq_true (.inr (.inl h5))).symm,rfl⟩
      ·simp -dsimp (disch:=first|omega|(simp only[go_sem,seval];try omega))only[go_sem,seval]
       simp [h4,h5]
    ·rintro v w2 ⟨rfl,rfl⟩
     refine BrW.dec (fun h4=>?_) (fun h4=>?_)
     ·rw[if_pos h4]
      refine OpX.call Ga rfl (Calls.ret (Gp h ok) ?_)
      rintro v w1 hd
      exact⟨_,hd,rfl⟩
     ·rw[if_neg h4]
      rw[if_neg h4] at hK
      simp -dsimp (disch:=first|omega|(simp only[go_sem,seval];try omega))only[go_sem,seval]
      refine BrW.dec (fun h5=>?_) (fun h5=>?_)
      ·rw[if_pos h5]
       simp -dsimp (disch:=first|omega|(simp only[go_sem,seval];try omega))only[go_sem,seval,hb]
       exact⟨_,Did.set h (Chg.refl _ _) (fun b hb=>.inl hb) (M.S.at 0 M.S.now.y) rfl rfl tl rfl,rfl⟩
      ·rw[if_neg h5] at hK
       exact hK _ _ (Did.refl h)
 ·rintro w1 ⟨T,hd,e⟩
  obtain⟨M1,hb1,hS,tl1,hd⟩:=hd.calm
  rw[e] at hK
  simp -dsimp (disch:=first|omega|(simp only[go_sem,seval];try omega))only[go_sem,seval,hb1]
  exact hK _ _ hd
theorem P5 {w:World} {s:Nat} {M:Scm} (h:SAt w s M) (ok:M.S.ok) (r:Int):Calls Tryz.prog 137 #[.pointer (some ⟨s,0,none⟩),.int .i32 r] w (Ac fun _ w'=>Did w s M w' (M.S.esc r)):=by
 have hb:=h.hb
 have hl:=Aa hb
 have tl:=h.tl
 have w1b:=ok.w1
 have w0:=ok.w0
 have nx:=ok.nx
 apply TE
 intro K hK
 unfold Jo
 refine Join0.cut (fun w'=>∃T,Did w s M w' T∧M.S.esc r=T.calm) ?_ ?_
 ·unfold Scr.esc
  unfold Scr.esc at hK
  refine Join0.cut (fun w'=>∃M1:Scm,SAt w' s M1∧M1.S.ok∧Chg (s::M.blk) w w'∧M1.blk=M.blk∧M.S.esc r=M1.S.below.calm) ?_ ?_
  ·simp -dsimp (disch:=first|omega|(simp only[go_sem,seval];try omega))only[go_sem,seval]
   refine BrW.dec (fun h1=>?_) (fun h1=>?_)
   ·rw[if_pos h1] at hK
    simp -dsimp (disch:=first|omega|(simp only[go_sem,seval];try omega))only[go_sem,seval]
    refine OpX.call IB rfl (Calls.ret (Ho h) ?_)
    rintro v w1 hd
    exact hK _ _ hd
   rw[if_neg h1] at hK ⊢
   simp -dsimp (disch:=first|omega|(simp only[go_sem,seval];try omega))only[go_sem,seval]
   refine BrW.dec (fun h2=>?_) (fun h2=>?_)
   ·rw[if_pos h2] at hK
    simp -dsimp (disch:=first|omega|(simp only[go_sem,seval];try omega))only[go_sem,seval,hb]
    exact hK _ _ (Did.trans0 (Did.set h (Chg.refl _ _) (fun b hb=>.inl hb) { M.S with tabs:=M.S.tabs.set M.S.now.x true } rfl rfl (by rw[List.length_set];exact tl) rfl) (Chg.refl _ _).drew)
   rw[if_neg h2] at hK ⊢
   simp -dsimp (disch:=first|omega|(simp only[go_sem,seval];try omega))only[go_sem,seval]
   refine BrW.dec (fun h3=>?_) (fun h3=>?_)
   ·simp -dsimp (disch:=first|omega|(simp only[go_sem,seval];try omega))only[go_sem,seval,hb]
    refine⟨_,h.set (M.S.at 0 M.S.now.y) rfl rfl tl rfl,(ok.at w0 ok.ny).ok,(Chg.refl _ _).set _ _ (by simp),rfl,?_⟩
    unfold Scr.esc
    rw[if_neg h1,if_neg h2,if_pos h3]
   rw[if_neg h3] at hK ⊢
   simp -dsimp (disch:=first|omega|(simp only[go_sem,seval];try omega))only[go_sem,seval]
   refine BrW.dec (fun h4=>?_) (fun h4=>?_)
   ·refine⟨_,h,ok,Chg.refl _ _,rfl,?_⟩
    unfold Scr.esc
    rw[if_neg h1,if_neg h2,if_neg h3,if_pos h4]
   rw[if_neg h4] at hK ⊢
   simp -dsimp (disch:=first|omega|(simp only[go_sem,seval];try omega))only[go_sem,seval]
   refine BrW.dec (fun h5=>?_) (fun h5=>?_)
   ·rw[if_pos h5]
    simp -dsimp (disch:=first|omega|(simp only[go_sem,seval];try omega))only[go_sem,seval]
    refine OpX.call Q0 rfl (Calls.ret (ZM h ok) ?_)
    rintro v w1 hd
    exact⟨_,hd,rfl⟩
   rw[if_neg h5] at hK ⊢
   simp -dsimp (disch:=first|omega|(simp only[go_sem,seval];try omega))only[go_sem,seval]
   refine BrW.dec (fun h6=>?_) (fun h6=>?_)
   ·rw[if_pos h6]
    simp -dsimp (disch:=first|omega|(simp only[go_sem,seval];try omega))only[go_sem,seval]
    refine OpX.call G9 rfl (Calls.ret (H3 h) ?_)
    rintro v w1 hd
    exact⟨_,hd,rfl⟩
   rw[if_neg h6] at hK ⊢
   simp -dsimp (disch:=first|omega|(simp only[go_sem,seval];try omega))only[go_sem,seval]
   refine BrW.dec (fun h7=>?_) (fun h7=>?_)
   ·rw[if_pos h7]
    simp -dsimp (disch:=first|omega|(simp only[go_sem,seval];try omega))only[go_sem,seval]
    refine OpX.call OA rfl (Calls.ret (VR h ok) ?_)
    rintro v w1 hd
    exact⟨_,hd,rfl⟩
   rw[if_neg h7] at hK
   exact hK _ _ (Did.refl h)
  ·rintro w1 ⟨M1,hA,ok1,hc,hbl,e⟩
   refine OpX.call Ga rfl (Calls.ret (Gp hA ok1) ?_)
   rintro v w2 hd
   refine⟨_,Did.trans hc (fun b hb=>.inl (by rw[←hbl];exact hb)) hd,?_⟩
   rw[←e];rfl
 ·rintro w1 ⟨T,hd,e⟩
  obtain⟨M1,hb1,hS,tl1,hd⟩:=hd.calm
  rw[e] at hK
  simp -dsimp (disch:=first|omega|(simp only[go_sem,seval];try omega))only[go_sem,seval,hb1]
  exact hK _ _ hd
theorem UU (b:Bool):(BZ b=0)=(b=false):=by cases b<;>simp [BZ]
theorem TH (b:Bool):(BZ b=1)=(b=true):=by cases b<;>simp [BZ]
theorem WS {w:World} {s:Nat} {M:Scm} (h:SAt w s M) (ok:M.S.ok) (n:Int) (on:Bool):Calls Tryz.prog 186 #[.pointer (some ⟨s,0,none⟩),.int .i64 n,.bool on] w (Ac fun _ w'=>Did w s M w' (M.S.mode n on)):=by
 have hb:=h.hb
 have hl:=Aa hb
 have tl:=h.tl
 apply RR
 intro K hK
 unfold OH
 unfold Scr.mode at hK
 simp -dsimp (disch:=first|omega|(simp only[go_sem,seval];try omega))only[go_sem,seval]
 refine BrW.dec (fun h1=>?_) (fun h1=>?_)
 ·rw[if_pos h1] at hK
  simp -dsimp (disch:=first|omega|(simp only[go_sem,seval];try omega))only[go_sem,seval,hb]
  refine Join0.inl ?_
  simp -dsimp (disch:=first|omega|(simp only[go_sem,seval];try omega))only[go_sem,seval,hb]
  refine BrW.by (fun h2=>?_) (fun h2=>?_)
  ·simp -dsimp (disch:=first|omega|(simp only[go_sem,seval];try omega))only[go_sem,seval,hb]
   rw[h2] at hK
   exact hK _ _ (Did.set h (Chg.refl _ _) (fun b hb=>.inl hb) { M.S with wraps:=on,waits:=true && on } rfl rfl tl rfl)
  ·simp -dsimp (disch:=first|omega|(simp only[go_sem,seval];try omega))only[go_sem,seval,hb]
   rw[h2] at hK
   exact hK _ _ (Did.set h (Chg.refl _ _) (fun b hb=>.inl hb) { M.S with wraps:=on,waits:=false } rfl rfl tl rfl)
 rw[if_neg h1] at hK
 simp -dsimp (disch:=first|omega|(simp only[go_sem,seval];try omega))only[go_sem,seval]
 refine BrW.dec (fun h2=>?_) (fun h2=>?_)
 ·rw[if_pos h2] at hK
  simp -dsimp (disch:=first|omega|(simp only[go_sem,seval];try omega))only[go_sem,seval,hb]
  exact hK _ _ (Did.set h (Chg.refl _ _) (fun b hb=>.inl hb) { M.S with shown:=on } rfl rfl tl rfl)
 rw[if_neg h2] at hK
 refine Join1.cut (fun v w'=>v=.bool (decide (n=47∨n=1047∨n=1049))∧w=w') ?_ ?_
 ·simp -dsimp (disch:=first|omega|(simp only[go_sem,seval];try omega))only[go_sem,seval]
  refine BrW.dec (fun h4=>?_) (fun h4=>?_)
  ·exact⟨congrArg Value.bool (decide_eq_true (.inl h4)).symm,rfl⟩
  ·simp -dsimp (disch:=first|omega|(simp only[go_sem,seval];try omega))only[go_sem,seval]
   refine BrW.dec (fun h5=>?_) (fun h5=>?_)
   ·exact⟨congrArg Value.bool (decide_eq_true (.inr (.inl h5))).symm,rfl⟩
   ·simp -dsimp (disch:=first|omega|(simp only[go_sem,seval];try omega))only[go_sem,seval]
    simp [h4,h5]
 rintro v w1 ⟨rfl,rfl⟩
 refine BrW.dec (fun h3=>?_) (fun h3=>?_)
 rotate_left
 ·rw[if_neg h3] at hK
  exact hK _ _ (Did.refl h)
 rw[if_pos h3] at hK
 refine Join1.cut (fun v w'=>v=.bool (decide (on=true∧M.S.alt=false))∧w=w') ?_ ?_
 ·simp -dsimp (disch:=first|omega|(simp only[go_sem,seval];try omega))only[go_sem,seval]
  refine BrW.by (fun h4=>?_) (fun h4=>?_)
  ·simp -dsimp (disch:=first|omega|(simp only[go_sem,seval];try omega))only[go_sem,seval,hb,UU]
   simp [h4]
  ·simp [h4]
 rintro v w1 ⟨rfl,rfl⟩
 refine BrW.dec (fun h4=>?_) (fun h4=>?_)
 ·rw[if_pos h4] at hK
  simp -dsimp (disch:=first|omega|(simp only[go_sem,seval];try omega))only[go_sem,seval]
  refine OpX.call IB rfl (Calls.ret (Ho h) ?_)
  rintro v w1 ⟨M1,hA1,hS1,hc1,hbl1⟩
  have hb1:=hA1.hb
  have hl1:=Aa hb1
  have tl1:=hA1.tl
  have ok1:M1.S.ok:=by rw[hS1];exact ok.save.ok
  rw[←hS1] at hK
  have hsz:M1.S.w=M.S.w∧M1.S.h=M.S.h:=by rw[hS1];exact⟨ok.save.w,ok.save.h⟩
  rw[←hsz.1,←hsz.2] at hK
  simp -dsimp (disch:=first|omega|(simp only[go_sem,seval];try omega))only[go_sem,seval,hb1]
  have hA2:=(hA1.set { M1.S with alt:=true } rfl rfl tl1 rfl).chg0 (Chg.refl _ _).drew
  refine OpX.call EG rfl (Calls.ret (EO _ M1.S.w M1.S.h ok1.w0 ok1.w1 ok1.h0 ok1.h1) ?_)
  rintro v w2 ⟨⟨nb,cap,sp,rfl,q1,q2,q3⟩,hc2⟩
  obtain⟨hA3,hc3,hbl3⟩:=hA2.newCur1 hc2 q1 q2 q3
  have hb2:=(hA2.chg0 hc2).hb
  have hl2:=Aa hb2
  have hp:=Scm.wG1 { M1 with S:={ M1.S with alt:=true } } (Gr.plain M1.S.w M1.S.h Cel.blank) nb cap sp tl1
  simp -dsimp (disch:=first|omega|(simp only[go_sem,seval];try omega))only[go_sem,seval,Gr.val,hb2,hp]
  have hd4:=Did.set hA3 hc3 hbl3 { M1.S with g1:=Gr.plain M1.S.w M1.S.h Cel.blank,alt:=true,waits:=false } rfl rfl tl1 rfl
  have hd5:=Did.trans hc1 hbl1 (Did.trans (M1:={ M1 with S:={ M1.S with alt:=true } }) ((Chg.refl _ _).set _ _ (.inl (by simp))).drew (fun b hb=>.inl hb) hd4)
  rw[W9] at hd5
  exact hK _ _ hd5
 rw[if_neg h4] at hK
 refine Join1.cut (fun v w'=>v=.bool (decide (on=false∧M.S.alt=true))∧w=w') ?_ ?_
 ·simp -dsimp (disch:=first|omega|(simp only[go_sem,seval];try omega))only[go_sem,seval]
  refine BrW.by (fun h5=>?_) (fun h5=>?_)
  ·simp -dsimp (disch:=first|omega|(simp only[go_sem,seval];try omega))only[go_sem,seval,hb,TH]
   simp at h5
   simp [h5]
  ·simp at h5
   simp [h5]
 rintro v w1 ⟨rfl,rfl⟩
 refine BrW.dec (fun h5=>?_) (fun h5=>?_)
 ·rw[if_pos h5] at hK
  simp -dsimp (disch:=first|omega|(simp only[go_sem,seval];try omega))only[go_sem,seval,hb]
  refine OpX.call G9 rfl (Calls.ret (H3 (h.set { M.S with alt:=false } rfl rfl tl rfl)) ?_)
  rintro v w1 hd
  exact hK _ _ (Did.trans (M1:={ M with S:={ M.S with alt:=false } }) ((Chg.refl _ _).set _ _ (.inl (by simp))) (fun b hb=>.inl hb) hd)
 ·rw[if_neg h5] at hK
  exact hK _ _ (Did.refl h)
theorem YP {w:World} {s:Nat} {M:Scm} (h:SAt w s M) (ok:M.S.ok) (t f:Int) (t0:0≤t) (t1:t≤1000000) (f0:0≤f) (f1:f≤9223372036854775807):Calls Tryz.prog 220 #[.pointer (some ⟨s,0,none⟩),.int .i64 t,.int .i64 f] w (Ac fun _ w'=>Did w s M w' (M.S.region t f)):=by
 have hb:=h.hb
 have hl:=Aa hb
 have tl:=h.tl
 have h0:=ok.h0
 have h1:=ok.h1
 apply VY
 intro K hK
 unfold Jh
 unfold Scr.region at hK
 dsimp only at hK
 refine Join1.cut (fun v w'=>v=.int .i64 (if f=0∨(M.S.h:Int)<f then(M.S.h:Int) else f)∧w=w') ?_ ?_
 ·refine Join1.cut (fun v w'=>v=.bool (decide (f=0∨(M.S.h:Int)<f))∧w=w') ?_ ?_
  ·simp -dsimp (disch:=first|omega|(simp only[go_sem,seval];try omega))only[go_sem,seval]
   refine BrW.dec (fun h4=>?_) (fun h4=>?_)
   ·exact⟨congrArg Value.bool (decide_eq_true (.inl h4)).symm,rfl⟩
   ·simp -dsimp (disch:=first|omega|(simp only[go_sem,seval];try omega))only[go_sem,seval,hb]
    simp [h4]
  ·rintro v w1 ⟨rfl,rfl⟩
   refine BrW.dec (fun h4=>?_) (fun h4=>?_)
   ·simp -dsimp (disch:=first|omega|(simp only[go_sem,seval];try omega))only[go_sem,seval,hb]
    rw[if_pos h4]
   ·rw[if_neg h4]
    exact⟨rfl,rfl⟩
 ·rintro v w1 ⟨rfl,rfl⟩
  obtain⟨F,hF⟩:∃F:Int,F=if f=0∨(M.S.h:Int)<f then(M.S.h:Int) else f:=⟨_,rfl⟩
  rw[←hF] at hK ⊢
  have hF1:1≤F∧F≤M.S.h:=by rw[hF];split<;>omega
  clear hF
  simp -dsimp (disch:=first|omega|(simp only[go_sem,seval];try omega))only[go_sem,seval]
  refine BrW.dec (fun h2=>?_) (fun h2=>?_)
  ·rw[if_pos h2] at hK
   obtain⟨T,rfl⟩:∃T:Nat,t=(T:Int):=⟨t.toNat,by omega⟩
   obtain⟨E,rfl⟩:∃E:Nat,F=(E:Int):=⟨F.toNat,by omega⟩
   simp -dsimp (disch:=first|omega|(simp only[go_sem,seval];try omega))only[go_sem,seval,hb]
   have ok2:({ M.S with top:=T,fin:=E }:Scr).ok:=by
    refine { ok with tf:=?_,fh:=?_ }
    ·show T<E;omega
    ·show E≤M.S.h;omega
   refine OpX.call Dr rfl (Calls.ret (DY (h.set { M.S with top:=T,fin:=E } rfl rfl tl rfl) ok2 0 0) ?_)
   rintro v w1 hd
   exact hK _ _ (Did.trans (M1:={ M with S:={ M.S with top:=T,fin:=E } }) ((Chg.refl _ _).set _ _ (.inl (by simp))) (fun b hb=>.inl hb) hd)
  ·rw[if_neg h2] at hK
   exact hK _ _ (Did.refl h)
end Go.Proofs.YtelplojmbjnplaaGreatDoor
