/- Helpers of this claim, part 2: engine, translated functions, contracts, plain laws. -/
import Derived.Test.YtelplojmbjnplaaGreatB0
import Derived.Test.YtelplojmbjnplaaGreatB1
set_option linter.unusedSimpArgs false
set_option linter.unusedVariables false
namespace Go.Proofs.YtelplojmbjnplaaGreat
open Lyc Go
set_option maxRecDepth 100000
def K5 (p0 p1:Value) (K:Value→World→Prop):World→Prop :=
 xC 176 [.const p0] [213] 4 fun t7 =>
 xW t7
 (K (.tuple #[])) <|
 xU p1 118 fun t9 =>
 Loop1 (.int .i64 0) fun t10 next1 =>
 xO .lss 3 t10 t9 fun t11 =>
 xW t11
 (Join0 (fun k2 =>
 xI 118 p1 t10 fun t12 =>
 xL 112 t12 fun t13 =>
 xA 112 fun t5 =>
 xS 112 t5 t13 <|
 xF 112 t5 0 fun t14 =>
 xL 3 t14 fun t15 =>
 xO .eql 3 t15 (.int .i64 1) fun t17 =>
 xW t17
 (xF 112 t5 1 fun t19 =>
 xL 21 t19 fun t20 =>
 xC 177 [.const p0,.const t20] [213,21] 0 fun _ =>
 k2) <|
 xO .eql 3 t15 (.int .i64 2) fun t23 =>
 xW t23
 (xF 112 t5 1 fun t25 =>
 xL 21 t25 fun t26 =>
 xC 178 [.const p0,.const t26] [213,21] 0 fun _ =>
 k2) <|
 xO .eql 3 t15 (.int .i64 3) fun t29 =>
 xW t29
 (xF 112 t5 3 fun t30 =>
 xL 5 t30 fun t31 =>
 xO .eql 5 t31 (.int .u8 0) fun t32 =>
 xW t32
 (xF 112 t5 1 fun t34 =>
 xL 21 t34 fun t35 =>
 xC 179 [.const p0,.const t35] [213,21] 0 fun _ =>
 k2) <|
 k2) <|
 xO .eql 3 t15 (.int .i64 4) fun t38 =>
 xW t38
 (xL 112 t5 fun t40 =>
 xC 180 [.const p0,.const t40] [213,112] 0 fun _ =>
 k2) <|
 k2) <|
 xO .add 3 t10 (.int .i64 1) fun t42 =>
 next1 t42) <|
 K (.tuple #[])
theorem Xa (p0 p1:Value):Lk 121 #[p0,p1] (K5 p0 p1):=lk [p0,p1] [(9,[10]),(16,[])] Tryz.func121
theorem aY:Ad Tryz.prog 121:=bd Tryz.func121
def Jv (p0:Value) (K:Value→World→Prop):World→Prop :=
 xC 176 [.const p0] [213] 4 fun t5 =>
 xW t5
 (K (.slice none 0 0)) <|
 OpX Tryz.prog (.nilCheck (.const p0)) 0 fun t7 =>
 xF 267 t7 12 fun t8 =>
 xL 128 t8 fun t9 =>
 OpX Tryz.prog (.nilCheck (.const p0)) 0 fun t11 =>
 xF 267 t11 12 fun t12 =>
 xS 128 t12 (.slice none 0 0) <|
 K t9
theorem ah (p0:Value):Lk 125 #[p0] (Jv p0):=lk [p0] [] Tryz.func125
theorem U6:Ad Tryz.prog 125:=bd Tryz.func125
def Og (p0 p1 p2:Value) (K:Value→World→Prop):World→Prop :=
 Join1 (fun k1 =>
 xC 176 [.const p0] [213] 4 fun t9 =>
 xW t9
 (k1 (.bool true)) <|
 xC 30 [.const p1,.const p2] [3,3] 38 fun t13 =>
 xC 68 [.const t13] [38] 4 fun t14 =>
 xN 4 t14 fun t15 =>
 k1 t15) fun t16 =>
 xW t16
 (K (.bool false)) <|
 OpX Tryz.prog (.nilCheck (.const p0)) 0 fun t21 =>
 xF 267 t21 0 fun t22 =>
 xS 3 t22 p1 <|
 OpX Tryz.prog (.nilCheck (.const p0)) 0 fun t23 =>
 xF 267 t23 1 fun t24 =>
 xS 3 t24 p2 <|
 OpX Tryz.prog (.nilCheck (.const p0)) 0 fun t28 =>
 xF 267 t28 6 fun t29 =>
 xS 3 t29 (.int .i64 0) <|
 OpX Tryz.prog (.nilCheck (.const p0)) 0 fun t30 =>
 xF 267 t30 7 fun t31 =>
 xS 3 t31 p2 <|
 Loop1 (.int .i64 0) fun t32 next2 =>
 xO .lss 3 t32 (.int .i64 2) fun t33 =>
 xW t33
 (Ai <|
 xP (.nilCheck (.const p0)) 0 fun t39 =>
 qF 267 t39 2 fun t40 =>
 xP (.indexAddr 123 (.const t40) (.const t32)) 0 fun t41 =>
 qL 38 t41 fun t42 =>
 xP (.nilCheck (.const p0)) 0 fun t47 =>
 qF 267 t47 2 fun t48 =>
 xC 33 [] [] 43 fun t45 =>
 xT (qZ 38 t41 t42) <|
 xC 207 [.const t42,.const p1,.const p2,.const t45] [38,3,3,43] 38 fun t46 =>
 xP (.indexAddr 123 (.const t48) (.const t32)) 0 fun t49 =>
 xS 38 t49 t46 <|
 Ai <|
 xP (.nilCheck (.const p0)) 0 fun t58 =>
 qF 267 t58 3 fun t59 =>
 xP (.indexAddr 265 (.const t59) (.const t32)) 0 fun t60 =>
 qF 264 t60 0 fun t61 =>
 qL 3 t61 fun t62 =>
 xP (.nilCheck (.const p0)) 0 fun t65 =>
 qF 267 t65 3 fun t66 =>
 xP (.indexAddr 265 (.const t66) (.const t32)) 0 fun t67 =>
 qF 264 t67 1 fun t68 =>
 qL 3 t68 fun t69 =>
 xP (.nilCheck (.const p0)) 0 fun t73 =>
 qF 267 t73 3 fun t74 =>
 xP (.nilCheck (.const p0)) 0 fun t77 =>
 qF 267 t77 3 fun t78 =>
 xC 208 [.const p0,.const t62,.const t69] [213,3,3] 26 fun t70 =>
 xP (.extract (.const t70) 0) 3 fun t71 =>
 xP (.extract (.const t70) 1) 3 fun t72 =>
 xP (.indexAddr 265 (.const t74) (.const t32)) 0 fun t75 =>
 qF 264 t75 0 fun t76 =>
 xS 3 t76 t71 <|
 xP (.indexAddr 265 (.const t78) (.const t32)) 0 fun t79 =>
 qF 264 t79 1 fun t80 =>
 xS 3 t80 t72 <|
 xO .add 3 t32 (.int .i64 1) fun t81 =>
 next2 t81) <|
 Ai <|
 xP (.nilCheck (.const p0)) 0 fun t84 =>
 qF 267 t84 5 fun t85 =>
 qF 264 t85 0 fun t86 =>
 qL 3 t86 fun t87 =>
 xP (.nilCheck (.const p0)) 0 fun t89 =>
 qF 267 t89 5 fun t90 =>
 qF 264 t90 1 fun t91 =>
 qL 3 t91 fun t92 =>
 xC 209 [.const p0,.const t87,.const t92] [213,3,3] 0 fun _ =>
 OpX Tryz.prog (.nilCheck (.const p0)) 0 fun t95 =>
 xF 267 t95 10 fun t96 =>
 xS 4 t96 (.bool false) <|
 K (.bool true)
theorem YB (p0 p1 p2:Value):Lk 168 #[p0,p1,p2] (Og p0 p1 p2):=lk [p0,p1,p2] [(4,[16]),(18,[32])] Tryz.func168
theorem Y6:Ad Tryz.prog 168:=bd Tryz.func168
def MM (p0 p1:Value) (K:Value→World→Prop):World→Prop :=
 xC 30 [.const p0,.const p1] [3,3] 38 fun t9 =>
 xA 38 fun t5 =>
 xS 38 t5 t9 <|
 xL 38 t5 fun t10 =>
 xC 68 [.const t10] [38] 4 fun t11 =>
 xN 4 t11 fun t12 =>
 xW t12
 (K (.pointer none)) <|
 OpX Tryz.prog (.build 267 #[(0,.const p0),(1,.const p1)]) 267 fun t15 =>
 OpX Tryz.prog (.box 267 (.const t15)) 213 fun t16 =>
 xC 210 [.const t16] [213] 0 fun _ =>
 K t16
theorem Y2 (p0 p1:Value):Lk 169 #[p0,p1] (MM p0 p1):=lk [p0,p1] [] Tryz.func169
theorem QT:Ad Tryz.prog 169:=bd Tryz.func169
def L6 (p0:Value) (K:Value→World→Prop):World→Prop :=
 Join1 (fun k1 =>
 xO .eql 213 p0 (.pointer none) fun t4 =>
 xW t4
 (k1 (.bool true)) <|
 OpX Tryz.prog (.nilCheck (.const p0)) 0 fun t7 =>
 xF 267 t7 0 fun t8 =>
 xL 3 t8 fun t9 =>
 xO .eql 3 t9 (.int .i64 0) fun t10 =>
 k1 t10) fun t2 =>
 K t2
theorem ZW (p0:Value):Lk 176 #[p0] (L6 p0):=lk [p0] [(3,[2])] Tryz.func176
theorem G2:Ad Tryz.prog 176:=bd Tryz.func176
def P2 (p0 p1:Value) (K:Value→World→Prop):World→Prop :=
 xB 213 p0 fun t2 =>
 xB 21 p1 fun t3 =>
 xL 21 t3 fun t5 =>
 xC 195 [.const t5] [21] 3 fun t6 =>
 Join1 (fun k1 =>
 xO .eql 3 t6 (.int .i64 0) fun t8 =>
 xW t8
 (k1 (.bool true)) <|
 xL 213 t2 fun t11 =>
 OpX Tryz.prog (.nilCheck (.const t11)) 0 fun t12 =>
 xF 267 t12 0 fun t13 =>
 xL 3 t13 fun t14 =>
 xO .gtr 3 t6 t14 fun t15 =>
 k1 t15) fun t16 =>
 xW t16
 (K (.tuple #[])) <|
 Join0 (fun k2 =>
 xL 213 t2 fun t17 =>
 OpX Tryz.prog (.nilCheck (.const t17)) 0 fun t18 =>
 xF 267 t18 10 fun t19 =>
 xL 4 t19 fun t20 =>
 xW t20
 (xL 213 t2 fun t21 =>
 OpX Tryz.prog (.nilCheck (.const t21)) 0 fun t22 =>
 xF 267 t22 5 fun t23 =>
 xF 264 t23 0 fun t24 =>
 xS 3 t24 (.int .i64 0) <|
 xL 213 t2 fun t25 =>
 xC 216 [.const t25] [213] 0 fun _ =>
 k2) <|
 k2) <|
 Join0 (fun k3 =>
 Ai <|
 qL 213 t2 fun t27 =>
 xP (.nilCheck (.const t27)) 0 fun t28 =>
 qF 267 t28 5 fun t29 =>
 qF 264 t29 0 fun t30 =>
 qL 3 t30 fun t31 =>
 qP .add 3 t31 t6 fun t33 =>
 qL 213 t2 fun t34 =>
 xP (.nilCheck (.const t34)) 0 fun t35 =>
 qF 267 t35 0 fun t36 =>
 qL 3 t36 fun t37 =>
 qP .gtr 3 t33 t37 fun t38 =>
 xW t38
 (xL 213 t2 fun t39 =>
 OpX Tryz.prog (.nilCheck (.const t39)) 0 fun t40 =>
 xF 267 t40 9 fun t41 =>
 xL 4 t41 fun t42 =>
 xW t42
 (xL 213 t2 fun t43 =>
 OpX Tryz.prog (.nilCheck (.const t43)) 0 fun t44 =>
 xF 267 t44 5 fun t45 =>
 xF 264 t45 0 fun t46 =>
 xS 3 t46 (.int .i64 0) <|
 xL 213 t2 fun t47 =>
 xC 216 [.const t47] [213] 0 fun _ =>
 k3) <|
 Ai <|
 qL 213 t2 fun t49 =>
 qL 213 t2 fun t50 =>
 xP (.nilCheck (.const t50)) 0 fun t51 =>
 qF 267 t51 0 fun t52 =>
 qL 3 t52 fun t53 =>
 qP .sub 3 t53 t6 fun t55 =>
 xP (.nilCheck (.const t49)) 0 fun t56 =>
 qF 267 t56 5 fun t57 =>
 qF 264 t57 0 fun t58 =>
 xS 3 t58 t55 <|
 k3) <|
 k3) <|
 xL 213 t2 fun t59 =>
 OpX Tryz.prog (.makeFunc (.func 218) #[] #[.const t2,.const t3]) 292 fun t60 =>
 xC 217 [.const t59,.const t60] [213,292] 0 fun _ =>
 xL 213 t2 fun t62 =>
 OpX Tryz.prog (.nilCheck (.const t62)) 0 fun t63 =>
 xF 267 t63 5 fun t64 =>
 xF 264 t64 0 fun t65 =>
 xL 3 t65 fun t66 =>
 xO .add 3 t66 t6 fun t68 =>
 OpX Tryz.prog (.nilCheck (.const t62)) 0 fun t69 =>
 xF 267 t69 5 fun t70 =>
 xF 264 t70 0 fun t71 =>
 xS 3 t71 t68 <|
 xL 213 t2 fun t72 =>
 OpX Tryz.prog (.nilCheck (.const t72)) 0 fun t73 =>
 xF 267 t73 10 fun t74 =>
 xS 4 t74 (.bool false) <|
 Ai <|
 qL 213 t2 fun t75 =>
 xP (.nilCheck (.const t75)) 0 fun t76 =>
 qF 267 t76 5 fun t77 =>
 qF 264 t77 0 fun t78 =>
 qL 3 t78 fun t79 =>
 qL 213 t2 fun t80 =>
 xP (.nilCheck (.const t80)) 0 fun t81 =>
 qF 267 t81 0 fun t82 =>
 qL 3 t82 fun t83 =>
 qR .eql 3 t79 t83 fun t84 =>
 xW t84
 (Ai <|
 qL 213 t2 fun t85 =>
 qL 213 t2 fun t86 =>
 xP (.nilCheck (.const t86)) 0 fun t87 =>
 qF 267 t87 0 fun t88 =>
 qL 3 t88 fun t89 =>
 qP .sub 3 t89 (.int .i64 1) fun t90 =>
 xP (.nilCheck (.const t85)) 0 fun t91 =>
 qF 267 t91 5 fun t92 =>
 qF 264 t92 0 fun t93 =>
 xS 3 t93 t90 <|
 Ai <|
 qL 213 t2 fun t94 =>
 qL 213 t2 fun t95 =>
 xP (.nilCheck (.const t95)) 0 fun t96 =>
 qF 267 t96 9 fun t97 =>
 qL 4 t97 fun t98 =>
 xP (.nilCheck (.const t94)) 0 fun t99 =>
 qF 267 t99 10 fun t100 =>
 xS 4 t100 t98 <|
 K (.tuple #[])) <|
 K (.tuple #[])
theorem Ua (p0 p1:Value):Lk 177 #[p0,p1] (P2 p0 p1):=lk [p0,p1] [(6,[16]),(10,[]),(18,[])] Tryz.func177
theorem ZA:Ad Tryz.prog 177:=bd Tryz.func177
def OB (p0 p1:Value) (K:Value→World→Prop):World→Prop :=
 Join0 (fun k1 =>
 xO .eql 21 p1 (.int .i32 8) fun t7 =>
 xW t7
 (OpX Tryz.prog (.nilCheck (.const p0)) 0 fun t10 =>
 xF 267 t10 5 fun t11 =>
 xF 264 t11 0 fun t12 =>
 xL 3 t12 fun t13 =>
 xO .sub 3 t13 (.int .i64 1) fun t14 =>
 OpX Tryz.prog (.call { callee:=.builtin .max,args:=#[.const t14,.const (.int .i64 0)],argTypes:=#[3,3] }) 3 fun t15 =>
 OpX Tryz.prog (.nilCheck (.const p0)) 0 fun t16 =>
 xF 267 t16 5 fun t17 =>
 xF 264 t17 0 fun t18 =>
 xS 3 t18 t15 <|
 k1) <|
 xO .eql 21 p1 (.int .i32 9) fun t20 =>
 xW t20
 (OpX Tryz.prog (.nilCheck (.const p0)) 0 fun t22 =>
 xF 267 t22 5 fun t23 =>
 xF 264 t23 0 fun t24 =>
 xL 3 t24 fun t25 =>
 xO .add 3 t25 (.int .i64 1) fun t26 =>
 Loop1 t26 fun t4 next2 =>
 Join1 (fun k3 =>
 OpX Tryz.prog (.nilCheck (.const p0)) 0 fun t29 =>
 xF 267 t29 0 fun t30 =>
 xL 3 t30 fun t31 =>
 xO .lss 3 t4 t31 fun t32 =>
 xW t32
 (OpX Tryz.prog (.nilCheck (.const p0)) 0 fun t36 =>
 xF 267 t36 8 fun t37 =>
 xI 127 t37 t4 fun t38 =>
 xL 4 t38 fun t39 =>
 xN 4 t39 fun t40 =>
 k3 t40) <|
 k3 (.bool false)) fun t41 =>
 xW t41
 (xO .add 3 t4 (.int .i64 1) fun t43 =>
 next2 t43) <|
 OpX Tryz.prog (.nilCheck (.const p0)) 0 fun t47 =>
 xF 267 t47 0 fun t48 =>
 xL 3 t48 fun t49 =>
 xO .sub 3 t49 (.int .i64 1) fun t50 =>
 OpX Tryz.prog (.call { callee:=.builtin .min,args:=#[.const t4,.const t50],argTypes:=#[3,3] }) 3 fun t51 =>
 OpX Tryz.prog (.nilCheck (.const p0)) 0 fun t52 =>
 xF 267 t52 5 fun t53 =>
 xF 264 t53 0 fun t54 =>
 xS 3 t54 t51 <|
 k1) <|
 Join1 (fun k4 =>
 xO .eql 21 p1 (.int .i32 10) fun t56 =>
 xW t56
 (k4 (.bool true)) <|
 xO .eql 21 p1 (.int .i32 11) fun t57 =>
 xW t57
 (k4 (.bool true)) <|
 xO .eql 21 p1 (.int .i32 12) fun t58 =>
 k4 t58) fun t55 =>
 xW t55
 (xC 216 [.const p0] [213] 0 fun _ =>
 k1) <|
 xO .eql 21 p1 (.int .i32 13) fun t62 =>
 xW t62
 (OpX Tryz.prog (.nilCheck (.const p0)) 0 fun t64 =>
 xF 267 t64 5 fun t65 =>
 xF 264 t65 0 fun t66 =>
 xS 3 t66 (.int .i64 0) <|
 k1) <|
 K (.tuple #[])) <|
 OpX Tryz.prog (.nilCheck (.const p0)) 0 fun t68 =>
 xF 267 t68 10 fun t69 =>
 xS 4 t69 (.bool false) <|
 K (.tuple #[])
theorem WR (p0 p1:Value):Lk 178 #[p0,p1] (OB p0 p1):=lk [p0,p1] [(0,[]),(15,[4]),(18,[41]),(25,[55])] Tryz.func178
theorem W6:Ad Tryz.prog 178:=bd Tryz.func178
def Kt (p0 p1:Value) (K:Value→World→Prop):World→Prop :=
 Join0 (fun k1 =>
 Join0 (fun k2 =>
 xO .eql 21 p1 (.int .i32 55) fun t6 =>
 xW t6
 (xC 220 [.const p0] [213] 0 fun _ =>
 K (.tuple #[])) <|
 xO .eql 21 p1 (.int .i32 72) fun t8 =>
 xW t8
 (Ai <|
 xP (.nilCheck (.const p0)) 0 fun t23 =>
 qF 267 t23 5 fun t24 =>
 qF 264 t24 0 fun t25 =>
 qL 3 t25 fun t26 =>
 xP (.nilCheck (.const p0)) 0 fun t27 =>
 qF 267 t27 8 fun t28 =>
 xP (.indexAddr 127 (.const t28) (.const t26)) 0 fun t29 =>
 xS 4 t29 (.bool true) <|
 K (.tuple #[])) <|
 xO .eql 21 p1 (.int .i32 69) fun t10 =>
 xW t10
 (OpX Tryz.prog (.nilCheck (.const p0)) 0 fun t31 =>
 xF 267 t31 5 fun t32 =>
 xF 264 t32 0 fun t33 =>
 xS 3 t33 (.int .i64 0) <|
 k2) <|
 xO .eql 21 p1 (.int .i32 68) fun t12 =>
 xW t12
 (k2) <|
 xO .eql 21 p1 (.int .i32 77) fun t14 =>
 xW t14
 (xC 221 [.const p0] [213] 0 fun _ =>
 k1) <|
 xO .eql 21 p1 (.int .i32 56) fun t16 =>
 xW t16
 (xC 222 [.const p0] [213] 0 fun _ =>
 k1) <|
 xO .eql 21 p1 (.int .i32 99) fun t18 =>
 xW t18
 (xC 210 [.const p0] [213] 0 fun _ =>
 k1) <|
 K (.tuple #[])) <|
 xC 216 [.const p0] [213] 0 fun _ =>
 k1) <|
 OpX Tryz.prog (.nilCheck (.const p0)) 0 fun t43 =>
 xF 267 t43 10 fun t44 =>
 xS 4 t44 (.bool false) <|
 K (.tuple #[])
theorem Q8 (p0 p1:Value):Lk 179 #[p0,p1] (Kt p0 p1):=lk [p0,p1] [(3,[]),(13,[])] Tryz.func179
theorem UW:Ad Tryz.prog 179:=bd Tryz.func179
def PL (p0 p1:Value) (K:Value→World→Prop):World→Prop :=
 xB 112 p1 fun t3 =>
 Join1 (fun k1 =>
 xF 112 t3 2 fun t7 =>
 xL 5 t7 fun t8 =>
 xO .eql 5 t8 (.int .u8 63) fun t9 =>
 xW t9
 (xF 112 t3 3 fun t11 =>
 xL 5 t11 fun t12 =>
 xO .eql 5 t12 (.int .u8 0) fun t13 =>
 xW t13
 (xF 112 t3 1 fun t16 =>
 xL 21 t16 fun t17 =>
 xO .eql 21 t17 (.int .i32 104) fun t18 =>
 xW t18
 (k1 (.bool true)) <|
 xF 112 t3 1 fun t20 =>
 xL 21 t20 fun t21 =>
 xO .eql 21 t21 (.int .i32 108) fun t22 =>
 k1 t22) <|
 k1 (.bool false)) <|
 k1 (.bool false)) fun t6 =>
 xW t6
 (xF 112 t3 5 fun t25 =>
 xF 112 t3 4 fun t26 =>
 xL 3 t26 fun t27 =>
 OpX Tryz.prog (.call { callee:=.builtin .max,args:=#[.const t27,.const (.int .i64 0)],argTypes:=#[3,3] }) 3 fun t28 =>
 OpX Tryz.prog (.call { callee:=.builtin .min,args:=#[.const t28,.const (.int .i64 8)],argTypes:=#[3,3] }) 3 fun t29 =>
 OpX Tryz.prog (.slice 110 (.const t25) none (some (.const t29)) none) 98 fun t30 =>
 xU t30 98 fun t31 =>
 Loop1 (.int .i64 0) fun t32 next2 =>
 xO .lss 3 t32 t31 fun t33 =>
 xW t33
 (xI 98 t30 t32 fun t34 =>
 xL 3 t34 fun t35 =>
 xF 112 t3 1 fun t38 =>
 xL 21 t38 fun t39 =>
 xO .eql 21 t39 (.int .i32 104) fun t40 =>
 xC 223 [.const p0,.const t35,.const t40] [213,3,4] 0 fun _ =>
 xO .add 3 t32 (.int .i64 1) fun t42 =>
 next2 t42) <|
 K (.tuple #[])) <|
 Join1 (fun k3 =>
 xF 112 t3 2 fun t44 =>
 xL 5 t44 fun t45 =>
 xO .neq 5 t45 (.int .u8 0) fun t46 =>
 xW t46
 (k3 (.bool true)) <|
 xF 112 t3 3 fun t48 =>
 xL 5 t48 fun t49 =>
 xO .neq 5 t49 (.int .u8 0) fun t50 =>
 k3 t50) fun t43 =>
 xW t43
 (K (.tuple #[])) <|
 xL 112 t3 fun t54 =>
 xC 224 [.const p0,.const t54] [213,112] 4 fun t55 =>
 xW t55
 (K (.tuple #[])) <|
 Join1 (fun k4 =>
 xL 112 t3 fun t58 =>
 xC 225 [.const p0,.const t58] [213,112] 4 fun t59 =>
 xW t59
 (k4 (.bool true)) <|
 xL 112 t3 fun t62 =>
 xC 226 [.const p0,.const t62] [213,112] 4 fun t63 =>
 k4 t63) fun t56 =>
 xW t56
 (OpX Tryz.prog (.nilCheck (.const p0)) 0 fun t66 =>
 xF 267 t66 10 fun t67 =>
 xS 4 t67 (.bool false) <|
 K (.tuple #[])) <|
 K (.tuple #[])
theorem YH (p0 p1:Value):Lk 180 #[p0,p1] (PL p0 p1):=lk [p0,p1] [(4,[6]),(9,[32]),(23,[43]),(31,[56])] Tryz.func180
theorem TL:Ad Tryz.prog 180:=bd Tryz.func180
def La (p0:Value) (K:Value→World→Prop):World→Prop :=
 xA 38 fun t2 =>
 xC 176 [.const p0] [213] 4 fun t5 =>
 xW t5
 (OpX Tryz.prog (.build 38 #[]) 38 fun t6 =>
 xS 38 t2 t6 <|
 xD 38 t2 fun t2_1 =>
 K t2_1) <|
 Ai <|
 xP (.nilCheck (.const p0)) 0 fun t9 =>
 qF 267 t9 4 fun t10 =>
 qL 3 t10 fun t11 =>
 xP (.nilCheck (.const p0)) 0 fun t12 =>
 qF 267 t12 2 fun t13 =>
 xP (.indexAddr 123 (.const t13) (.const t11)) 0 fun t14 =>
 qL 38 t14 fun t15 =>
 xA 38 fun t3 =>
 xT (qZ 38 t14 t15) <|
 xT (qZ 3 t10 t11) <|
 xS 38 t3 t15 <|
 xF 38 t3 2 fun t16 =>
 xL 36 t16 fun t17 =>
 xC 131 [.const t17] [36] 36 fun t18 =>
 xF 38 t3 2 fun t19 =>
 xS 36 t19 t18 <|
 xL 38 t3 fun t20 =>
 xS 38 t2 t20 <|
 xD 38 t2 fun t2_2 =>
 K t2_2
theorem VY (p0:Value):Lk 194 #[p0] (La p0):=lk [p0] [] Tryz.func194
theorem Qv:Ad Tryz.prog 194:=bd Tryz.func194
def JR (p0 p1 p2:Value) (K:Value→World→Prop):World→Prop :=
 Ai <|
 xP (.call { callee:=.builtin .max,args:=#[.const p1,.const (.int .i64 0)],argTypes:=#[3,3] }) 3 fun t9 =>
 xP (.nilCheck (.const p0)) 0 fun t11 =>
 qF 267 t11 0 fun t12 =>
 qL 3 t12 fun t13 =>
 qP .sub 3 t13 (.int .i64 1) fun t14 =>
 xP (.call { callee:=.builtin .min,args:=#[.const t9,.const t14],argTypes:=#[3,3] }) 3 fun t15 =>
 xP (.call { callee:=.builtin .max,args:=#[.const p2,.const (.int .i64 0)],argTypes:=#[3,3] }) 3 fun t17 =>
 xP (.nilCheck (.const p0)) 0 fun t19 =>
 qF 267 t19 1 fun t20 =>
 qL 3 t20 fun t21 =>
 qP .sub 3 t21 (.int .i64 1) fun t22 =>
 xP (.call { callee:=.builtin .min,args:=#[.const t17,.const t22],argTypes:=#[3,3] }) 3 fun t23 =>
 K (.tuple #[t15,t23])
theorem XS (p0 p1 p2:Value):Lk 208 #[p0,p1,p2] (JR p0 p1 p2):=lk [p0,p1,p2] [] Tryz.func208
theorem Hg:Ad Tryz.prog 208:=bd Tryz.func208
def I2 (p0 p1 p2:Value) (K:Value→World→Prop):World→Prop :=
 xC 208 [.const p0,.const p1,.const p2] [213,3,3] 26 fun t12 =>
 xE t12 0 3 fun t13 =>
 xE t12 1 3 fun t14 =>
 OpX Tryz.prog (.nilCheck (.const p0)) 0 fun t15 =>
 xF 267 t15 5 fun t16 =>
 xF 264 t16 0 fun t17 =>
 xS 3 t17 t13 <|
 OpX Tryz.prog (.nilCheck (.const p0)) 0 fun t18 =>
 xF 267 t18 5 fun t19 =>
 xF 264 t19 1 fun t20 =>
 xS 3 t20 t14 <|
 K (.tuple #[])
theorem Nr (p0 p1 p2:Value):Lk 209 #[p0,p1,p2] (I2 p0 p1 p2):=lk [p0,p1,p2] [] Tryz.func209
theorem DR:Ad Tryz.prog 209:=bd Tryz.func209
def JH (p0:Value) (K:Value→World→Prop):World→Prop :=
 Ai <|
 xP (.nilCheck (.const p0)) 0 fun t6 =>
 qF 267 t6 0 fun t7 =>
 qL 3 t7 fun t8 =>
 xP (.nilCheck (.const p0)) 0 fun t10 =>
 qF 267 t10 1 fun t11 =>
 qL 3 t11 fun t12 =>
 xP (.nilCheck (.const p0)) 0 fun t14 =>
 qF 267 t14 1 fun t15 =>
 qL 3 t15 fun t16 =>
 xP (.nilCheck (.const p0)) 0 fun t18 =>
 qF 267 t18 12 fun t19 =>
 qL 128 t19 fun t20 =>
 OpX Tryz.prog (.build 267 #[(0,.const t8),(1,.const t12),(7,.const t16),(9,.const (.bool true)),(11,.const (.bool true)),(12,.const t20)]) 267 fun t21 =>
 xP (.nilCheck (.const p0)) 0 fun t22 =>
 xS 267 t22 t21 <|
 Loop1 (.int .i64 0) fun t23 next1 =>
 xO .lss 3 t23 (.int .i64 2) fun t24 =>
 xW t24
 (Ai <|
 xP (.nilCheck (.const p0)) 0 fun t29 =>
 qF 267 t29 0 fun t30 =>
 qL 3 t30 fun t31 =>
 xP (.nilCheck (.const p0)) 0 fun t33 =>
 qF 267 t33 1 fun t34 =>
 qL 3 t34 fun t35 =>
 xP (.nilCheck (.const p0)) 0 fun t37 =>
 qF 267 t37 2 fun t38 =>
 xC 30 [.const t31,.const t35] [3,3] 38 fun t36 =>
 xP (.indexAddr 123 (.const t38) (.const t23)) 0 fun t39 =>
 xS 38 t39 t36 <|
 xO .add 3 t23 (.int .i64 1) fun t40 =>
 next1 t40) <|
 Loop1 (.int .i64 8) fun t3 next2 =>
 xO .lss 3 t3 (.int .i64 200) fun t42 =>
 xW t42
 (OpX Tryz.prog (.nilCheck (.const p0)) 0 fun t47 =>
 xF 267 t47 8 fun t48 =>
 xI 127 t48 t3 fun t49 =>
 xS 4 t49 (.bool true) <|
 xO .add 3 t3 (.int .i64 8) fun t44 =>
 next2 t44) <|
 K (.tuple #[])
theorem Zq (p0:Value):Lk 210 #[p0] (JH p0):=lk [p0] [(6,[23]),(22,[3])] Tryz.func210
theorem PJ:Ad Tryz.prog 210:=bd Tryz.func210
def Ki (p0:Value) (K:Value→World→Prop):World→Prop :=
 Ai <|
 xP (.nilCheck (.const p0)) 0 fun t4 =>
 qF 267 t4 5 fun t5 =>
 qF 264 t5 1 fun t6 =>
 qL 3 t6 fun t7 =>
 xP (.nilCheck (.const p0)) 0 fun t9 =>
 qF 267 t9 7 fun t10 =>
 qL 3 t10 fun t11 =>
 qP .sub 3 t11 (.int .i64 1) fun t12 =>
 qR .eql 3 t7 t12 fun t13 =>
 xW t13
 (xC 249 [.const p0,.const (.int .i64 1)] [213,3] 0 fun _ =>
 K (.tuple #[])) <|
 Ai <|
 xP (.nilCheck (.const p0)) 0 fun t18 =>
 qF 267 t18 5 fun t19 =>
 qF 264 t19 1 fun t20 =>
 qL 3 t20 fun t21 =>
 xP (.nilCheck (.const p0)) 0 fun t23 =>
 qF 267 t23 1 fun t24 =>
 qL 3 t24 fun t25 =>
 qP .sub 3 t25 (.int .i64 1) fun t26 =>
 qP .lss 3 t21 t26 fun t27 =>
 xW t27
 (OpX Tryz.prog (.nilCheck (.const p0)) 0 fun t29 =>
 xF 267 t29 5 fun t30 =>
 xF 264 t30 1 fun t31 =>
 xL 3 t31 fun t32 =>
 xO .add 3 t32 (.int .i64 1) fun t33 =>
 OpX Tryz.prog (.nilCheck (.const p0)) 0 fun t34 =>
 xF 267 t34 5 fun t35 =>
 xF 264 t35 1 fun t36 =>
 xS 3 t36 t33 <|
 K (.tuple #[])) <|
 K (.tuple #[])
theorem Sk (p0:Value):Lk 216 #[p0] (Ki p0):=lk [p0] [] Tryz.func216
theorem FL:Ad Tryz.prog 216:=bd Tryz.func216
def Lv (p0 p1:Value) (K:Value→World→Prop):World→Prop :=
 Ai <|
 xP (.nilCheck (.const p0)) 0 fun t8 =>
 qF 267 t8 5 fun t9 =>
 qF 264 t9 1 fun t10 =>
 qL 3 t10 fun t11 =>
 xP (.nilCheck (.const p0)) 0 fun t13 =>
 qF 267 t13 0 fun t14 =>
 qL 3 t14 fun t15 =>
 qP .mul 3 t11 t15 fun t16 =>
 Ai <|
 xP (.nilCheck (.const p0)) 0 fun t19 =>
 qF 267 t19 4 fun t20 =>
 qL 3 t20 fun t21 =>
 xP (.nilCheck (.const p0)) 0 fun t22 =>
 qF 267 t22 2 fun t23 =>
 xP (.indexAddr 123 (.const t23) (.const t21)) 0 fun t24 =>
 qF 38 t24 2 fun t25 =>
 qL 36 t25 fun t26 =>
 xP (.nilCheck (.const p0)) 0 fun t30 =>
 qF 267 t30 0 fun t31 =>
 qL 3 t31 fun t32 =>
 qP .add 3 t16 t32 fun t33 =>
 xP (.nilCheck (.const p0)) 0 fun t36 =>
 qF 267 t36 0 fun t37 =>
 qL 3 t37 fun t38 =>
 qP .add 3 t16 t38 fun t39 =>
 xP (.slice 36 (.const t26) (some (.const t16)) (some (.const t33)) (some (.const t39))) 36 fun t40 =>
 OpX Tryz.prog (.nilCheck (.const p0)) 0 fun t43 =>
 xF 267 t43 0 fun t44 =>
 xL 3 t44 fun t45 =>
 OpX Tryz.prog (.build 38 #[(0,.const t45),(1,.const (.int .i64 1)),(2,.const t40)]) 38 fun t47 =>
 OpX Tryz.prog (.call { callee:=.value (.const p1),args:=#[.const t47],argTypes:=#[38] }) 38 fun t48 =>
 xA 38 fun t6 =>
 xS 38 t6 t48 <|
 xF 38 t6 2 fun t50 =>
 xL 36 t50 fun t51 =>
 OpX Tryz.prog (.call { callee:=.builtin .copy,args:=#[.const t40,.const t51],argTypes:=#[36,36] }) 3 fun _ =>
 K (.tuple #[])
theorem UU (p0 p1:Value):Lk 217 #[p0,p1] (Lv p0 p1):=lk [p0,p1] [] Tryz.func217
theorem Hw:Ad Tryz.prog 217:=bd Tryz.func217
def MO (p0 p1 p2:Value) (K:Value→World→Prop):World→Prop :=
 xB 38 p0 fun t3 =>
 xA 38 fun t4 =>
 Ai <|
 qL 38 t3 fun t5 =>
 qL 213 p1 fun t6 =>
 xP (.nilCheck (.const t6)) 0 fun t7 =>
 qF 267 t7 5 fun t8 =>
 qF 264 t8 0 fun t9 =>
 qL 3 t9 fun t10 =>
 qL 21 p2 fun t11 =>
 qL 213 p1 fun t12 =>
 xP (.nilCheck (.const t12)) 0 fun t13 =>
 qF 267 t13 5 fun t14 =>
 qF 264 t14 2 fun t15 =>
 qL 43 t15 fun t16 =>
 xC 219 [.const t11,.const t16] [21,43] 36 fun t17 =>
 xT (qZ 3 t9 t10) <|
 xT (qZ 213 p1 t6) <|
 xT (qZ 38 t3 t5) <|
 xC 35 [.const t5,.const t10,.const (.int .i64 0),.const t17] [38,3,3,36] 38 fun t18 =>
 xS 38 t4 t18 <|
 xD 38 t4 fun t4_1 =>
 K t4_1
theorem QA (p0 p1 p2:Value):Lk 218 #[p0,p1,p2] (MO p0 p1 p2):=lk [p0,p1,p2] [] Tryz.func218
theorem Zy:Ad Tryz.prog 218:=bd Tryz.func218
def L0 (p0:Value) (K:Value→World→Prop):World→Prop :=
 Ai <|
 xP (.nilCheck (.const p0)) 0 fun t4 =>
 qF 267 t4 4 fun t5 =>
 qL 3 t5 fun t6 =>
 xP (.nilCheck (.const p0)) 0 fun t8 =>
 qF 267 t8 5 fun t9 =>
 qL 264 t9 fun t10 =>
 xP (.nilCheck (.const p0)) 0 fun t11 =>
 qF 267 t11 3 fun t12 =>
 xP (.indexAddr 265 (.const t12) (.const t6)) 0 fun t13 =>
 xS 264 t13 t10 <|
 K (.tuple #[])
theorem Uz (p0:Value):Lk 220 #[p0] (L0 p0):=lk [p0] [] Tryz.func220
theorem Hv:Ad Tryz.prog 220:=bd Tryz.func220
def JO (p0:Value) (K:Value→World→Prop):World→Prop :=
 Ai <|
 xP (.nilCheck (.const p0)) 0 fun t4 =>
 qF 267 t4 5 fun t5 =>
 qF 264 t5 1 fun t6 =>
 qL 3 t6 fun t7 =>
 xP (.nilCheck (.const p0)) 0 fun t9 =>
 qF 267 t9 6 fun t10 =>
 qL 3 t10 fun t11 =>
 qR .eql 3 t7 t11 fun t12 =>
 xW t12
 (OpX Tryz.prog (.nilCheck (.const p0)) 0 fun t15 =>
 xF 267 t15 6 fun t16 =>
 xL 3 t16 fun t17 =>
 xC 250 [.const p0,.const t17,.const (.int .i64 (-1))] [213,3,3] 0 fun _ =>
 K (.tuple #[])) <|
 OpX Tryz.prog (.nilCheck (.const p0)) 0 fun t21 =>
 xF 267 t21 5 fun t22 =>
 xF 264 t22 1 fun t23 =>
 xL 3 t23 fun t24 =>
 xO .gtr 3 t24 (.int .i64 0) fun t25 =>
 xW t25
 (OpX Tryz.prog (.nilCheck (.const p0)) 0 fun t27 =>
 xF 267 t27 5 fun t28 =>
 xF 264 t28 1 fun t29 =>
 xL 3 t29 fun t30 =>
 xO .sub 3 t30 (.int .i64 1) fun t31 =>
 OpX Tryz.prog (.nilCheck (.const p0)) 0 fun t32 =>
 xF 267 t32 5 fun t33 =>
 xF 264 t33 1 fun t34 =>
 xS 3 t34 t31 <|
 K (.tuple #[])) <|
 K (.tuple #[])
theorem X2 (p0:Value):Lk 221 #[p0] (JO p0):=lk [p0] [] Tryz.func221
theorem W9:Ad Tryz.prog 221:=bd Tryz.func221
def Kv (p0:Value) (K:Value→World→Prop):World→Prop :=
 Ai <|
 xP (.nilCheck (.const p0)) 0 fun t5 =>
 qF 267 t5 4 fun t6 =>
 qL 3 t6 fun t7 =>
 xP (.nilCheck (.const p0)) 0 fun t8 =>
 qF 267 t8 3 fun t9 =>
 xP (.indexAddr 265 (.const t9) (.const t7)) 0 fun t10 =>
 qL 264 t10 fun t11 =>
 xP (.nilCheck (.const p0)) 0 fun t12 =>
 qF 267 t12 5 fun t13 =>
 xS 264 t13 t11 <|
 OpX Tryz.prog (.nilCheck (.const p0)) 0 fun t15 =>
 xF 267 t15 10 fun t16 =>
 xS 4 t16 (.bool false) <|
 K (.tuple #[])
theorem Wz (p0:Value):Lk 222 #[p0] (Kv p0):=lk [p0] [] Tryz.func222
theorem Ik:Ad Tryz.prog 222:=bd Tryz.func222
def PH (p0 p1 p2:Value) (K:Value→World→Prop):World→Prop :=
 xO .eql 3 p1 (.int .i64 7) fun t8 =>
 xW t8
 (OpX Tryz.prog (.nilCheck (.const p0)) 0 fun t11 =>
 xF 267 t11 9 fun t12 =>
 xS 4 t12 p2 <|
 Join0 (fun k1 =>
 OpX Tryz.prog (.nilCheck (.const p0)) 0 fun t15 =>
 xF 267 t15 10 fun t16 =>
 xL 4 t16 fun t17 =>
 xW t17
 (OpX Tryz.prog (.nilCheck (.const p0)) 0 fun t21 =>
 xF 267 t21 10 fun t22 =>
 xS 4 t22 p2 <|
 k1) <|
 OpX Tryz.prog (.nilCheck (.const p0)) 0 fun t21_1 =>
 xF 267 t21_1 10 fun t22_1 =>
 xS 4 t22_1 (.bool false) <|
 k1) <|
 K (.tuple #[])) <|
 xO .eql 3 p1 (.int .i64 25) fun t24 =>
 xW t24
 (OpX Tryz.prog (.nilCheck (.const p0)) 0 fun t27 =>
 xF 267 t27 11 fun t28 =>
 xS 4 t28 p2 <|
 K (.tuple #[])) <|
 Join1 (fun k2 =>
 xO .eql 3 p1 (.int .i64 47) fun t30 =>
 xW t30
 (k2 (.bool true)) <|
 xO .eql 3 p1 (.int .i64 1047) fun t31 =>
 xW t31
 (k2 (.bool true)) <|
 xO .eql 3 p1 (.int .i64 1049) fun t32 =>
 k2 t32) fun t29 =>
 xW t29
 (Join1 (fun k3 =>
 xW p2
 (OpX Tryz.prog (.nilCheck (.const p0)) 0 fun t37 =>
 xF 267 t37 4 fun t38 =>
 xL 3 t38 fun t39 =>
 xO .eql 3 t39 (.int .i64 0) fun t40 =>
 k3 t40) <|
 k3 (.bool false)) fun t33 =>
 xW t33
 (xC 220 [.const p0] [213] 0 fun _ =>
 OpX Tryz.prog (.nilCheck (.const p0)) 0 fun t45 =>
 xF 267 t45 4 fun t46 =>
 xS 3 t46 (.int .i64 1) <|
 Ai <|
 xP (.nilCheck (.const p0)) 0 fun t49 =>
 qF 267 t49 0 fun t50 =>
 qL 3 t50 fun t51 =>
 xP (.nilCheck (.const p0)) 0 fun t53 =>
 qF 267 t53 1 fun t54 =>
 qL 3 t54 fun t55 =>
 xP (.nilCheck (.const p0)) 0 fun t57 =>
 qF 267 t57 2 fun t58 =>
 xC 30 [.const t51,.const t55] [3,3] 38 fun t56 =>
 xP (.indexAddr 123 (.const t58) (.const (.int .i64 1))) 0 fun t59 =>
 xS 38 t59 t56 <|
 OpX Tryz.prog (.nilCheck (.const p0)) 0 fun t61 =>
 xF 267 t61 10 fun t62 =>
 xS 4 t62 (.bool false) <|
 K (.tuple #[])) <|
 Join1 (fun k4 =>
 xN 4 p2 fun t65 =>
 xW t65
 (OpX Tryz.prog (.nilCheck (.const p0)) 0 fun t68 =>
 xF 267 t68 4 fun t69 =>
 xL 3 t69 fun t70 =>
 xO .eql 3 t70 (.int .i64 1) fun t71 =>
 k4 t71) <|
 k4 (.bool false)) fun t63 =>
 xW t63
 (OpX Tryz.prog (.nilCheck (.const p0)) 0 fun t74 =>
 xF 267 t74 4 fun t75 =>
 xS 3 t75 (.int .i64 0) <|
 xC 222 [.const p0] [213] 0 fun _ =>
 K (.tuple #[])) <|
 K (.tuple #[])) <|
 K (.tuple #[])
theorem R9 (p0 p1 p2:Value):Lk 223 #[p0,p1,p2] (PH p0 p1 p2):=lk [p0,p1,p2] [(8,[]),(13,[29]),(26,[33]),(36,[63])] Tryz.func223
theorem Ti:Ad Tryz.prog 223:=bd Tryz.func223
def OE (p0 p1:Value) (K:Value→World→Prop):World→Prop :=
 xB 112 p1 fun t3 =>
 Join0 (fun k1 =>
 xF 112 t3 1 fun t5 =>
 xL 21 t5 fun t6 =>
 xO .eql 21 t6 (.int .i32 109) fun t8 =>
 xW t8
 (Ai <|
 xP (.nilCheck (.const p0)) 0 fun t11 =>
 qF 267 t11 5 fun t12 =>
 qF 264 t12 2 fun t13 =>
 qL 43 t13 fun t14 =>
 qL 112 t3 fun t15 =>
 xC 251 [.const t14,.const t15] [43,112] 43 fun t16 =>
 xP (.nilCheck (.const p0)) 0 fun t17 =>
 qF 267 t17 5 fun t18 =>
 qF 264 t18 2 fun t19 =>
 xS 43 t19 t16 <|
 k1) <|
 xO .eql 21 t6 (.int .i32 103) fun t21 =>
 xW t21
 (xL 112 t3 fun t22 =>
 xC 252 [.const t22,.const (.int .i64 0),.const (.int .i64 0)] [112,3,3] 3 fun t23 =>
 xO .eql 3 t23 (.int .i64 0) fun t25 =>
 xW t25
 (Ai <|
 xP (.nilCheck (.const p0)) 0 fun t28 =>
 qF 267 t28 5 fun t29 =>
 qF 264 t29 0 fun t30 =>
 qL 3 t30 fun t31 =>
 xP (.nilCheck (.const p0)) 0 fun t32 =>
 qF 267 t32 8 fun t33 =>
 xP (.indexAddr 127 (.const t33) (.const t31)) 0 fun t34 =>
 xS 4 t34 (.bool false) <|
 k1) <|
 xO .eql 3 t23 (.int .i64 3) fun t36 =>
 xW t36
 (OpX Tryz.prog (.build 127 #[]) 127 fun t38 =>
 OpX Tryz.prog (.nilCheck (.const p0)) 0 fun t39 =>
 xF 267 t39 8 fun t40 =>
 xS 127 t40 t38 <|
 k1) <|
 k1) <|
 xO .eql 21 t6 (.int .i32 115) fun t42 =>
 xW t42
 (xC 220 [.const p0] [213] 0 fun _ =>
 k1) <|
 K (.bool false)) <|
 K (.bool true)
theorem R7 (p0 p1:Value):Lk 224 #[p0,p1] (OE p0 p1):=lk [p0,p1] [(2,[])] Tryz.func224
theorem Z9:Ad Tryz.prog 224:=bd Tryz.func224
def JJ (p0 p1:Value) (K:Value→World→Prop):World→Prop :=
 xB 112 p1 fun t3 =>
 xL 112 t3 fun t8 =>
 xC 252 [.const t8,.const (.int .i64 0),.const (.int .i64 1)] [112,3,3] 3 fun t9 =>
 OpX Tryz.prog (.call { callee:=.builtin .min,args:=#[.const t9,.const (.int .i64 9999)],argTypes:=#[3,3] }) 3 fun t10 =>
 xF 112 t3 1 fun t11 =>
 xL 21 t11 fun t12 =>
 Join0 (fun k1 =>
 Join0 (fun k2 =>
 Join0 (fun k3 =>
 xO .eql 21 t12 (.int .i32 70) fun t14 =>
 xW t14
 (OpX Tryz.prog (.nilCheck (.const p0)) 0 fun t36 =>
 xF 267 t36 5 fun t37 =>
 xF 264 t37 0 fun t38 =>
 xS 3 t38 (.int .i64 0) <|
 k3) <|
 xO .eql 21 t12 (.int .i32 65) fun t16 =>
 xW t16
 (k3) <|
 xO .eql 21 t12 (.int .i32 69) fun t18 =>
 xW t18
 (OpX Tryz.prog (.nilCheck (.const p0)) 0 fun t67 =>
 xF 267 t67 5 fun t68 =>
 xF 264 t68 0 fun t69 =>
 xS 3 t69 (.int .i64 0) <|
 k2) <|
 xO .eql 21 t12 (.int .i32 66) fun t20 =>
 xW t20
 (k2) <|
 xO .eql 21 t12 (.int .i32 67) fun t22 =>
 xW t22
 (Ai <|
 xP (.nilCheck (.const p0)) 0 fun t106 =>
 qF 267 t106 5 fun t107 =>
 qF 264 t107 0 fun t108 =>
 qL 3 t108 fun t109 =>
 qP .add 3 t109 t10 fun t111 =>
 xP (.nilCheck (.const p0)) 0 fun t113 =>
 qF 267 t113 5 fun t114 =>
 qF 264 t114 1 fun t115 =>
 qL 3 t115 fun t116 =>
 xC 209 [.const p0,.const t111,.const t116] [213,3,3] 0 fun _ =>
 k1) <|
 xO .eql 21 t12 (.int .i32 68) fun t24 =>
 xW t24
 (Ai <|
 xP (.nilCheck (.const p0)) 0 fun t120 =>
 qF 267 t120 5 fun t121 =>
 qF 264 t121 0 fun t122 =>
 qL 3 t122 fun t123 =>
 qP .sub 3 t123 t10 fun t125 =>
 xP (.nilCheck (.const p0)) 0 fun t127 =>
 qF 267 t127 5 fun t128 =>
 qF 264 t128 1 fun t129 =>
 qL 3 t129 fun t130 =>
 xC 209 [.const p0,.const t125,.const t130] [213,3,3] 0 fun _ =>
 k1) <|
 Join1 (fun k4 =>
 xO .eql 21 t12 (.int .i32 71) fun t26 =>
 xW t26
 (k4 (.bool true)) <|
 xO .eql 21 t12 (.int .i32 96) fun t27 =>
 k4 t27) fun t25 =>
 xW t25
 (xO .sub 3 t10 (.int .i64 1) fun t134 =>
 OpX Tryz.prog (.nilCheck (.const p0)) 0 fun t136 =>
 xF 267 t136 5 fun t137 =>
 xF 264 t137 1 fun t138 =>
 xL 3 t138 fun t139 =>
 xC 209 [.const p0,.const t134,.const t139] [213,3,3] 0 fun _ =>
 k1) <|
 xO .eql 21 t12 (.int .i32 100) fun t29 =>
 xW t29
 (OpX Tryz.prog (.nilCheck (.const p0)) 0 fun t143 =>
 xF 267 t143 5 fun t144 =>
 xF 264 t144 0 fun t145 =>
 xL 3 t145 fun t146 =>
 xO .sub 3 t10 (.int .i64 1) fun t148 =>
 xC 209 [.const p0,.const t146,.const t148] [213,3,3] 0 fun _ =>
 k1) <|
 Join1 (fun k5 =>
 xO .eql 21 t12 (.int .i32 72) fun t31 =>
 xW t31
 (k5 (.bool true)) <|
 xO .eql 21 t12 (.int .i32 102) fun t32 =>
 k5 t32) fun t30 =>
 xW t30
 (xL 112 t3 fun t151 =>
 xC 252 [.const t151,.const (.int .i64 1),.const (.int .i64 1)] [112,3,3] 3 fun t152 =>
 xO .sub 3 t152 (.int .i64 1) fun t153 =>
 xO .sub 3 t10 (.int .i64 1) fun t155 =>
 xC 209 [.const p0,.const t153,.const t155] [213,3,3] 0 fun _ =>
 k1) <|
 xO .eql 21 t12 (.int .i32 117) fun t34 =>
 xW t34
 (xC 222 [.const p0] [213] 0 fun _ =>
 k1) <|
 K (.bool false)) <|
 Join1 (fun k6 =>
 Ai <|
 xP (.nilCheck (.const p0)) 0 fun t40 =>
 qF 267 t40 5 fun t41 =>
 qF 264 t41 1 fun t42 =>
 qL 3 t42 fun t43 =>
 xP (.nilCheck (.const p0)) 0 fun t45 =>
 qF 267 t45 6 fun t46 =>
 qL 3 t46 fun t47 =>
 qP .geq 3 t43 t47 fun t48 =>
 xW t48
 (OpX Tryz.prog (.nilCheck (.const p0)) 0 fun t50 =>
 xF 267 t50 6 fun t51 =>
 xL 3 t51 fun t52 =>
 k6 t52) <|
 k6 (.int .i64 0)) fun t6 =>
 OpX Tryz.prog (.nilCheck (.const p0)) 0 fun t55 =>
 xF 267 t55 5 fun t56 =>
 xF 264 t56 1 fun t57 =>
 xL 3 t57 fun t58 =>
 xO .sub 3 t58 t10 fun t60 =>
 OpX Tryz.prog (.call { callee:=.builtin .max,args:=#[.const t60,.const t6],argTypes:=#[3,3] }) 3 fun t62 =>
 OpX Tryz.prog (.nilCheck (.const p0)) 0 fun t63 =>
 xF 267 t63 5 fun t64 =>
 xF 264 t64 1 fun t65 =>
 xS 3 t65 t62 <|
 k1) <|
 OpX Tryz.prog (.nilCheck (.const p0)) 0 fun t71 =>
 xF 267 t71 1 fun t72 =>
 xL 3 t72 fun t73 =>
 xO .sub 3 t73 (.int .i64 1) fun t74 =>
 Join1 (fun k7 =>
 Ai <|
 xP (.nilCheck (.const p0)) 0 fun t76 =>
 qF 267 t76 5 fun t77 =>
 qF 264 t77 1 fun t78 =>
 qL 3 t78 fun t79 =>
 xP (.nilCheck (.const p0)) 0 fun t81 =>
 qF 267 t81 7 fun t82 =>
 qL 3 t82 fun t83 =>
 qP .sub 3 t83 (.int .i64 1) fun t84 =>
 qP .leq 3 t79 t84 fun t85 =>
 xW t85
 (OpX Tryz.prog (.nilCheck (.const p0)) 0 fun t87 =>
 xF 267 t87 7 fun t88 =>
 xL 3 t88 fun t89 =>
 xO .sub 3 t89 (.int .i64 1) fun t90 =>
 k7 t90) <|
 k7 t74) fun t7 =>
 OpX Tryz.prog (.nilCheck (.const p0)) 0 fun t93 =>
 xF 267 t93 5 fun t94 =>
 xF 264 t94 1 fun t95 =>
 xL 3 t95 fun t96 =>
 xO .add 3 t96 t10 fun t98 =>
 OpX Tryz.prog (.call { callee:=.builtin .min,args:=#[.const t98,.const t7],argTypes:=#[3,3] }) 3 fun t100 =>
 OpX Tryz.prog (.nilCheck (.const p0)) 0 fun t101 =>
 xF 267 t101 5 fun t102 =>
 xF 264 t102 1 fun t103 =>
 xS 3 t103 t100 <|
 k1) <|
 K (.bool true)
theorem UZ (p0 p1:Value):Lk 225 #[p0,p1] (JJ p0 p1):=lk [p0,p1] [(7,[]),(23,[]),(27,[]),(68,[25]),(84,[30]),(103,[6]),(115,[7])] Tryz.func225
theorem Su:Ad Tryz.prog 225:=bd Tryz.func225
def J5 (p0 p1:Value) (K:Value→World→Prop):World→Prop :=
 xB 213 p0 fun t2 =>
 xB 112 p1 fun t3 =>
 xL 112 t3 fun t8 =>
 xC 252 [.const t8,.const (.int .i64 0),.const (.int .i64 1)] [112,3,3] 3 fun t9 =>
 OpX Tryz.prog (.call { callee:=.builtin .min,args:=#[.const t9,.const (.int .i64 9999)],argTypes:=#[3,3] }) 3 fun t10 =>
 xA 3 fun t5 =>
 xS 3 t5 t10 <|
 Ai <|
 qL 213 t2 fun t11 =>
 xP (.nilCheck (.const t11)) 0 fun t12 =>
 qF 267 t12 5 fun t13 =>
 qF 264 t13 0 fun t14 =>
 qL 3 t14 fun t15 =>
 qL 213 t2 fun t16 =>
 xP (.nilCheck (.const t16)) 0 fun t17 =>
 qF 267 t17 5 fun t18 =>
 qF 264 t18 1 fun t19 =>
 qL 3 t19 fun t20 =>
 xA 3 fun t6 =>
 xT (qZ 3 t19 t20) <|
 xT (qZ 213 t2 t16) <|
 xT (qZ 3 t14 t15) <|
 xT (qZ 213 t2 t11) <|
 xS 3 t6 t15 <|
 xT (qZ 3 t19 t20) <|
 xT (qZ 213 t2 t16) <|
 xF 112 t3 1 fun t21 =>
 xL 21 t21 fun t22 =>
 Join0 (fun k1 =>
 Join0 (fun k2 =>
 Join0 (fun k3 =>
 Join0 (fun k4 =>
 xO .eql 21 t22 (.int .i32 74) fun t24 =>
 xW t24
 (xL 112 t3 fun t43 =>
 xC 252 [.const t43,.const (.int .i64 0),.const (.int .i64 0)] [112,3,3] 3 fun t44 =>
 xO .eql 3 t44 (.int .i64 0) fun t46 =>
 xW t46
 (Ai <|
 qL 213 t2 fun t47 =>
 qP .add 3 t20 (.int .i64 1) fun t49 =>
 qL 213 t2 fun t50 =>
 xP (.nilCheck (.const t50)) 0 fun t51 =>
 qF 267 t51 1 fun t52 =>
 qL 3 t52 fun t53 =>
 xC 253 [.const t47,.const t49,.const t53] [213,3,3] 0 fun _ =>
 k4) <|
 xO .eql 3 t44 (.int .i64 1) fun t56 =>
 xW t56
 (xL 213 t2 fun t57 =>
 xC 253 [.const t57,.const (.int .i64 0),.const t20] [213,3,3] 0 fun _ =>
 k4) <|
 xO .eql 3 t44 (.int .i64 2) fun t61 =>
 xW t61
 (Ai <|
 qL 213 t2 fun t62 =>
 qL 213 t2 fun t63 =>
 xP (.nilCheck (.const t63)) 0 fun t64 =>
 qF 267 t64 1 fun t65 =>
 qL 3 t65 fun t66 =>
 xC 253 [.const t62,.const (.int .i64 0),.const t66] [213,3,3] 0 fun _ =>
 k4) <|
 k4) <|
 xO .eql 21 t22 (.int .i32 75) fun t26 =>
 xW t26
 (k4) <|
 xO .eql 21 t22 (.int .i32 77) fun t28 =>
 xW t28
 (xL 3 t5 fun t93 =>
 OpX Tryz.prog (.unOp .neg 3 (.const t93)) 3 fun t94 =>
 xS 3 t5 t94 <|
 k3) <|
 xO .eql 21 t22 (.int .i32 76) fun t30 =>
 xW t30
 (k3) <|
 xO .eql 21 t22 (.int .i32 80) fun t32 =>
 xW t32
 (xL 3 t5 fun t118 =>
 OpX Tryz.prog (.unOp .neg 3 (.const t118)) 3 fun t119 =>
 xS 3 t5 t119 <|
 k2) <|
 xO .eql 21 t22 (.int .i32 64) fun t34 =>
 xW t34
 (k2) <|
 xO .eql 21 t22 (.int .i32 88) fun t36 =>
 xW t36
 (xL 213 t2 fun t123 =>
 xL 3 t6 fun t124 =>
 xL 3 t5 fun t125 =>
 xC 254 [.const t123,.const t124,.const t125] [213,3,3] 0 fun _ =>
 k1) <|
 xO .eql 21 t22 (.int .i32 83) fun t38 =>
 xW t38
 (xL 213 t2 fun t127 =>
 xL 3 t5 fun t128 =>
 xC 249 [.const t127,.const t128] [213,3] 0 fun _ =>
 k1) <|
 xO .eql 21 t22 (.int .i32 84) fun t40 =>
 xW t40
 (Ai <|
 qL 213 t2 fun t130 =>
 qL 213 t2 fun t131 =>
 xP (.nilCheck (.const t131)) 0 fun t132 =>
 qF 267 t132 6 fun t133 =>
 qL 3 t133 fun t134 =>
 qL 3 t5 fun t135 =>
 xP (.unOp .neg 3 (.const t135)) 3 fun t136 =>
 xC 250 [.const t130,.const t134,.const t136] [213,3,3] 0 fun _ =>
 k1) <|
 xO .eql 21 t22 (.int .i32 114) fun t42 =>
 xW t42
 (Ai <|
 qL 213 t2 fun t138 =>
 qL 3 t5 fun t139 =>
 qP .sub 3 t139 (.int .i64 1) fun t140 =>
 qL 112 t3 fun t141 =>
 xC 252 [.const t141,.const (.int .i64 1),.const (.int .i64 0)] [112,3,3] 3 fun t142 =>
 xT (qZ 3 t5 t139) <|
 xT (qZ 213 t2 t138) <|
 xC 258 [.const t138,.const t140,.const t142] [213,3,3] 0 fun _ =>
 k1) <|
 K (.bool false)) <|
 xL 112 t3 fun t68 =>
 xC 252 [.const t68,.const (.int .i64 0),.const (.int .i64 0)] [112,3,3] 3 fun t69 =>
 xO .eql 3 t69 (.int .i64 0) fun t71 =>
 xW t71
 (Ai <|
 qL 213 t2 fun t72 =>
 qL 3 t6 fun t73 =>
 qL 213 t2 fun t74 =>
 xP (.nilCheck (.const t74)) 0 fun t75 =>
 qF 267 t75 0 fun t76 =>
 qL 3 t76 fun t77 =>
 xC 254 [.const t72,.const t73,.const t77] [213,3,3] 0 fun _ =>
 k1) <|
 xO .eql 3 t69 (.int .i64 1) fun t80 =>
 xW t80
 (xL 213 t2 fun t81 =>
 xL 3 t6 fun t82 =>
 xO .add 3 t82 (.int .i64 1) fun t83 =>
 xC 254 [.const t81,.const (.int .i64 0),.const t83] [213,3,3] 0 fun _ =>
 k1) <|
 xO .eql 3 t69 (.int .i64 2) fun t86 =>
 xW t86
 (Ai <|
 qL 213 t2 fun t87 =>
 qL 213 t2 fun t88 =>
 xP (.nilCheck (.const t88)) 0 fun t89 =>
 qF 267 t89 0 fun t90 =>
 qL 3 t90 fun t91 =>
 xC 254 [.const t87,.const (.int .i64 0),.const t91] [213,3,3] 0 fun _ =>
 k1) <|
 k1) <|
 Join1 (fun k5 =>
 xL 213 t2 fun t96 =>
 OpX Tryz.prog (.nilCheck (.const t96)) 0 fun t97 =>
 xF 267 t97 6 fun t98 =>
 xL 3 t98 fun t99 =>
 xO .geq 3 t20 t99 fun t100 =>
 xW t100
 (xL 213 t2 fun t103 =>
 OpX Tryz.prog (.nilCheck (.const t103)) 0 fun t104 =>
 xF 267 t104 7 fun t105 =>
 xL 3 t105 fun t106 =>
 xO .lss 3 t20 t106 fun t107 =>
 k5 t107) <|
 k5 (.bool false)) fun t108 =>
 xW t108
 (xL 213 t2 fun t109 =>
 xL 3 t5 fun t111 =>
 OpX Tryz.prog (.unOp .neg 3 (.const t111)) 3 fun t112 =>
 xC 250 [.const t109,.const t20,.const t112] [213,3,3] 0 fun _ =>
 xL 213 t2 fun t114 =>
 OpX Tryz.prog (.nilCheck (.const t114)) 0 fun t115 =>
 xF 267 t115 5 fun t116 =>
 xF 264 t116 0 fun t117 =>
 xS 3 t117 (.int .i64 0) <|
 k1) <|
 k1) <|
 xL 213 t2 fun t120 =>
 OpX Tryz.prog (.makeFunc (.func 255) #[] #[.const t6,.const t5,.const t2]) 292 fun t121 =>
 xC 217 [.const t120,.const t121] [213,292] 0 fun _ =>
 k1) <|
 K (.bool true)
theorem Ym (p0 p1:Value):Lk 226 #[p0,p1] (J5 p0 p1):=lk [p0,p1] [(9,[]),(21,[]),(25,[]),(29,[]),(130,[108])] Tryz.func226
theorem ZY:Ad Tryz.prog 226:=bd Tryz.func226
def J7 (p0 p1:Value) (K:Value→World→Prop):World→Prop :=
 Join0 (fun k1 =>
 Join1 (fun k2 =>
 OpX Tryz.prog (.nilCheck (.const p0)) 0 fun t6 =>
 xF 267 t6 6 fun t7 =>
 xL 3 t7 fun t8 =>
 xO .eql 3 t8 (.int .i64 0) fun t9 =>
 xW t9
 (OpX Tryz.prog (.nilCheck (.const p0)) 0 fun t12 =>
 xF 267 t12 4 fun t13 =>
 xL 3 t13 fun t14 =>
 xO .eql 3 t14 (.int .i64 0) fun t15 =>
 k2 t15) <|
 k2 (.bool false)) fun t16 =>
 xW t16
 (OpX Tryz.prog (.nilCheck (.const p0)) 0 fun t19 =>
 xF 267 t19 7 fun t20 =>
 xL 3 t20 fun t21 =>
 OpX Tryz.prog (.call { callee:=.builtin .min,args:=#[.const p1,.const t21],argTypes:=#[3,3] }) 3 fun t22 =>
 Loop1 (.int .i64 0) fun t23 next3 =>
 xO .lss 3 t23 t22 fun t24 =>
 xW t24
 (Ai <|
 xP (.nilCheck (.const p0)) 0 fun t28 =>
 qF 267 t28 12 fun t29 =>
 qL 128 t29 fun t30 =>
 xP (.nilCheck (.const p0)) 0 fun t32 =>
 qF 267 t32 2 fun t33 =>
 xP (.indexAddr 123 (.const t33) (.const (.int .i64 0))) 0 fun t34 =>
 qL 38 t34 fun t35 =>
 xC 191 [.const t35,.const t23] [38,3] 36 fun t37 =>
 xT (qZ 128 t29 t30) <|
 OpX Tryz.prog (.buildSlice 128 1 #[(0,.const t37)]) 128 fun t38 =>
 xT (qZ 128 t29 t30) <|
 OpX Tryz.prog (.call { callee:=.builtin .append,args:=#[.const t30,.const t38],argTypes:=#[128,128] }) 128 fun t39 =>
 xP (.nilCheck (.const p0)) 0 fun t40 =>
 qF 267 t40 12 fun t41 =>
 xS 128 t41 t39 <|
 xO .add 3 t23 (.int .i64 1) fun t42 =>
 next3 t42) <|
 Ai <|
 xP (.nilCheck (.const p0)) 0 fun t45 =>
 qF 267 t45 12 fun t46 =>
 qL 128 t46 fun t47 =>
 xP (.nilCheck (.const p0)) 0 fun t49 =>
 qF 267 t49 12 fun t50 =>
 qL 128 t50 fun t51 =>
 xR (.call { callee:=.builtin .len,args:=#[.const t51],argTypes:=#[128] }) 3 fun t52 =>
 qP .sub 3 t52 (.int .i64 500) fun t53 =>
 xP (.call { callee:=.builtin .max,args:=#[.const t53,.const (.int .i64 0)],argTypes:=#[3,3] }) 3 fun t54 =>
 xC 265 [.const t47,.const (.int .i64 0),.const t54] [128,3,3] 128 fun t55 =>
 xP (.nilCheck (.const p0)) 0 fun t56 =>
 qF 267 t56 12 fun t57 =>
 xS 128 t57 t55 <|
 k1) <|
 k1) <|
 OpX Tryz.prog (.nilCheck (.const p0)) 0 fun t60 =>
 xF 267 t60 6 fun t61 =>
 xL 3 t61 fun t62 =>
 xC 250 [.const p0,.const t62,.const p1] [213,3,3] 0 fun _ =>
 K (.tuple #[])
theorem VV (p0 p1:Value):Lk 249 #[p0,p1] (J7 p0 p1):=lk [p0,p1] [(0,[]),(2,[16]),(8,[23])] Tryz.func249
theorem J9:Ad Tryz.prog 249:=bd Tryz.func249
def LX (p0 p1 p2:Value) (K:Value→World→Prop):World→Prop :=
 Ai <|
 xP (.nilCheck (.const p0)) 0 fun t9 =>
 qF 267 t9 4 fun t10 =>
 qL 3 t10 fun t11 =>
 xP (.nilCheck (.const p0)) 0 fun t12 =>
 qF 267 t12 2 fun t13 =>
 xP (.indexAddr 123 (.const t13) (.const t11)) 0 fun t14 =>
 Ai <|
 xP (.nilCheck (.const t14)) 0 fun t17 =>
 qL 38 t17 fun t18 =>
 xP (.nilCheck (.const p0)) 0 fun t21 =>
 qF 267 t21 7 fun t22 =>
 qL 3 t22 fun t23 =>
 xC 257 [.const p0] [213] 43 fun t26 =>
 xT (qZ 3 t22 t23) <|
 xT (qZ 38 t17 t18) <|
 xC 266 [.const t18,.const p1,.const t23,.const p2,.const t26] [38,3,3,3,43] 38 fun t27 =>
 xP (.nilCheck (.const t14)) 0 fun t28 =>
 xS 38 t28 t27 <|
 K (.tuple #[])
theorem Zh (p0 p1 p2:Value):Lk 250 #[p0,p1,p2] (LX p0 p1 p2):=lk [p0,p1,p2] [] Tryz.func250
theorem FK:Ad Tryz.prog 250:=bd Tryz.func250
def Pu (p0 p1 p2:Value) (K:Value→World→Prop):World→Prop :=
 Ai <|
 xP (.nilCheck (.const p0)) 0 fun t9 =>
 qF 267 t9 4 fun t10 =>
 qL 3 t10 fun t11 =>
 xP (.nilCheck (.const p0)) 0 fun t12 =>
 qF 267 t12 2 fun t13 =>
 xP (.indexAddr 123 (.const t13) (.const t11)) 0 fun t14 =>
 Ai <|
 Join0 (fun k1 =>
 xP (.nilCheck (.const t14)) 0 fun t17 =>
 qL 38 t17 fun t18 =>
 xP (.nilCheck (.const p0)) 0 fun t21 =>
 qF 267 t21 0 fun t22 =>
 qL 3 t22 fun t23 =>
 xT (OpX Tryz.prog (.build 49 #[(1,.const p1),(2,.const t23),(3,.const p2)]) 49 fun t25 =>
 xT (qZ 38 t17 t18) <|
 xC 257 [.const p0] [213] 43 fun t27 =>
 xT (qZ 38 t17 t18) <|
 xC 34 [.const t18,.const t25,.const t27] [38,49,43] 38 fun t28 =>
 xP (.nilCheck (.const t14)) 0 fun t29 =>
 xS 38 t29 t28 <|
 k1) <|
 xC 257 [.const p0] [213] 43 fun t27_1 =>
 xT (qZ 3 t22 t23) <|
 xT (qZ 38 t17 t18) <|
 OpX Tryz.prog (.build 49 #[(1,.const p1),(2,.const t23),(3,.const p2)]) 49 fun t25_1 =>
 xT (qZ 38 t17 t18) <|
 xC 34 [.const t18,.const t25_1,.const t27_1] [38,49,43] 38 fun t28_1 =>
 xP (.nilCheck (.const t14)) 0 fun t29_1 =>
 xS 38 t29_1 t28_1 <|
 k1) <|
 K (.tuple #[])
theorem ZS (p0 p1 p2:Value):Lk 253 #[p0,p1,p2] (Pu p0 p1 p2):=lk [p0,p1,p2] [(2,[])] Tryz.func253
theorem Jr:Ad Tryz.prog 253:=bd Tryz.func253
def L7 (p0 p1 p2:Value) (K:Value→World→Prop):World→Prop :=
 xB 213 p0 fun t3 =>
 xB 3 p1 fun t4 =>
 xB 3 p2 fun t5 =>
 xL 213 t3 fun t6 =>
 OpX Tryz.prog (.makeFunc (.func 270) #[] #[.const t4,.const t5,.const t3]) 292 fun t7 =>
 xC 217 [.const t6,.const t7] [213,292] 0 fun _ =>
 K (.tuple #[])
theorem QJ (p0 p1 p2:Value):Lk 254 #[p0,p1,p2] (L7 p0 p1 p2):=lk [p0,p1,p2] [] Tryz.func254
theorem Hf:Ad Tryz.prog 254:=bd Tryz.func254
def JY (p0 p1 p2 p3:Value) (K:Value→World→Prop):World→Prop :=
 xB 38 p0 fun t4 =>
 xA 38 fun t5 =>
 Ai <|
 qL 38 t4 fun t6 =>
 qL 3 p1 fun t7 =>
 qL 3 p2 fun t8 =>
 qL 213 p3 fun t9 =>
 xC 257 [.const t9] [213] 43 fun t10 =>
 xT (qZ 3 p2 t8) <|
 xT (qZ 3 p1 t7) <|
 xT (qZ 38 t4 t6) <|
 xC 256 [.const t6,.const t7,.const (.int .i64 0),.const t8,.const t10] [38,3,3,3,43] 38 fun t11 =>
 xS 38 t5 t11 <|
 xD 38 t5 fun t5_1 =>
 K t5_1
theorem Sb (p0 p1 p2 p3:Value):Lk 255 #[p0,p1,p2,p3] (JY p0 p1 p2 p3):=lk [p0,p1,p2,p3] [] Tryz.func255
theorem RZ:Ad Tryz.prog 255:=bd Tryz.func255
def K2 (p0:Value) (K:Value→World→Prop):World→Prop :=
 xA 43 fun t2 =>
 xC 33 [] [] 43 fun t4 =>
 xA 43 fun t3 =>
 xS 43 t3 t4 <|
 OpX Tryz.prog (.nilCheck (.const p0)) 0 fun t6 =>
 xF 267 t6 5 fun t7 =>
 xF 264 t7 2 fun t8 =>
 xF 43 t8 2 fun t9 =>
 xL 5 t9 fun t10 =>
 xF 43 t3 2 fun t11 =>
 xS 5 t11 t10 <|
 xL 43 t3 fun t12 =>
 xS 43 t2 t12 <|
 xD 43 t2 fun t2_1 =>
 K t2_1
theorem Uj (p0:Value):Lk 257 #[p0] (K2 p0):=lk [p0] [] Tryz.func257
theorem G4:Ad Tryz.prog 257:=bd Tryz.func257
def NL (p0 p1 p2:Value) (K:Value→World→Prop):World→Prop :=
 Join1 (fun k1 =>
 Join1 (fun k2 =>
 xO .eql 3 p2 (.int .i64 0) fun t7 =>
 xW t7
 (k2 (.bool true)) <|
 OpX Tryz.prog (.nilCheck (.const p0)) 0 fun t11 =>
 xF 267 t11 1 fun t12 =>
 xL 3 t12 fun t13 =>
 xO .gtr 3 p2 t13 fun t14 =>
 k2 t14) fun t15 =>
 xW t15
 (OpX Tryz.prog (.nilCheck (.const p0)) 0 fun t17 =>
 xF 267 t17 1 fun t18 =>
 xL 3 t18 fun t19 =>
 k1 t19) <|
 k1 p2) fun t2 =>
 xO .sub 3 t2 (.int .i64 1) fun t22 =>
 xO .lss 3 p1 t22 fun t23 =>
 xW t23
 (OpX Tryz.prog (.nilCheck (.const p0)) 0 fun t28 =>
 xF 267 t28 6 fun t29 =>
 xS 3 t29 p1 <|
 OpX Tryz.prog (.nilCheck (.const p0)) 0 fun t30 =>
 xF 267 t30 7 fun t31 =>
 xS 3 t31 t2 <|
 xC 209 [.const p0,.const (.int .i64 0),.const (.int .i64 0)] [213,3,3] 0 fun _ =>
 K (.tuple #[])) <|
 K (.tuple #[])
theorem U7 (p0 p1 p2:Value):Lk 258 #[p0,p1,p2] (NL p0 p1 p2):=lk [p0,p1,p2] [(0,[2]),(2,[15])] Tryz.func258
theorem WQ:Ad Tryz.prog 258:=bd Tryz.func258
def KD (p0 p1 p2 p3:Value) (K:Value→World→Prop):World→Prop :=
 xB 38 p0 fun t4 =>
 xA 38 fun t5 =>
 Ai <|
 Join0 (fun k1 =>
 qL 38 t4 fun t6 =>
 qL 3 p1 fun t7 =>
 qL 3 p2 fun t8 =>
 qL 213 p3 fun t10 =>
 xT (OpX Tryz.prog (.build 49 #[(0,.const t7),(2,.const t8),(3,.const (.int .i64 1))]) 49 fun t9 =>
 xT (qZ 213 p3 t10) <|
 xT (qZ 38 t4 t6) <|
 xC 257 [.const t10] [213] 43 fun t11 =>
 xT (qZ 38 t4 t6) <|
 xC 34 [.const t6,.const t9,.const t11] [38,49,43] 38 fun t12 =>
 xS 38 t5 t12 <|
 k1) <|
 xC 257 [.const t10] [213] 43 fun t11_1 =>
 xT (qZ 3 p2 t8) <|
 xT (qZ 3 p1 t7) <|
 xT (qZ 38 t4 t6) <|
 OpX Tryz.prog (.build 49 #[(0,.const t7),(2,.const t8),(3,.const (.int .i64 1))]) 49 fun t9_1 =>
 xT (qZ 38 t4 t6) <|
 xC 34 [.const t6,.const t9_1,.const t11_1] [38,49,43] 38 fun t12_1 =>
 xS 38 t5 t12_1 <|
 k1) <|
 xD 38 t5 fun t5_1 =>
 K t5_1
theorem RU (p0 p1 p2 p3:Value):Lk 270 #[p0,p1,p2,p3] (KD p0 p1 p2 p3):=lk [p0,p1,p2,p3] [(3,[])] Tryz.func270
theorem YX:Ad Tryz.prog 270:=bd Tryz.func270
def Np (p0 p1:Value) (K:Value→World→Prop):World→Prop :=
 xB 43 p0 fun t2 =>
 xB 112 p1 fun t3 =>
 xA 43 fun t4 =>
 Join1 (fun k1 =>
 xF 112 t3 0 fun t10 =>
 xL 3 t10 fun t11 =>
 xO .neq 3 t11 (.int .i64 4) fun t12 =>
 xW t12
 (k1 (.bool true)) <|
 xF 112 t3 1 fun t14 =>
 xL 21 t14 fun t15 =>
 xO .neq 21 t15 (.int .i32 109) fun t16 =>
 xW t16
 (k1 (.bool true)) <|
 xF 112 t3 2 fun t19 =>
 xL 5 t19 fun t20 =>
 xO .neq 5 t20 (.int .u8 0) fun t21 =>
 xW t21
 (k1 (.bool true)) <|
 xF 112 t3 3 fun t24 =>
 xL 5 t24 fun t25 =>
 xO .neq 5 t25 (.int .u8 0) fun t26 =>
 k1 t26) fun t27 =>
 xW t27
 (xL 43 t2 fun t28 =>
 xS 43 t4 t28 <|
 xD 43 t4 fun t4_1 =>
 K t4_1) <|
 xF 112 t3 5 fun t29 =>
 xF 112 t3 4 fun t30 =>
 xL 3 t30 fun t31 =>
 OpX Tryz.prog (.call { callee:=.builtin .max,args:=#[.const t31,.const (.int .i64 0)],argTypes:=#[3,3] }) 3 fun t32 =>
 OpX Tryz.prog (.call { callee:=.builtin .min,args:=#[.const t32,.const (.int .i64 8)],argTypes:=#[3,3] }) 3 fun t33 =>
 OpX Tryz.prog (.slice 110 (.const t29) none (some (.const t33)) none) 98 fun t34 =>
 xA 98 fun t5 =>
 xS 98 t5 t34 <|
 Join0 (fun k2 =>
 xL 98 t5 fun t35 =>
 xU t35 98 fun t36 =>
 xO .eql 3 t36 (.int .i64 0) fun t37 =>
 xW t37
 (OpX Tryz.prog (.buildSlice 98 1 #[(0,.const (.int .i64 0))]) 98 fun t38 =>
 xS 98 t5 t38 <|
 k2) <|
 k2) <|
 OpX Tryz.prog (.makeFunc (.func 267) #[] #[.const t5]) 326 fun t39 =>
 Loop0 fun next3 =>
 xL 98 t5 fun t40 =>
 xU t40 98 fun t41 =>
 xO .gtr 3 t41 (.int .i64 0) fun t42 =>
 xW t42
 (OpX Tryz.prog (.call { callee:=.value (.const t39),args:=#[.const (.int .i64 1)],argTypes:=#[3] }) 98 fun t44 =>
 xI 98 t44 (.int .i64 0) fun t45 =>
 xL 3 t45 fun t46 =>
 Join1 (fun k4 =>
 xO .eql 3 t46 (.int .i64 38) fun t52 =>
 xW t52
 (k4 (.bool true)) <|
 xO .eql 3 t46 (.int .i64 48) fun t53 =>
 k4 t53) fun t51 =>
 xW t51
 (xC 268 [.const t39] [326] 327 fun t56 =>
 xE t56 0 5 fun t57 =>
 xE t56 1 4 fun t58 =>
 Join1 (fun k5 =>
 xW t58
 (xO .eql 3 t46 (.int .i64 38) fun t63 =>
 k5 t63) <|
 k5 (.bool false)) fun t59 =>
 xW t59
 (xF 43 t2 1 fun t66 =>
 xS 5 t66 t57 <|
 next3) <|
 xW t58
 (xF 43 t2 2 fun t70 =>
 xS 5 t70 t57 <|
 next3) <|
 next3) <|
 xL 43 t2 fun t48 =>
 xC 269 [.const t48,.const t46] [43,3] 43 fun t50 =>
 xS 43 t2 t50 <|
 next3) <|
 xL 43 t2 fun t71 =>
 xS 43 t4 t71 <|
 xD 43 t4 fun t4_2 =>
 K t4_2
theorem X8 (p0 p1:Value):Lk 251 #[p0,p1] (Np p0 p1):=lk [p0,p1] [(4,[27]),(12,[]),(22,[]),(35,[51]),(46,[59])] Tryz.func251
theorem az:Ad Tryz.prog 251:=bd Tryz.func251
def NC (p0 p1:Value) (K:Value→World→Prop):World→Prop :=
 xL 98 p1 fun t6 =>
 xU t6 98 fun t7 =>
 OpX Tryz.prog (.call { callee:=.builtin .min,args:=#[.const p0,.const t7],argTypes:=#[3,3] }) 3 fun t8 =>
 xL 98 p1 fun t9 =>
 OpX Tryz.prog (.slice 98 (.const t9) none (some (.const t8)) (some (.const t8))) 98 fun t12 =>
 xL 98 p1 fun t13 =>
 OpX Tryz.prog (.slice 98 (.const t13) (some (.const t8)) none none) 98 fun t15 =>
 xS 98 p1 t15 <|
 K t12
theorem QO (p0 p1:Value):Lk 267 #[p0,p1] (NC p0 p1):=lk [p0,p1] [] Tryz.func267
theorem Fv:Ad Tryz.prog 267:=bd Tryz.func267
def Ld (p0:Value) (K:Value→World→Prop):World→Prop :=
 OpX Tryz.prog (.call { callee:=.value (.const p0),args:=#[.const (.int .i64 1)],argTypes:=#[3] }) 98 fun t9 =>
 Join0 (fun k1 =>
 Join1 (fun k2 =>
 xU t9 98 fun t11 =>
 xO .eql 3 t11 (.int .i64 1) fun t12 =>
 xW t12
 (xI 98 t9 (.int .i64 0) fun t15 =>
 xL 3 t15 fun t16 =>
 xO .eql 3 t16 (.int .i64 5) fun t17 =>
 k2 t17) <|
 k2 (.bool false)) fun t18 =>
 xW t18
 (OpX Tryz.prog (.call { callee:=.value (.const p0),args:=#[.const (.int .i64 1)],argTypes:=#[3] }) 98 fun t20 =>
 xU t20 98 fun t22 =>
 xO .eql 3 t22 (.int .i64 1) fun t23 =>
 xW t23
 (xI 98 t20 (.int .i64 0) fun t25 =>
 xL 3 t25 fun t26 =>
 Join1 (fun k3 =>
 xO .lss 3 t26 (.int .i64 0) fun t28 =>
 xW t28
 (k3 (.bool true)) <|
 xO .gtr 3 t26 (.int .i64 255) fun t31 =>
 k3 t31) fun t32 =>
 xW t32
 (K (.tuple #[(.int .u8 0),(.bool false)])) <|
 xC 274 [.const t26] [3] 5 fun t34 =>
 K (.tuple #[t34,(.bool true)])) <|
 k1) <|
 k1) <|
 Join0 (fun k4 =>
 Join1 (fun k5 =>
 xU t9 98 fun t36 =>
 xO .eql 3 t36 (.int .i64 1) fun t37 =>
 xW t37
 (xI 98 t9 (.int .i64 0) fun t40 =>
 xL 3 t40 fun t41 =>
 xO .eql 3 t41 (.int .i64 2) fun t42 =>
 k5 t42) <|
 k5 (.bool false)) fun t43 =>
 xW t43
 (OpX Tryz.prog (.call { callee:=.value (.const p0),args:=#[.const (.int .i64 3)],argTypes:=#[3] }) 98 fun t45 =>
 xU t45 98 fun t47 =>
 xO .eql 3 t47 (.int .i64 3) fun t48 =>
 xW t48
 (Ai <|
 xP (.indexAddr 98 (.const t45) (.const (.int .i64 0))) 0 fun t50 =>
 qL 3 t50 fun t51 =>
 xP (.indexAddr 98 (.const t45) (.const (.int .i64 1))) 0 fun t53 =>
 qL 3 t53 fun t54 =>
 xP (.indexAddr 98 (.const t45) (.const (.int .i64 2))) 0 fun t56 =>
 qL 3 t56 fun t57 =>
 xC 275 [.const t51,.const t54,.const t57] [3,3,3] 5 fun t58 =>
 K (.tuple #[t58,(.bool true)])) <|
 k4) <|
 k4) <|
 OpX Tryz.prog (.call { callee:=.value (.const p0),args:=#[.const (.int .i64 8)],argTypes:=#[3] }) 98 fun _ =>
 K (.tuple #[(.int .u8 0),(.bool false)])
theorem QS (p0:Value):Lk 268 #[p0] (Ld p0):=lk [p0] [(4,[]),(6,[18]),(17,[32]),(28,[]),(30,[43])] Tryz.func268
theorem Qq:Ad Tryz.prog 268:=bd Tryz.func268
def Nt (p0 p1:Value) (K:Value→World→Prop):World→Prop :=
 xB 43 p0 fun t2 =>
 xA 43 fun t4 =>
 xC 276 [] [] 331 fun t6 =>
 xA 331 fun t5 =>
 xS 331 t5 t6 <|
 Join0 (fun k1 =>
 xO .eql 3 p1 (.int .i64 0) fun t9 =>
 xW t9
 (xF 43 t2 1 fun t10 =>
 xS 5 t10 (.int .u8 0) <|
 xF 43 t2 2 fun t11 =>
 xS 5 t11 (.int .u8 0) <|
 xF 43 t2 3 fun t12 =>
 xS 5 t12 (.int .u8 0) <|
 k1) <|
 Join1 (fun k2 =>
 xO .gtr 3 p1 (.int .i64 0) fun t15 =>
 xW t15
 (xO .lss 3 p1 (.int .i64 8) fun t18 =>
 k2 t18) <|
 k2 (.bool false)) fun t13 =>
 xW t13
 (Ai <|
 qF 43 t2 3 fun t20 =>
 qL 5 t20 fun t21 =>
 xP (.indexAddr 331 (.const t5) (.const p1)) 0 fun t23 =>
 qL 5 t23 fun t24 =>
 qP .or 5 t21 t24 fun t25 =>
 qF 43 t2 3 fun t26 =>
 xS 5 t26 t25 <|
 k1) <|
 xO .eql 3 p1 (.int .i64 22) fun t29 =>
 xW t29
 (xF 43 t2 3 fun t30 =>
 xL 5 t30 fun t31 =>
 xO .andNot 5 t31 (.int .u8 3) fun t32 =>
 xF 43 t2 3 fun t33 =>
 xS 5 t33 t32 <|
 k1) <|
 Join1 (fun k3 =>
 xO .geq 3 p1 (.int .i64 23) fun t36 =>
 xW t36
 (xO .leq 3 p1 (.int .i64 27) fun t39 =>
 k3 t39) <|
 k3 (.bool false)) fun t34 =>
 xW t34
 (Ai <|
 qF 43 t2 3 fun t41 =>
 qL 5 t41 fun t42 =>
 qP .sub 3 p1 (.int .i64 20) fun t44 =>
 xP (.indexAddr 331 (.const t5) (.const t44)) 0 fun t45 =>
 qL 5 t45 fun t46 =>
 qP .andNot 5 t42 t46 fun t47 =>
 qF 43 t2 3 fun t48 =>
 xS 5 t48 t47 <|
 k1) <|
 Join1 (fun k4 =>
 xO .geq 3 p1 (.int .i64 30) fun t51 =>
 xW t51
 (xO .leq 3 p1 (.int .i64 37) fun t54 =>
 k4 t54) <|
 k4 (.bool false)) fun t49 =>
 xW t49
 (xO .sub 3 p1 (.int .i64 30) fun t57 =>
 xC 274 [.const t57] [3] 5 fun t58 =>
 xF 43 t2 1 fun t59 =>
 xS 5 t59 t58 <|
 k1) <|
 xO .eql 3 p1 (.int .i64 39) fun t62 =>
 xW t62
 (xF 43 t2 1 fun t63 =>
 xS 5 t63 (.int .u8 0) <|
 k1) <|
 Join1 (fun k5 =>
 xO .geq 3 p1 (.int .i64 40) fun t66 =>
 xW t66
 (xO .leq 3 p1 (.int .i64 47) fun t69 =>
 k5 t69) <|
 k5 (.bool false)) fun t64 =>
 xW t64
 (xO .sub 3 p1 (.int .i64 40) fun t72 =>
 xC 274 [.const t72] [3] 5 fun t73 =>
 xF 43 t2 2 fun t74 =>
 xS 5 t74 t73 <|
 k1) <|
 xO .eql 3 p1 (.int .i64 49) fun t77 =>
 xW t77
 (xF 43 t2 2 fun t78 =>
 xS 5 t78 (.int .u8 0) <|
 k1) <|
 Join1 (fun k6 =>
 xO .geq 3 p1 (.int .i64 90) fun t81 =>
 xW t81
 (xO .leq 3 p1 (.int .i64 97) fun t84 =>
 k6 t84) <|
 k6 (.bool false)) fun t79 =>
 xW t79
 (xO .sub 3 p1 (.int .i64 82) fun t87 =>
 xC 274 [.const t87] [3] 5 fun t88 =>
 xF 43 t2 1 fun t89 =>
 xS 5 t89 t88 <|
 k1) <|
 Join1 (fun k7 =>
 xO .geq 3 p1 (.int .i64 100) fun t92 =>
 xW t92
 (xO .leq 3 p1 (.int .i64 107) fun t95 =>
 k7 t95) <|
 k7 (.bool false)) fun t90 =>
 xW t90
 (xO .sub 3 p1 (.int .i64 92) fun t98 =>
 xC 274 [.const t98] [3] 5 fun t99 =>
 xF 43 t2 2 fun t100 =>
 xS 5 t100 t99 <|
 k1) <|
 k1) <|
 xL 43 t2 fun t101 =>
 xS 43 t4 t101 <|
 xD 43 t4 fun t4_1 =>
 K t4_1
theorem Vc (p0 p1:Value):Lk 269 #[p0,p1] (Nt p0 p1):=lk [p0,p1] [(4,[]),(11,[13]),(19,[34]),(23,[49]),(31,[64]),(39,[79]),(43,[90])] Tryz.func269
theorem Zb:Ad Tryz.prog 269:=bd Tryz.func269
def NK (p0:Value) (K:Value→World→Prop):World→Prop :=
 OpX Tryz.prog (.call { callee:=.builtin .max,args:=#[.const p0,.const (.int .i64 1)],argTypes:=#[3,3] }) 3 fun t4 =>
 OpX Tryz.prog (.convert 3 5 (.const t4)) 5 fun t5 =>
 K t5
theorem VX (p0:Value):Lk 274 #[p0] (NK p0):=lk [p0] [] Tryz.func274
theorem E4:Ad Tryz.prog 274:=bd Tryz.func274
def K7 (p0 p1 p2:Value) (K:Value→World→Prop):World→Prop :=
 OpX Tryz.prog (.call { callee:=.value (.const (.func (.func 277) #[] #[])),args:=#[.const p0],argTypes:=#[3] }) 3 fun t10 =>
 xO .mul 3 (.int .i64 36) t10 fun t11 =>
 xO .add 3 (.int .i64 16) t11 fun t12 =>
 OpX Tryz.prog (.call { callee:=.value (.const (.func (.func 277) #[] #[])),args:=#[.const p1],argTypes:=#[3] }) 3 fun t15 =>
 xO .mul 3 (.int .i64 6) t15 fun t16 =>
 xO .add 3 t12 t16 fun t17 =>
 OpX Tryz.prog (.call { callee:=.value (.const (.func (.func 277) #[] #[])),args:=#[.const p2],argTypes:=#[3] }) 3 fun t20 =>
 xO .add 3 t17 t20 fun t21 =>
 OpX Tryz.prog (.convert 3 5 (.const t21)) 5 fun t22 =>
 K t22
theorem TU (p0 p1 p2:Value):Lk 275 #[p0,p1,p2] (K7 p0 p1 p2):=lk [p0,p1,p2] [] Tryz.func275
theorem aR:Ad Tryz.prog 275:=bd Tryz.func275
def Kd (K:Value→World→Prop):World→Prop :=
 xA 331 fun t0 =>
 OpX Tryz.prog (.build 331 #[(0,.const (.int .u8 0)),(1,.const (.int .u8 1)),(2,.const (.int .u8 2)),(3,.const (.int .u8 4)),(4,.const (.int .u8 8)),(5,.const (.int .u8 16)),(6,.const (.int .u8 0)),(7,.const (.int .u8 32))]) 331 fun t1 =>
 xS 331 t0 t1 <|
 xD 331 t0 fun t0_1 =>
 K t0_1
theorem aI:Lk 276 #[] (Kd):=lk [] [] Tryz.func276
theorem V5:Ad Tryz.prog 276:=bd Tryz.func276
def PU (p0:Value) (K:Value→World→Prop):World→Prop :=
 OpX Tryz.prog (.call { callee:=.builtin .max,args:=#[.const p0,.const (.int .i64 0)],argTypes:=#[3,3] }) 3 fun t4 =>
 OpX Tryz.prog (.call { callee:=.builtin .min,args:=#[.const t4,.const (.int .i64 255)],argTypes:=#[3,3] }) 3 fun t5 =>
 xO .quo 3 t5 (.int .i64 43) fun t6 =>
 K t6
theorem Z6 (p0:Value):Lk 277 #[p0] (PU p0):=lk [p0] [] Tryz.func277
theorem HB:Ad Tryz.prog 277:=bd Tryz.func277
def Ma (p0 p1 p2:Value) (K:Value→World→Prop):World→Prop :=
 xB 112 p0 fun t3 =>
 Join1 (fun k1 =>
 xO .lss 3 p1 (.int .i64 0) fun t8 =>
 xW t8
 (k1 (.bool true)) <|
 xO .geq 3 p1 (.int .i64 8) fun t11 =>
 xW t11
 (k1 (.bool true)) <|
 xF 112 t3 4 fun t15 =>
 xL 3 t15 fun t16 =>
 xO .geq 3 p1 t16 fun t17 =>
 k1 t17) fun t18 =>
 xW t18
 (K p2) <|
 xF 112 t3 5 fun t21 =>
 xI 110 t21 p1 fun t22 =>
 xL 3 t22 fun t23 =>
 OpX Tryz.prog (.call { callee:=.builtin .max,args:=#[.const t23,.const p2],argTypes:=#[3,3] }) 3 fun t25 =>
 K t25
theorem UE (p0 p1 p2:Value):Lk 252 #[p0,p1,p2] (Ma p0 p1 p2):=lk [p0,p1,p2] [(4,[18])] Tryz.func252
theorem D6:Ad Tryz.prog 252:=bd Tryz.func252
def Ke (p0 p1 p2:Value) (K:Value→World→Prop):World→Prop :=
 xU p0 128 fun t12 =>
 OpX Tryz.prog (.slice 128 (.const p0) (some (.const p1)) (some (.const p2)) (some (.const t12))) 128 fun _ =>
 xO .eql 3 p1 p2 fun t16 =>
 xW t16
 (K p0) <|
 xU p0 128 fun t19 =>
 Ai <|
 xP (.slice 128 (.const p0) none (some (.const p1)) none) 128 fun t22 =>
 xP (.slice 128 (.const p0) (some (.const p2)) none none) 128 fun t25 =>
 OpX Tryz.prog (.call { callee:=.builtin .append,args:=#[.const t22,.const t25],argTypes:=#[128,128] }) 128 fun t26 =>
 xU t26 128 fun t29 =>
 OpX Tryz.prog (.slice 128 (.const t26) (some (.const t29)) (some (.const t19)) none) 128 fun t31 =>
 OpX Tryz.prog (.call { callee:=.builtin .clear,args:=#[.const t31],argTypes:=#[128] }) 0 fun _ =>
 K t26
theorem WC (p0 p1 p2:Value):Lk 265 #[p0,p1,p2] (Ke p0 p1 p2):=lk [p0,p1,p2] [] Tryz.func265
theorem VC:Ad Tryz.prog 265:=bd Tryz.func265
end Go.Proofs.YtelplojmbjnplaaGreat
namespace Lyc
open Go
theorem WZ (c:Cel):c.tailOf.wide=false:=by
 have h:∀a:BitVec 8,((a &&& ~~~64#8) ||| 128#8) &&& 64#8=0#8:=by decide
 simp only[Cel.wide,Cel.tailOf,h];rfl
theorem Zi {c:Cel} (h:c.plain=true):c.wide=false:=by
 have h1:∀a:BitVec 8,a &&& 192#8=0#8→a &&& 64#8=0#8:=by decide
 simp only[Cel.plain,decide_eq_true_eq] at h
 simp [Cel.wide,h1 _ h]
theorem Y8 {c d:Cel} (h:BS c d=true):c.wide=true∧c.check=true∧d=c.tailOf:=by
 simpa [BS,and_assoc] using h
theorem Kn {c d:Cel} (h:c.wide=false):BS c d=false:=by simp [BS,h]
theorem PT (c d:Cel) (l:List Cel):Bp (c::d::l) 0=BS c d:=rfl
def DW (l:List Cel):Nat→Bool
 | 0=>Bp l 0
 | i+1=>Bp l (i+1) || Bp l i
theorem Jw {c:Cel} {l:List Cel} (h:Bp (c::l) 0=false) (i:Nat):DW (c::l) (i+1)=DW l i:=by
 cases i with
 | zero=>show(Bp l 0 || Bp (c::l) 0)=Bp l 0;rw[h];simp
 | succ i=>rfl
theorem Zd {c d:Cel} {l:List Cel} (h:BS c d=true):Bp (d::l) 0=false:=by
 cases l with
 | nil=>rfl
 | cons e l=>rw[PT];exact Kn (by rw[(Y8 h).2.2];exact WZ c)
theorem Wm {c d:Cel} {l:List Cel} (h:BS c d=true) (i:Nat):DW (c::d::l) (i+2)=DW l i:=by
 rw[←Jw (Zd h) i]
 rfl
theorem Jf:∀(l:List Cel) (_:∀i c,l[i]?=some c→DW l i=true∨c.single=true),right l=true
 | [],_=>rfl
 | [d],h=>by
  rcases h 0 d rfl with h|h
  ·exact absurd h (by simp [DW,Bp])
  ·exact h
 | c::d::l,h=>by
  unfold right
  by_cases hp:BS c d=true
  ·rw[if_pos hp]
   exact Jf l fun i x hx=>by have:=h (i+2) x hx;rwa [Wm hp] at this
  ·rw[if_neg hp,Bool.and_eq_true]
   have hp':Bp (c::d::l) 0=false:=by rw[PT];simpa using hp
   refine⟨?_,Jf (d::l) fun i x hx=>by have:=h (i+1) x hx;rwa [Jw hp'] at this⟩
   rcases h 0 c rfl with h|h
   ·exact absurd h (by simp [DW,hp'])
   ·exact h
theorem Ff (c:Cel):c.fix.single=true:=by
 unfold Cel.fix
 split
 ·assumption
 ·have:Be 32=1:=by decide
  simp [Cel.single,Cel.plain,Cel.check,Cel.tail,Cel.wide,this]
theorem Vh {c:Cel} (h:c.single=true):c.plain=true:=by unfold Cel.single at h;rw[Bool.and_eq_true] at h;exact h.1
theorem FP:∀l:List Cel,right (AK l)=true
 | []=>rfl
 | [c]=>Ff c
 | c::d::l=>by
  unfold AK
  by_cases hp:BS c d=true
  ·rw[if_pos hp];unfold right;rw[if_pos hp];exact FP l
  ·rw[if_neg hp]
   have ih:=FP (d::l)
   generalize AK (d::l)=m at ih
   cases m with
   | nil=>exact Ff c
   | cons e m =>
    unfold right
    rw[Kn (Zi (Vh (Ff c)))]
    simp [Ff,ih]
theorem Wi {l:List Cel} (h:∀c∈l,c.single=true):right l=true :=
 Jf l fun _ _ hi=>.inr (h _ (List.mem_of_getElem? hi))
theorem W7 {c:Cel} (h:c.usual=true):c.single=true:=by simpa [Cel.usual,Cel.single,Bool.and_comm] using h
theorem Gr.chg_right {g:Gr} (hg:g.ok) (hr:g.right=true) {top fin:Int} {f:Nat→List Cel} (hf:∀y,y<g.h→top≤(y:Int)→(y:Int)<fin→(f y).length=g.w):(g.chg top fin f).right=true :=
 (g.chg top fin f).right_of fun y hy=>by
  rw[Gr.chg_row hg hf hy]
  split
  ·exact FP _
  ·exact Gr.right.at hr hy
theorem Gr.plain_row {w h:Nat} {c:Cel} {y:Nat} (hy:y<h):(Gr.plain w h c).row y=List.replicate w c:=by
 have h1:=Nat.mul_le_mul_right w (show y+1≤h by omega)
 rw[Nat.add_mul,Nat.mul_comm h w] at h1
 simp [Gr.row,Gr.plain]
 omega
theorem Gr.plain_right {w h:Nat} {c:Cel} (hc:c.single=true):(Gr.plain w h c).right=true :=
 Gr.right_of fun y hy=>by rw[Gr.plain_row (w:=w) (h:=h) (c:=c) hy];exact Wi fun x hx=>by rw[List.eq_of_mem_replicate hx];exact hc
theorem Yi:Cel.blank.single=true:=by have:=Ff ⟨32,0,0,1⟩;decide
def Cel.fits (c:Cel):Prop:=-2147483648≤c.r∧c.r≤2147483647
def ec (l:List Cel):Nat→Bool
 | 0=>false
 | i+1=>Bp l i
def lay (cs:List Cel) (p:Nat) (l:List Cel) (k:Nat):List Cel:=cs.take p++l.take k++cs.drop (p+k)
theorem Gr.chg_at {g:Gr} (h:g.ok) {top fin:Int} {f:Nat→List Cel} (hf:∀y,y<g.h→top≤(y:Int)→(y:Int)<fin→(f y).length=g.w) {x y:Nat} (hx:x<g.w) (hy:y<g.h) :
  some ((g.chg top fin f).at x y)=(if top≤y∧(y:Int)<fin then AK (f y) else g.row y)[x]?:=by
 have hok:=Gr.chg_ok h hf
 rw[←Gr.chg_row h hf hy,hok.row_get (show x<(g.chg top fin f).w from hx) (show y<(g.chg top fin f).h from hy)]
theorem YT {g:Gr} (hg:g.ok) {T E N:Int} {c:Cel}:(g.scroll T E N c).ok :=
 Gr.chg_ok hg fun y _ _ _=>hg.scrollF_len (by omega) (by omega) y
theorem YI {g:Gr} (hg:g.ok) (hr:g.right=true) {T E N:Int} {c:Cel}:(g.scroll T E N c).right=true :=
 Gr.chg_right hg hr fun y _ _ _=>hg.scrollF_len (by omega) (by omega) y
theorem Gr.of_rows {g:Gr} (hg:g.ok) {R:Nat→List Cel} (h:∀y,y<g.h→R y=g.row y):Gr.of g.w g.h R=g:=by
 unfold Gr.of
 rw[Em h,hg.rows]
theorem Ko {g:Gr} {w h:Nat} {c:Cel}:∀y,y<(Gr.plain w h c).h→(0:Int)≤(y:Int)→(y:Int)<min (h:Int) g.h→(AD w fun x=>if x<g.w then g.at x y else(Gr.plain w h c).at x y).length=(Gr.plain w h c).w:=fun _ _ _ _=>AX _ _
theorem RL {g:Gr} {w h:Nat} {c:Cel} (w0:0<w) (w1:w≤200) (h0:0<h) (h1:h≤60):(g.resize w h c).ok:=Gr.chg_ok (Gr.plain_ok w0 w1 h0 h1 c) Ko
theorem Ty {g:Gr} {w h:Nat} {c:Cel} (hu:c.usual=true) (w0:0<w) (w1:w≤200) (h0:0<h) (h1:h≤60):(g.resize w h c).right=true:=Gr.chg_right (Gr.plain_ok w0 w1 h0 h1 c) (Gr.plain_right (W7 hu)) Ko
structure Gr.fit (g:Gr) (w h:Nat):Prop where
 ok:g.ok
 r:g.right=true
 w:g.w=w
 h:g.h=h
theorem Gr.put_ok {g:Gr} (hg:g.ok) {X Y:Int} {l:List Cel}:(g.put X Y l).ok:=Gr.chg_ok hg fun _ _ _ _=>AX _ _
theorem Gr.put_right {g:Gr} (hg:g.ok) (hr:g.right=true) {X Y:Int} {l:List Cel}:(g.put X Y l).right=true:=Gr.chg_right hg hr fun _ _ _ _=>AX _ _
theorem Gr.fit.put {g:Gr} {w h:Nat} (hg:g.fit w h) {X Y:Int} {l:List Cel}:(g.put X Y l).fit w h:=⟨Gr.put_ok hg.ok,Gr.put_right hg.ok hg.r,hg.w,hg.h⟩
theorem Gr.fit.fill {g:Gr} {w h:Nat} (hg:g.fit w h) {X Y W H:Int} {c:Cel}:(g.fill X Y W H c).fit w h:=⟨Gr.chg_ok hg.ok fun _ _ _ _=>AX _ _,Gr.chg_right hg.ok hg.r fun _ _ _ _=>AX _ _,hg.w,hg.h⟩
theorem Gr.fit.scroll {g:Gr} {w h:Nat} (hg:g.fit w h) {T E N:Int} {c:Cel}:(g.scroll T E N c).fit w h:=⟨YT hg.ok,YI hg.ok hg.r,hg.w,hg.h⟩
theorem Gr.fit.shift {g:Gr} {w h:Nat} (hg:g.fit w h) {X Y N:Int} {c:Cel}:(g.shift X Y N c).fit w h:=⟨Gr.chg_ok hg.ok fun _ _ _ _=>AX _ _,Gr.chg_right hg.ok hg.r fun _ _ _ _=>AX _ _,hg.w,hg.h⟩
theorem Gr.fit_plain {w h:Nat} (w0:0<w) (w1:w≤200) (h0:0<h) (h1:h≤60):(Gr.plain w h Cel.blank).fit w h:=⟨Gr.plain_ok w0 w1 h0 h1 _,Gr.plain_right Yi,rfl,rfl⟩
theorem Gr.fit_resize {g:Gr} {w h:Nat} (w0:0<w) (w1:w≤200) (h0:0<h) (h1:h≤60):(g.resize w h Cel.blank).fit w h:=⟨RL w0 w1 h0 h1,Ty (by decide) w0 w1 h0 h1,rfl,rfl⟩
theorem Gr.row_one {g:Gr} (hg:g.ok) (h:g.h=1):g.row 0=g.cs:=by
 have:=hg.len
 rw[h,Nat.mul_one] at this
 simp [Gr.row,←this]
def I4 (w:Nat) (f:Gr→Gr):Prop:=∀g:Gr,g.fit w 1→(f g).fit w 1
theorem Gr.fit.row1 {g:Gr} {w h:Nat} (hg:g.fit w h) {y:Nat} (hy:y<h):(⟨w,1,g.row y⟩:Gr).fit w 1:=by
 have hl:=hg.ok.row_len (y:=y) (by rw[hg.h];exact hy)
 have h0:=hg.ok.w0
 have h1:=hg.ok.w1
 have hw:=hg.w
 have hok:(⟨w,1,g.row y⟩:Gr).ok:=⟨by show 0<w;omega,by show w≤200;omega,Nat.one_pos,by show 1≤60;omega,by show(g.row y).length=w*1;omega⟩
 refine⟨hok,Gr.right_of fun y' hy'=>?_,rfl,rfl⟩
 have:y'=0:=by have:y'<1:=hy';omega
 subst this
 rw[Gr.row_one hok rfl]
 exact Gr.right.at hg.r (by rw[hg.h];exact hy)
theorem Gr.fit.cs1 {g:Gr} {w:Nat} (hg:g.fit w 1):g.cs.length=w∧Lyc.right g.cs=true:=by
 have h1:=hg.ok.len
 rw[hg.w,hg.h,Nat.mul_one] at h1
 refine⟨h1,?_⟩
 have:=Gr.right.at hg.r (y:=0) (by rw[hg.h];omega)
 rwa [Gr.row_one hg.ok hg.h] at this
theorem Gr.fit.line {g:Gr} {w h:Nat} (hg:g.fit w h) {f:Gr→Gr} (hf:I4 w f) {Y:Nat}:(Gr.of w h fun y=>if y=Y then(f ⟨w,1,g.row y⟩).cs else g.row y).fit w h:=by
 have hh:=hg.h
 have hw:=hg.w
 have hR:∀y,y<h→(if y=Y then(f ⟨w,1,g.row y⟩).cs else g.row y).length=w:=by
  intro y hy
  split
  ·exact(hf _ (hg.row1 hy)).cs1.1
  ·rw[hg.ok.row_len (by omega),hw]
 have w0:=hg.ok.w0
 have w1:=hg.ok.w1
 have h0:=hg.ok.h0
 have h1:=hg.ok.h1
 refine⟨Gr.of_ok (by omega) (by omega) (by omega) (by omega) hR,Gr.right_of fun y hy=>?_,rfl,rfl⟩
 have hy':y<h:=hy
 rw[Gr.of_row hR hy']
 split
 ·exact(hf _ (hg.row1 hy')).cs1.2
 ·exact Gr.right.at hg.r (by omega)
structure Scr.ok (S:Scr):Prop where
 w0:0<S.w
 w1:S.w≤200
 h0:0<S.h
 h1:S.h≤60
 g0:S.g0.fit S.w S.h
 g1:S.g1.fit S.w S.h
 nx:S.now.x<S.w
 ny:S.now.y<S.h
 s0x:S.s0.x<S.w
 s0y:S.s0.y<S.h
 s1x:S.s1.x<S.w
 s1y:S.s1.y<S.h
 tf:S.top<S.fin
 fh:S.fin≤S.h
 tl:S.tabs.length=200
 gl:S.gone.length≤500
 gr:∀r∈S.gone,right r=true∧r.length≤200
structure Nx (S T:Scr):Prop where
 ok:T.ok
 w:T.w=S.w
 h:T.h=S.h
 gw:(∀r∈S.gone,r.length=S.w)→∀r∈T.gone,r.length=T.w
theorem Nx.refl {S:Scr} (h:S.ok):Nx S S:=⟨h,rfl,rfl,fun g=>g⟩
theorem Nx.trans {S T U:Scr} (h:Nx S T) (k:Nx T U):Nx S U:=⟨k.ok,k.w.trans h.w,k.h.trans h.h,fun g=>k.gw (h.gw g)⟩
theorem Il:Ep.length=200:=by unfold Ep;rw[List.length_map,List.length_range]
theorem Scr.ok_new {w h:Nat} (w0:0<w) (w1:w≤200) (h0:0<h) (h1:h≤60):(Scr.new w h).ok :=
 ⟨w0,w1,h0,h1,Gr.fit_plain w0 w1 h0 h1,Gr.fit_plain w0 w1 h0 h1,w0,h0,w0,h0,w0,h0,h0,Nat.le_refl _,Il,by simp [Scr.new],by simp [Scr.new]⟩
section
variable {S:Scr} (h:S.ok)
include h
theorem Scr.ok.renew:Nx S S.renew :=
 ⟨⟨h.w0,h.w1,h.h0,h.h1,Gr.fit_plain h.w0 h.w1 h.h0 h.h1,Gr.fit_plain h.w0 h.w1 h.h0 h.h1,h.w0,h.h0,h.w0,h.h0,h.w0,h.h0,h.h0,Nat.le_refl _,Il,h.gl,h.gr⟩,rfl,rfl,fun g=>g⟩
theorem Scr.ok.cur:S.cur.fit S.w S.h:=by
 unfold Scr.cur
 cases S.alt
 ·exact h.g0
 ·exact h.g1
theorem Scr.ok.setCur {g:Gr} (hg:g.fit S.w S.h):Nx S (S.setCur g):=by
 unfold Scr.setCur
 cases S.alt
 ·exact⟨⟨h.w0,h.w1,h.h0,h.h1,hg,h.g1,h.nx,h.ny,h.s0x,h.s0y,h.s1x,h.s1y,h.tf,h.fh,h.tl,h.gl,h.gr⟩,rfl,rfl,fun g=>g⟩
 ·exact⟨⟨h.w0,h.w1,h.h0,h.h1,h.g0,hg,h.nx,h.ny,h.s0x,h.s0y,h.s1x,h.s1y,h.tf,h.fh,h.tl,h.gl,h.gr⟩,rfl,rfl,fun g=>g⟩
theorem Scr.ok.at {x y:Nat} (hx:x<S.w) (hy:y<S.h):Nx S (S.at x y) :=
 ⟨⟨h.w0,h.w1,h.h0,h.h1,h.g0,h.g1,hx,hy,h.s0x,h.s0y,h.s1x,h.s1y,h.tf,h.fh,h.tl,h.gl,h.gr⟩,rfl,rfl,fun g=>g⟩
theorem Scr.ok.calm:Nx S S.calm :=
 ⟨⟨h.w0,h.w1,h.h0,h.h1,h.g0,h.g1,h.nx,h.ny,h.s0x,h.s0y,h.s1x,h.s1y,h.tf,h.fh,h.tl,h.gl,h.gr⟩,rfl,rfl,fun g=>g⟩
omit h in
theorem Dl {x:Int} {n:Nat} (hn:0<n):AJ x n<n:=by unfold AJ;omega
theorem Scr.ok.move {x y:Int}:Nx S (S.move x y):=h.at (Dl h.w0) (Dl h.h0)
theorem Scr.ok.save:Nx S S.save:=by
 unfold Scr.save
 cases S.alt
 ·exact⟨⟨h.w0,h.w1,h.h0,h.h1,h.g0,h.g1,h.nx,h.ny,h.nx,h.ny,h.s1x,h.s1y,h.tf,h.fh,h.tl,h.gl,h.gr⟩,rfl,rfl,fun g=>g⟩
 ·exact⟨⟨h.w0,h.w1,h.h0,h.h1,h.g0,h.g1,h.nx,h.ny,h.s0x,h.s0y,h.nx,h.ny,h.tf,h.fh,h.tl,h.gl,h.gr⟩,rfl,rfl,fun g=>g⟩
theorem Scr.ok.restore:Nx S S.restore:=by
 unfold Scr.restore
 cases S.alt
 ·exact⟨⟨h.w0,h.w1,h.h0,h.h1,h.g0,h.g1,h.s0x,h.s0y,h.s0x,h.s0y,h.s1x,h.s1y,h.tf,h.fh,h.tl,h.gl,h.gr⟩,rfl,rfl,fun g=>g⟩
 ·exact⟨⟨h.w0,h.w1,h.h0,h.h1,h.g0,h.g1,h.s1x,h.s1y,h.s0x,h.s0y,h.s1x,h.s1y,h.tf,h.fh,h.tl,h.gl,h.gr⟩,rfl,rfl,fun g=>g⟩
theorem Scr.ok.line {f:Gr→Gr} (hf:I4 S.w f):Nx S (S.line f):=h.setCur (h.cur.line hf)
theorem Scr.ok.erase {x n:Int}:Nx S (S.erase x n):=h.line fun _ hg=>hg.fill
theorem Scr.ok.clear {y n:Int}:Nx S (S.clear y n):=h.setCur h.cur.fill
theorem Scr.ok.scroll {t n:Int}:Nx S (S.scroll t n):=h.setCur h.cur.scroll
omit h in
theorem Tx (l:List (List Cel)):(DN l).length≤500:=by simp [DN];omega
theorem Scr.ok.keep {n:Int}:Nx S (S.keep n):=by
 unfold Scr.keep
 split
 ·have e:=Tx (S.gone++(List.range (min n S.fin).toNat).map S.g0.row)
  have e2:∀r∈DN (S.gone++(List.range (min n S.fin).toNat).map S.g0.row),r∈S.gone++(List.range (min n S.fin).toNat).map S.g0.row:=fun r hr=>List.mem_of_mem_drop hr
  generalize DN (S.gone++(List.range (min n S.fin).toNat).map S.g0.row)=L at e e2 ⊢
  refine⟨⟨h.w0,h.w1,h.h0,h.h1,h.g0,h.g1,h.nx,h.ny,h.s0x,h.s0y,h.s1x,h.s1y,h.tf,h.fh,h.tl,e,fun r hr=>?_⟩,rfl,rfl,fun g r hr=>?_⟩
  rotate_left
  ·rcases List.mem_append.1 (e2 r hr) with hr'|hr'
   ·exact g r hr'
   ·obtain⟨y,hy,rfl⟩:=List.mem_map.1 hr'
    have hy':=List.mem_range.1 hy
    have:=h.fh
    have hyh:y<S.g0.h:=by rw[h.g0.h];omega
    show _=S.w
    rw[h.g0.ok.row_len hyh,h.g0.w]
  have hr':=e2 r hr
  rcases List.mem_append.1 hr' with hr'|hr'
  ·exact h.gr r hr'
  ·obtain⟨y,hy,rfl⟩:=List.mem_map.1 hr'
   have hy':=List.mem_range.1 hy
   have:=h.fh
   have hyh:y<S.g0.h:=by rw[h.g0.h];omega
   exact⟨Gr.right.at h.g0.r hyh,by rw[h.g0.ok.row_len hyh];exact h.g0.ok.w1⟩
 ·exact .refl h
theorem Scr.ok.up {n:Int}:Nx S (S.up n):=h.keep.trans h.keep.ok.scroll
theorem Scr.ok.below:Nx S S.below:=by
 unfold Scr.below
 split
 ·exact h.up
 ·split
  ·exact h.at h.nx ‹_›
  ·exact .refl h
theorem Scr.ok.above:Nx S S.above:=by
 unfold Scr.above
 split
 ·exact h.scroll
 ·split
  ·exact h.at h.nx (by have:=h.ny;omega)
  ·exact .refl h
theorem Scr.ok.wrapped:Nx S S.wrapped:=by
 unfold Scr.wrapped
 split
 ·exact(h.at h.w0 h.ny).trans (h.at h.w0 h.ny).ok.below
 ·exact .refl h
omit h in
theorem Eb (g:Gr):(S.setCur g).now=S.now:=by unfold Scr.setCur;cases S.alt<;>rfl
omit h in
theorem YW (n:Int):(S.keep n).now=S.now:=by unfold Scr.keep;split<;>rfl
omit h in
theorem Vg (n:Int):(S.up n).now=S.now:=by unfold Scr.up Scr.scroll;rw[Eb,YW]
omit h in
theorem X5:S.below.now.x=S.now.x:=by
 unfold Scr.below
 split
 ·rw[Vg]
 ·split<;>rfl
theorem Scr.ok.roomFor {n:Nat} (h0:0<n) (hn:n≤S.w):Nx S (S.roomFor n)∧(S.roomFor n).now.x+n≤S.w:=by
 unfold Scr.roomFor
 split
 ·split
  ·refine⟨(h.at h.w0 h.ny).trans (h.at h.w0 h.ny).ok.below,?_⟩
   rw[X5]
   show 0+n≤S.w
   omega
  ·exact⟨h.at (by omega) h.ny,by show S.w-n+n≤S.w;omega⟩
 ·exact⟨.refl h,by omega⟩
theorem Scr.ok.lay {r:Int} {n:Nat} (hn:S.now.x+n≤S.w):Nx S (S.lay r n):=by
 have h1:Nx S (S.line fun g=>g.put S.now.x 0 (Cw r S.now.pen)):=h.line fun _ hg=>hg.put
 have hw:=h1.w
 have hh:=h1.h
 have w0:=h.w0
 have hy:=h.ny
 unfold Scr.lay
 dsimp only
 split
 ·have h2:=h1.ok.at (x:=S.w-1) (y:=S.now.y) (by omega) (by omega)
  exact h1.trans (h2.trans ⟨⟨h2.ok.w0,h2.ok.w1,h2.ok.h0,h2.ok.h1,h2.ok.g0,h2.ok.g1,h2.ok.nx,h2.ok.ny,h2.ok.s0x,h2.ok.s0y,h2.ok.s1x,h2.ok.s1y,h2.ok.tf,h2.ok.fh,h2.ok.tl,h2.ok.gl,h2.ok.gr⟩,rfl,rfl,fun g=>g⟩)
 ·have h2:=h1.ok.at (x:=S.now.x+n) (y:=S.now.y) (by omega) (by omega)
  exact h1.trans (h2.trans h2.ok.calm)
omit h in
theorem Nw (r:Int):Be r=0∨Be r=1∨Be r=2:=by
 have h:∀l:List (Int × Int × Int),(∀s∈l,s.2.2=0∨s.2.2=1∨s.2.2=2)→(Cr l r=0∨Cr l r=1∨Cr l r=2):=by
  intro l
  induction l with
  | nil=>intro _;exact .inr (.inl rfl)
  | cons s l ih =>
   intro hl
   unfold Cr
   split
   ·exact hl s (by simp)
   ·exact ih fun x hx=>hl x (by simp [hx])
 unfold Be
 split
 ·exact .inl rfl
 ·split
  ·exact .inr (.inl rfl)
  ·exact h BK (by decide)
theorem Scr.ok.print {r:Int}:Nx S (S.print r):=by
 unfold Scr.print
 split
 ·exact .refl h
 ·have hw:=Nw r
  have h1:=h.wrapped
  have hn:0<(Be r).toNat∧(Be r).toNat≤S.wrapped.w:=by rw[h1.w];omega
  have h2:=h1.ok.roomFor hn.1 hn.2
  exact h1.trans (h2.1.trans (h2.1.ok.lay (by rw[h2.1.w];exact h2.2)))
theorem Scr.ok.tab:Nx S S.tab:=h.at (by have:=h.w0;omega) h.ny
theorem Scr.ok.ctl {r:Int}:Nx S (S.ctl r):=by
 have w0:=h.w0
 have nx:=h.nx
 unfold Scr.ctl
 split
 ·exact(h.at (by omega) h.ny).trans (h.at (by omega) h.ny).ok.calm
 ·split
  ·exact h.tab.trans h.tab.ok.calm
  ·split
   ·exact h.below.trans h.below.ok.calm
   ·split
    ·exact(h.at w0 h.ny).trans (h.at w0 h.ny).ok.calm
    ·exact .refl h
theorem Scr.ok.setTabs {l:List Bool} (hl:l.length=200):Nx S { S with tabs:=l } :=
 ⟨⟨h.w0,h.w1,h.h0,h.h1,h.g0,h.g1,h.nx,h.ny,h.s0x,h.s0y,h.s1x,h.s1y,h.tf,h.fh,hl,h.gl,h.gr⟩,rfl,rfl,fun g=>g⟩
theorem Scr.ok.esc {r:Int}:Nx S (S.esc r):=by
 unfold Scr.esc
 split
 ·exact h.save
 ·split
  ·exact h.setTabs (by rw[List.length_set];exact h.tl)
  ·split
   ·have h1:=h.at (x:=0) (y:=S.now.y) h.w0 h.ny
    exact h1.trans (h1.ok.below.trans h1.ok.below.ok.calm)
   ·split
    ·exact h.below.trans h.below.ok.calm
    ·split
     ·exact h.above.trans h.above.ok.calm
     ·split
      ·exact h.restore.trans h.restore.ok.calm
      ·split
       ·exact h.renew.trans h.renew.ok.calm
       ·exact .refl h
theorem Scr.ok.mode {n:Int} {on:Bool}:Nx S (S.mode n on):=by
 unfold Scr.mode
 split
 ·exact⟨⟨h.w0,h.w1,h.h0,h.h1,h.g0,h.g1,h.nx,h.ny,h.s0x,h.s0y,h.s1x,h.s1y,h.tf,h.fh,h.tl,h.gl,h.gr⟩,rfl,rfl,fun g=>g⟩
 ·split
  ·exact⟨⟨h.w0,h.w1,h.h0,h.h1,h.g0,h.g1,h.nx,h.ny,h.s0x,h.s0y,h.s1x,h.s1y,h.tf,h.fh,h.tl,h.gl,h.gr⟩,rfl,rfl,fun g=>g⟩
  ·split
   ·split
    ·have k:=h.save.ok
     have hw:=h.save.w
     have hh:=h.save.h
     refine⟨⟨k.w0,k.w1,k.h0,k.h1,k.g0,?_,k.nx,k.ny,k.s0x,k.s0y,k.s1x,k.s1y,k.tf,k.fh,k.tl,k.gl,k.gr⟩,hw,hh,h.save.gw⟩
     show(Gr.plain S.w S.h Cel.blank).fit S.save.w S.save.h
     rw[hw,hh]
     exact Gr.fit_plain h.w0 h.w1 h.h0 h.h1
    ·split
     ·have k:Nx S { S with alt:=false }:=⟨⟨h.w0,h.w1,h.h0,h.h1,h.g0,h.g1,h.nx,h.ny,h.s0x,h.s0y,h.s1x,h.s1y,h.tf,h.fh,h.tl,h.gl,h.gr⟩,rfl,rfl,fun g=>g⟩
      exact k.trans k.ok.restore
     ·exact .refl h
   ·exact .refl h
theorem Scr.ok.modes {l:List Int} {on:Bool}:Nx S (S.modes l on):=by
 unfold Scr.modes
 induction l generalizing S with
 | nil=>exact .refl h
 | cons n l ih=>exact h.mode.trans (ih h.mode.ok)
omit h in
theorem D4 (a:Act') (i:Nat) (Bo:Int):Bo≤a.num i Bo:=by unfold Act'.num;split<;>omega
theorem Scr.ok.moved {a:Act'} {T:Scr} (ht:S.moved a=some T):Nx S T:=by
 have hn:=D4 a 0 1
 have hx:=h.nx
 have hy:=h.ny
 have w0:=h.w0
 have tf:=h.tf
 have fh:=h.fh
 have key:∀y:Nat,y<S.h→Nx S ((S.at 0 S.now.y).at (S.at 0 S.now.y).now.x y):=fun y hy'=>(h.at w0 hy).trans ((h.at w0 hy).ok.at w0 hy')
 have e1:(if S.top≤S.now.y then(S.top:Int) else 0)≤S.now.y:=by split<;>omega
 have e2:(if S.now.y+1≤S.fin then(S.fin:Int)-1 else(S.h:Int)-1)<S.h:=by split<;>omega
 unfold Scr.moved at ht
 dsimp only at ht
 split at ht
 ·cases ht;refine key _ ?_;simp only[Scr.at];omega
 ·split at ht
  ·cases ht;refine h.at hx ?_;omega
  ·split at ht
   ·cases ht;refine key _ ?_;simp only[Scr.at];omega
   ·split at ht
    ·cases ht;refine h.at hx ?_;omega
    ·split at ht
     ·cases ht;exact h.move
     ·split at ht
      ·cases ht;exact h.move
      ·split at ht
       ·cases ht;exact h.move
       ·split at ht
        ·cases ht;exact h.move
        ·split at ht
         ·cases ht;exact h.move
         ·split at ht
          ·cases ht;exact h.restore
          ·cases ht
theorem Scr.ok.region {t f:Int} (h0:0≤t) (h1:0≤f):Nx S (S.region t f):=by
 have e1:(if f=0∨(S.h:Int)<f then(S.h:Int) else f)≤S.h∧0≤(if f=0∨(S.h:Int)<f then(S.h:Int) else f):=by split<;>omega
 unfold Scr.region
 dsimp only
 generalize (if f=0∨(S.h:Int)<f then(S.h:Int) else f)=F at e1 ⊢
 split
 ·rename_i hlt
  have k:Nx S { S with top:=t.toNat,fin:=F.toNat }:=by
   refine⟨⟨h.w0,h.w1,h.h0,h.h1,h.g0,h.g1,h.nx,h.ny,h.s0x,h.s0y,h.s1x,h.s1y,?_,?_,h.tl,h.gl,h.gr⟩,rfl,rfl,fun g=>g⟩
   ·show t.toNat<F.toNat
    omega
   ·show F.toNat≤S.h
    omega
  exact k.trans k.ok.move
 ·exact .refl h
theorem Scr.ok.wipeRows {k:Int}:Nx S (S.wipeRows k):=by
 unfold Scr.wipeRows
 split
 ·exact h.clear
 ·split
  ·exact h.clear
  ·split
   ·exact h.clear
   ·exact .refl h
theorem Scr.ok.wipeLine {k:Int}:Nx S (S.wipeLine k):=by
 unfold Scr.wipeLine
 split
 ·exact h.erase
 ·split
  ·exact h.erase
  ·split
   ·exact h.erase
   ·exact .refl h
theorem Scr.ok.shiftRows {n:Int}:Nx S (S.shiftRows n):=by
 unfold Scr.shiftRows
 split
 ·have k:=h.scroll (t:=S.now.y) (n:=-n)
  exact k.trans (k.ok.at (by rw[k.w];exact h.w0) (by rw[k.h];exact h.ny))
 ·exact .refl h
theorem Scr.ok.changed {a:Act'} {T:Scr} (ht:S.changed a=some T):Nx S T:=by
 have hn:=D4 a 0 1
 have hm:=D4 a 1 0
 unfold Scr.changed at ht
 dsimp only at ht
 split at ht
 ·cases ht;exact h.wipeRows.trans h.wipeRows.ok.wipeLine
 ·split at ht
  ·cases ht;exact h.wipeLine
  ·split at ht
   ·cases ht;exact h.shiftRows
   ·split at ht
    ·cases ht;exact h.shiftRows
    ·split at ht
     ·cases ht;exact h.line fun _ hg=>hg.shift
     ·split at ht
      ·cases ht;exact h.line fun _ hg=>hg.shift
      ·split at ht
       ·cases ht;exact h.erase
       ·split at ht
        ·cases ht;exact h.up
        ·split at ht
         ·cases ht;exact h.scroll
         ·split at ht
          ·cases ht;exact h.region (by omega) hm
          ·cases ht
theorem Scr.ok.set {a:Act'} {T:Scr} (ht:S.set a=some T):Nx S T:=by
 unfold Scr.set at ht
 split at ht
 ·cases ht;exact⟨⟨h.w0,h.w1,h.h0,h.h1,h.g0,h.g1,h.nx,h.ny,h.s0x,h.s0y,h.s1x,h.s1y,h.tf,h.fh,h.tl,h.gl,h.gr⟩,rfl,rfl,fun g=>g⟩
 ·split at ht
  ·cases ht
   split
   ·exact h.setTabs (by rw[List.length_set];exact h.tl)
   ·split
    ·exact h.setTabs (by rw[List.length_replicate])
    ·exact .refl h
  ·split at ht
   ·cases ht;exact h.save
   ·cases ht
theorem Scr.ok.csi {a:Act'}:Nx S (S.csi a):=by
 unfold Scr.csi
 split
 ·exact h.modes
 ·split
  ·exact .refl h
  ·split
   ·exact h.set ‹_›
   ·split
    ·rename_i T hT
     exact(h.moved hT).trans (h.moved hT).ok.calm
    ·split
     ·rename_i T hT
      exact(h.changed hT).trans (h.changed hT).ok.calm
     ·exact .refl h
theorem Scr.ok.act {a:Act'}:Nx S (S.act a):=by
 unfold Scr.act
 split
 ·exact h.print
 ·split
  ·exact h.ctl
  ·split
   ·split
    ·exact h.esc
    ·exact .refl h
   ·split
    ·exact h.csi
    ·exact .refl h
theorem Scr.ok.acts {l:List Act'}:Nx S (S.acts l):=by
 unfold Scr.acts
 induction l generalizing S with
 | nil=>exact .refl h
 | cons n l ih=>exact h.act.trans (ih h.act.ok)
theorem Scr.ok.resize {w k:Nat} (w0:0<w) (w1:w≤200) (h0:0<k) (h1:k≤60):(S.resize w k).ok∧(S.resize w k).w=w∧(S.resize w k).h=k :=
 ⟨⟨w0,w1,h0,h1,Gr.fit_resize w0 w1 h0 h1,Gr.fit_resize w0 w1 h0 h1,Dl w0,Dl h0,Dl w0,Dl h0,Dl w0,Dl h0,h0,Nat.le_refl _,h.tl,h.gl,h.gr⟩,rfl,rfl⟩
end
end Lyc
namespace Go.Proofs.YtelplojmbjnplaaGreat
open Lyc Go
set_option maxRecDepth 100000
def MC (p0 p1:Value) (K:Value→World→Prop):World→Prop :=
 xO .eql 218 p0 (.pointer none) fun t7 =>
 xW t7
 (K (.tuple #[])) <|
 xU p1 128 fun t9 =>
 Loop1 (.int .i64 0) fun t10 next1 =>
 xO .lss 3 t10 t9 fun t11 =>
 xW t11
 (xI 128 p1 t10 fun t12 =>
 xL 36 t12 fun t13 =>
 Ai <|
 xP (.nilCheck (.const p0)) 0 fun t15 =>
 qF 262 t15 0 fun t16 =>
 xC 132 [.const t13] [36] 36 fun t18 =>
 xC 184 [.const t16,.const t18] [260,36] 0 fun _ =>
 xO .add 3 t10 (.int .i64 1) fun t20 =>
 next1 t20) <|
 K (.tuple #[])
theorem WU (p0 p1:Value):Lk 124 #[p0,p1] (MC p0 p1):=lk [p0,p1] [(9,[10])] Tryz.func124
theorem VL:Ad Tryz.prog 124:=bd Tryz.func124
def OC (p0 p1 p2:Value) (K:Value→World→Prop):World→Prop :=
 xB 38 p1 fun t4 =>
 xA 38 fun t6 =>
 xL 38 t4 fun t13 =>
 xC 68 [.const t13] [38] 4 fun t14 =>
 xN 4 t14 fun t15 =>
 xW t15
 (OpX Tryz.prog (.build 38 #[]) 38 fun t16 =>
 xS 38 t6 t16 <|
 xD 38 t6 fun t6_1 =>
 K t6_1) <|
 xC 185 [.const p0] [218] 3 fun t18 =>
 OpX Tryz.prog (.call { callee:=.builtin .max,args:=#[.const p2,.const (.int .i64 0)],argTypes:=#[3,3] }) 3 fun t21 =>
 OpX Tryz.prog (.call { callee:=.builtin .min,args:=#[.const t21,.const t18],argTypes:=#[3,3] }) 3 fun t23 =>
 xO .sub 3 t18 t23 fun t24 =>
 Ai <|
 Join1 (fun k1 =>
 qF 38 t4 0 fun t25 =>
 qL 3 t25 fun t26 =>
 qF 38 t4 1 fun t27 =>
 qL 3 t27 fun t28 =>
 qF 38 t4 0 fun t29 =>
 qL 3 t29 fun t30 =>
 qF 38 t4 1 fun t31 =>
 qL 3 t31 fun t32 =>
 qP .mul 3 t30 t32 fun t33 =>
 xT (OpX Tryz.prog (.makeSlice 36 (.const (.int .i64 0)) (.const t33)) 36 fun t34 =>
 xT (qZ 3 t27 t28) <|
 xT (qZ 3 t25 t26) <|
 xT (OpX Tryz.prog (.build 38 #[(0,.const t26),(1,.const t28),(2,.const t34)]) 38 fun t35 =>
 xA 38 fun t9 =>
 xS 38 t9 t35 <|
 k1 t9) <|
 xA 38 fun t9_1 =>
 xT (qZ 3 t27 t28) <|
 xT (qZ 3 t25 t26) <|
 OpX Tryz.prog (.build 38 #[(0,.const t26),(1,.const t28),(2,.const t34)]) 38 fun t35_1 =>
 xS 38 t9_1 t35_1 <|
 k1 t9_1) <|
 xA 38 fun t9_2 =>
 xT (qZ 3 t31 t32) <|
 xT (qZ 3 t29 t30) <|
 xT (qZ 3 t27 t28) <|
 xT (qZ 3 t25 t26) <|
 OpX Tryz.prog (.makeSlice 36 (.const (.int .i64 0)) (.const t33)) 36 fun t34_1 =>
 xT (qZ 3 t27 t28) <|
 xT (qZ 3 t25 t26) <|
 OpX Tryz.prog (.build 38 #[(0,.const t26),(1,.const t28),(2,.const t34_1)]) 38 fun t35_2 =>
 xS 38 t9_2 t35_2 <|
 k1 t9_2) fun t9_3 =>
 Loop1 t24 fun t10 next2 =>
 xF 38 t4 1 fun t39 =>
 xL 3 t39 fun t40 =>
 xO .add 3 t24 t40 fun t41 =>
 xO .lss 3 t10 t41 fun t42 =>
 xW t42
 (Join0 (fun k3 =>
 xO .geq 3 t10 t18 fun t47 =>
 xW t47
 (Ai <|
 qF 38 t9_3 2 fun t48 =>
 qL 36 t48 fun t49 =>
 qL 38 t4 fun t50 =>
 qP .sub 3 t10 t18 fun t53 =>
 xC 191 [.const t50,.const t53] [38,3] 36 fun t54 =>
 xT (qZ 36 t48 t49) <|
 OpX Tryz.prog (.call { callee:=.builtin .append,args:=#[.const t49,.const t54],argTypes:=#[36,36] }) 36 fun t55 =>
 qF 38 t9_3 2 fun t56 =>
 xS 36 t56 t55 <|
 k3) <|
 OpX Tryz.prog (.nilCheck (.const p0)) 0 fun t59 =>
 xF 262 t59 0 fun t60 =>
 xC 192 [.const t60,.const t10] [260,3] 271 fun t62 =>
 xE t62 0 36 fun t63 =>
 xE t62 1 4 fun _ =>
 Ai <|
 qF 38 t9_3 2 fun t65 =>
 qL 36 t65 fun t66 =>
 qF 38 t4 0 fun t68 =>
 qL 3 t68 fun t69 =>
 xC 193 [.const t63,.const t69] [36,3] 36 fun t70 =>
 xT (qZ 36 t65 t66) <|
 OpX Tryz.prog (.call { callee:=.builtin .append,args:=#[.const t66,.const t70],argTypes:=#[36,36] }) 36 fun t71 =>
 qF 38 t9_3 2 fun t72 =>
 xS 36 t72 t71 <|
 k3) <|
 xO .add 3 t10 (.int .i64 1) fun t44 =>
 next2 t44) <|
 xL 38 t9_3 fun t73 =>
 xS 38 t6 t73 <|
 xD 38 t6 fun t6_2 =>
 K t6_2
theorem Re (p0 p1 p2:Value):Lk 134 #[p0,p1,p2] (OC p0 p1 p2):=lk [p0,p1,p2] [(15,[9]),(20,[10]),(28,[])] Tryz.func134
theorem Q6:Ad Tryz.prog 134:=bd Tryz.func134
def J6 (p0:Value) (K:Value→World→Prop):World→Prop :=
 OpX Tryz.prog (.build 262 #[]) 262 fun t4 =>
 OpX Tryz.prog (.box 262 (.const t4)) 218 fun t5 =>
 OpX Tryz.prog (.call { callee:=.builtin .max,args:=#[.const p0,.const (.int .i64 0)],argTypes:=#[3,3] }) 3 fun t8 =>
 OpX Tryz.prog (.call { callee:=.builtin .min,args:=#[.const t8,.const (.int .i64 500)],argTypes:=#[3,3] }) 3 fun t9 =>
 OpX Tryz.prog (.nilCheck (.const t5)) 0 fun t10 =>
 xF 262 t10 0 fun t11 =>
 xF 260 t11 0 fun t12 =>
 xS 3 t12 t9 <|
 K t5
theorem Vf (p0:Value):Lk 170 #[p0] (J6 p0):=lk [p0] [] Tryz.func170
theorem Yx:Ad Tryz.prog 170:=bd Tryz.func170
def LI (p0 p1:Value) (K:Value→World→Prop):World→Prop :=
 OpX Tryz.prog (.nilCheck (.const p0)) 0 fun t5 =>
 xF 260 t5 0 fun t6 =>
 xL 3 t6 fun t7 =>
 xO .leq 3 t7 (.int .i64 0) fun t8 =>
 xW t8
 (K (.tuple #[])) <|
 Ai <|
 xP (.nilCheck (.const p0)) 0 fun t10 =>
 qF 260 t10 2 fun t11 =>
 qL 128 t11 fun t12 =>
 xR (.call { callee:=.builtin .len,args:=#[.const t12],argTypes:=#[128] }) 3 fun t13 =>
 xP (.nilCheck (.const p0)) 0 fun t15 =>
 qF 260 t15 0 fun t16 =>
 qL 3 t16 fun t17 =>
 qP .lss 3 t13 t17 fun t18 =>
 xW t18
 (OpX Tryz.prog (.nilCheck (.const p0)) 0 fun t21 =>
 xF 260 t21 2 fun t22 =>
 xL 128 t22 fun t23 =>
 OpX Tryz.prog (.buildSlice 128 1 #[(0,.const p1)]) 128 fun t25 =>
 OpX Tryz.prog (.call { callee:=.builtin .append,args:=#[.const t23,.const t25],argTypes:=#[128,128] }) 128 fun t26 =>
 OpX Tryz.prog (.nilCheck (.const p0)) 0 fun t27 =>
 xF 260 t27 2 fun t28 =>
 xS 128 t28 t26 <|
 K (.tuple #[])) <|
 Ai <|
 xP (.nilCheck (.const p0)) 0 fun t30 =>
 qF 260 t30 2 fun t31 =>
 qL 128 t31 fun t32 =>
 xP (.nilCheck (.const p0)) 0 fun t34 =>
 qF 260 t34 1 fun t35 =>
 qL 3 t35 fun t36 =>
 xP (.indexAddr 128 (.const t32) (.const t36)) 0 fun t38 =>
 xS 36 t38 p1 <|
 Ai <|
 xP (.nilCheck (.const p0)) 0 fun t41 =>
 qF 260 t41 1 fun t42 =>
 qL 3 t42 fun t43 =>
 qP .add 3 t43 (.int .i64 1) fun t44 =>
 xP (.nilCheck (.const p0)) 0 fun t46 =>
 qF 260 t46 0 fun t47 =>
 qL 3 t47 fun t48 =>
 qP .rem 3 t44 t48 fun t49 =>
 xP (.nilCheck (.const p0)) 0 fun t50 =>
 qF 260 t50 1 fun t51 =>
 xS 3 t51 t49 <|
 K (.tuple #[])
theorem QL (p0 p1:Value):Lk 184 #[p0,p1] (LI p0 p1):=lk [p0,p1] [] Tryz.func184
theorem RA:Ad Tryz.prog 184:=bd Tryz.func184
def Kh (p0:Value) (K:Value→World→Prop):World→Prop :=
 xO .eql 218 p0 (.pointer none) fun t4 =>
 xW t4
 (K (.int .i64 0)) <|
 OpX Tryz.prog (.nilCheck (.const p0)) 0 fun t6 =>
 xF 262 t6 0 fun t7 =>
 xC 232 [.const t7] [260] 3 fun t8 =>
 K t8
theorem Uk (p0:Value):Lk 185 #[p0] (Kh p0):=lk [p0] [] Tryz.func185
theorem Oh:Ad Tryz.prog 185:=bd Tryz.func185
def Qe (p0 p1:Value) (K:Value→World→Prop):World→Prop :=
 Join1 (fun k1 =>
 xO .lss 3 p1 (.int .i64 0) fun t8 =>
 xW t8
 (k1 (.bool true)) <|
 OpX Tryz.prog (.nilCheck (.const p0)) 0 fun t12 =>
 xF 260 t12 2 fun t13 =>
 xL 128 t13 fun t14 =>
 xU t14 128 fun t15 =>
 xO .geq 3 p1 t15 fun t16 =>
 k1 t16) fun t17 =>
 xW t17
 (K (.tuple #[(.slice none 0 0),(.bool false)])) <|
 Ai <|
 xP (.nilCheck (.const p0)) 0 fun t20 =>
 qF 260 t20 2 fun t21 =>
 qL 128 t21 fun t22 =>
 xP (.nilCheck (.const p0)) 0 fun t24 =>
 qF 260 t24 1 fun t25 =>
 qL 3 t25 fun t26 =>
 qP .add 3 t26 p1 fun t28 =>
 xP (.nilCheck (.const p0)) 0 fun t30 =>
 qF 260 t30 2 fun t31 =>
 qL 128 t31 fun t32 =>
 xR (.call { callee:=.builtin .len,args:=#[.const t32],argTypes:=#[128] }) 3 fun t33 =>
 qP .rem 3 t28 t33 fun t34 =>
 xP (.indexAddr 128 (.const t22) (.const t34)) 0 fun t35 =>
 qL 36 t35 fun t36 =>
 K (.tuple #[t36,(.bool true)])
theorem Q0 (p0 p1:Value):Lk 192 #[p0,p1] (Qe p0 p1):=lk [p0,p1] [(4,[17])] Tryz.func192
theorem Xu:Ad Tryz.prog 192:=bd Tryz.func192
def MP (p0 p1:Value) (K:Value→World→Prop):World→Prop :=
 OpX Tryz.prog (.makeSlice 36 (.const p1) (.const p1)) 36 fun t8 =>
 OpX Tryz.prog (.call { callee:=.builtin .copy,args:=#[.const t8,.const p0],argTypes:=#[36,36] }) 3 fun t11 =>
 Loop1 t11 fun t6 next1 =>
 xO .lss 3 t6 p1 fun t14 =>
 xW t14
 (xC 33 [] [] 43 fun t19 =>
 xI 36 t8 t6 fun t20 =>
 xS 43 t20 t19 <|
 xO .add 3 t6 (.int .i64 1) fun t16 =>
 next1 t16) <|
 xC 132 [.const t8] [36] 36 fun t22 =>
 K t22
theorem Rg (p0 p1:Value):Lk 193 #[p0,p1] (MP p0 p1):=lk [p0,p1] [(8,[6])] Tryz.func193
theorem Qt:Ad Tryz.prog 193:=bd Tryz.func193
def NF (p0:Value) (K:Value→World→Prop):World→Prop :=
 OpX Tryz.prog (.nilCheck (.const p0)) 0 fun t4 =>
 xF 260 t4 2 fun t5 =>
 xL 128 t5 fun t6 =>
 xU t6 128 fun t7 =>
 K t7
theorem Xq (p0:Value):Lk 232 #[p0] (NF p0):=lk [p0] [] Tryz.func232
theorem UJ:Ad Tryz.prog 232:=bd Tryz.func232
def LS (K:Value→World→Prop):World→Prop :=
 xA 43 fun t0 =>
 OpX Tryz.prog (.build 43 #[(0,.const (.int .i32 32))]) 43 fun t1 =>
 xS 43 t0 t1 <|
 xD 43 t0 fun t0_1 =>
 K t0_1
theorem QW:Lk 33 #[] (LS):=lk [] [] Tryz.func33
theorem D5:Ad Tryz.prog 33:=bd Tryz.func33
def N8 (p0:Value) (K:Value→World→Prop):World→Prop :=
 Loop1 (.int .i64 0) fun t3 next1 =>
 xU p0 36 fun t6 =>
 xO .lss 3 t3 t6 fun t7 =>
 xW t7
 (xC 189 [.const p0,.const t3] [36,3] 4 fun t13 =>
 xW t13
 (xO .add 3 t3 (.int .i64 1) fun t15 =>
 xO .add 3 t15 (.int .i64 1) fun t9 =>
 next1 t9) <|
 xI 36 p0 t3 fun t19 =>
 xL 43 t19 fun t20 =>
 xC 190 [.const t20] [43] 4 fun t21 =>
 xN 4 t21 fun t22 =>
 xW t22
 (K (.bool false)) <|
 xO .add 3 t3 (.int .i64 1) fun t9_1 =>
 next1 t9_1) <|
 K (.bool true)
theorem Zs (p0:Value):Lk 130 #[p0] (N8 p0):=lk [p0] [(6,[3])] Tryz.func130
theorem UH:Ad Tryz.prog 130:=bd Tryz.func130
def Mr (p0:Value) (K:Value→World→Prop):World→Prop :=
 xU p0 36 fun t6 =>
 OpX Tryz.prog (.makeSlice 36 (.const t6) (.const t6)) 36 fun t7 =>
 OpX Tryz.prog (.call { callee:=.builtin .copy,args:=#[.const t7,.const p0],argTypes:=#[36,36] }) 3 fun _ =>
 Loop1 (.int .i64 0) fun t4 next1 =>
 xU p0 36 fun t13 =>
 xO .lss 3 t4 t13 fun t14 =>
 xW t14
 (xC 189 [.const p0,.const t4] [36,3] 4 fun t20 =>
 xW t20
 (xO .add 3 t4 (.int .i64 1) fun t22 =>
 xO .add 3 t22 (.int .i64 1) fun t16 =>
 next1 t16) <|
 xI 36 p0 t4 fun t26 =>
 xL 43 t26 fun t27 =>
 xC 190 [.const t27] [43] 4 fun t28 =>
 xN 4 t28 fun t29 =>
 xW t29
 (Ai <|
 xP (.indexAddr 36 (.const p0) (.const t4)) 0 fun t34 =>
 qF 43 t34 1 fun t35 =>
 qL 5 t35 fun t36 =>
 xP (.indexAddr 36 (.const p0) (.const t4)) 0 fun t39 =>
 qF 43 t39 2 fun t40 =>
 qL 5 t40 fun t41 =>
 OpX Tryz.prog (.build 43 #[(0,.const (.int .i32 32)),(1,.const t36),(2,.const t41)]) 43 fun t42 =>
 xP (.indexAddr 36 (.const t7) (.const t4)) 0 fun t43 =>
 xS 43 t43 t42 <|
 xO .add 3 t4 (.int .i64 1) fun t16_1 =>
 next1 t16_1) <|
 xO .add 3 t4 (.int .i64 1) fun t16_2 =>
 next1 t16_2) <|
 K t7
theorem SI (p0:Value):Lk 132 #[p0] (Mr p0):=lk [p0] [(10,[4])] Tryz.func132
theorem HO:Ad Tryz.prog 132:=bd Tryz.func132
def Po (p0:Value) (K:Value→World→Prop):World→Prop :=
 xB 43 p0 fun t1 =>
 Ai <|
 qF 43 t1 3 fun t5 =>
 qL 5 t5 fun t6 =>
 qP .and 5 t6 (.int .u8 64) fun t7 =>
 qR .neq 5 t7 (.int .u8 0) fun t8 =>
 qF 43 t1 3 fun t9 =>
 qL 5 t9 fun t10 =>
 qP .and 5 t10 (.int .u8 128) fun t11 =>
 qR .neq 5 t11 (.int .u8 0) fun t12 =>
 xW t12
 (Join1 (fun k1 =>
 xN 4 t8 fun t16 =>
 xW t16
 (xF 43 t1 0 fun t18 =>
 xL 21 t18 fun t19 =>
 xO .eql 21 t19 (.int .i32 0) fun t20 =>
 k1 t20) <|
 k1 (.bool false)) fun t2 =>
 K t2) <|
 xW t8
 (xF 43 t1 0 fun t24 =>
 xL 21 t24 fun t25 =>
 xC 195 [.const t25] [21] 3 fun t26 =>
 xO .eql 3 t26 (.int .i64 2) fun t27 =>
 K t27) <|
 xF 43 t1 0 fun t28 =>
 xL 21 t28 fun t29 =>
 xC 195 [.const t29] [21] 3 fun t30 =>
 xO .eql 3 t30 (.int .i64 1) fun t31 =>
 K t31
theorem Tn (p0:Value):Lk 136 #[p0] (Po p0):=lk [p0] [(10,[2])] Tryz.func136
theorem Ht:Ad Tryz.prog 136:=bd Tryz.func136
def KU (p0 p1:Value) (K:Value→World→Prop):World→Prop :=
 xI 36 p0 p1 fun t8 =>
 xL 43 t8 fun t9 =>
 xA 43 fun t5 =>
 xS 43 t5 t9 <|
 Ai <|
 Join1 (fun k1 =>
 qF 43 t5 3 fun t10 =>
 qL 5 t10 fun t11 =>
 qP .and 5 t11 (.int .u8 64) fun t12 =>
 qR .neq 5 t12 (.int .u8 0) fun t13 =>
 xW t13
 (qL 43 t5 fun t15 =>
 xC 136 [.const t15] [43] 4 fun t16 =>
 xW t16
 (qP .add 3 p1 (.int .i64 1) fun t20 =>
 xR (.call { callee:=.builtin .len,args:=#[.const p0],argTypes:=#[36] }) 3 fun t22 =>
 qP .lss 3 t20 t22 fun t23 =>
 xW t23
 (qP .add 3 p1 (.int .i64 1) fun t28 =>
 xP (.indexAddr 36 (.const p0) (.const t28)) 0 fun t29 =>
 qL 43 t29 fun t30 =>
 qL 43 t5 fun t31 =>
 xC 235 [.const t31] [43] 43 fun t32 =>
 xT (qZ 43 t29 t30) <|
 qR .eql 43 t30 t32 fun t33 =>
 k1 t33) <|
 k1 (.bool false)) <|
 k1 (.bool false)) <|
 k1 (.bool false)) fun t4 =>
 K t4
theorem aS (p0 p1:Value):Lk 189 #[p0,p1] (KU p0 p1):=lk [p0,p1] [(5,[4])] Tryz.func189
theorem P1:Ad Tryz.prog 189:=bd Tryz.func189
def OZ (p0:Value) (K:Value→World→Prop):World→Prop :=
 xB 43 p0 fun t1 =>
 Join1 (fun k1 =>
 xF 43 t1 3 fun t3 =>
 xL 5 t3 fun t4 =>
 xO .and 5 t4 (.int .u8 192) fun t5 =>
 xO .eql 5 t5 (.int .u8 0) fun t6 =>
 xW t6
 (xL 43 t1 fun t8 =>
 xC 136 [.const t8] [43] 4 fun t9 =>
 k1 t9) <|
 k1 (.bool false)) fun t2 =>
 K t2
theorem R5 (p0:Value):Lk 190 #[p0] (OZ p0):=lk [p0] [(3,[2])] Tryz.func190
theorem OU:Ad Tryz.prog 190:=bd Tryz.func190
def P7 (p0 p1:Value) (K:Value→World→Prop):World→Prop :=
 xB 43 p1 fun t3 =>
 xF 43 t3 1 fun t7 =>
 xL 5 t7 fun t8 =>
 xF 43 t3 2 fun t9 =>
 xL 5 t9 fun t10 =>
 xF 43 t3 3 fun t11 =>
 xL 5 t11 fun t12 =>
 xO .andNot 5 t12 (.int .u8 192) fun t13 =>
 OpX Tryz.prog (.build 43 #[(0,.const p0),(1,.const t8),(2,.const t10),(3,.const t13)]) 43 fun t14 =>
 xA 43 fun t5 =>
 xS 43 t5 t14 <|
 xC 195 [.const p0] [21] 3 fun t16 =>
 xO .eql 3 t16 (.int .i64 1) fun t18 =>
 xW t18
 (xL 43 t5 fun t19 =>
 OpX Tryz.prog (.buildSlice 36 1 #[(0,.const t19)]) 36 fun t20 =>
 K t20) <|
 xO .eql 3 t16 (.int .i64 2) fun t22 =>
 xW t22
 (xF 43 t5 3 fun t23 =>
 xL 5 t23 fun t24 =>
 xO .or 5 t24 (.int .u8 64) fun t25 =>
 xF 43 t5 3 fun t26 =>
 xS 5 t26 t25 <|
 Ai <|
 qL 43 t5 fun t27 =>
 qL 43 t5 fun t28 =>
 xC 235 [.const t28] [43] 43 fun t29 =>
 xT (qZ 43 t5 t27) <|
 OpX Tryz.prog (.buildSlice 36 2 #[(0,.const t27),(1,.const t29)]) 36 fun t30 =>
 K t30) <|
 K (.slice none 0 0)
theorem RV (p0 p1:Value):Lk 219 #[p0,p1] (P7 p0 p1):=lk [p0,p1] [] Tryz.func219
theorem UB:Ad Tryz.prog 219:=bd Tryz.func219
def OX (p0:Value) (K:Value→World→Prop):World→Prop :=
 xB 43 p0 fun t1 =>
 xA 43 fun t2 =>
 xF 43 t1 1 fun t3 =>
 xL 5 t3 fun t4 =>
 xF 43 t1 2 fun t5 =>
 xL 5 t5 fun t6 =>
 xF 43 t1 3 fun t7 =>
 xL 5 t7 fun t8 =>
 xO .andNot 5 t8 (.int .u8 64) fun t9 =>
 xO .or 5 t9 (.int .u8 128) fun t10 =>
 OpX Tryz.prog (.build 43 #[(1,.const t4),(2,.const t6),(3,.const t10)]) 43 fun t11 =>
 xS 43 t2 t11 <|
 xD 43 t2 fun t2_1 =>
 K t2_1
theorem UO (p0:Value):Lk 235 #[p0] (OX p0):=lk [p0] [] Tryz.func235
theorem KP:Ad Tryz.prog 235:=bd Tryz.func235
def L1 (p0 p1:Value) (K:Value→World→Prop):World→Prop :=
 xO .eql 254 p0 (.pointer none) fun t8 =>
 xW t8
 (K (.slice none 0 0)) <|
 OpX Tryz.prog (.nilCheck (.const p0)) 0 fun t11 =>
 xF 215 t11 0 fun t12 =>
 xL 9 t12 fun t13 =>
 xO .add 9 t13 p1 fun t15 =>
 xC 182 [.const t15] [9] 255 fun t16 =>
 xE t16 0 120 fun t17 =>
 xE t16 1 9 fun t18 =>
 xC 183 [.const t18] [9] 9 fun t21 =>
 OpX Tryz.prog (.nilCheck (.const p0)) 0 fun t22 =>
 xF 215 t22 0 fun t23 =>
 xS 9 t23 t21 <|
 K t17
theorem YP (p0 p1:Value):Lk 123 #[p0,p1] (L1 p0 p1):=lk [p0,p1] [] Tryz.func123
theorem Qn:Ad Tryz.prog 123:=bd Tryz.func123
def Ku (p0:Value) (K:Value→World→Prop):World→Prop :=
 Join2 (fun k1 =>
 Loop2 p0 (.slice none 0 0) fun t0 t4 next2 =>
 xU t0 9 fun t9 =>
 xO .gtr 3 t9 (.int .i64 0) fun t10 =>
 xW t10
 (xC 230 [.const t0] [9] 294 fun t13 =>
 xE t13 0 21 fun t14 =>
 xE t13 1 3 fun t15 =>
 xE t13 2 4 fun t16 =>
 xW t16
 (k1 t0 t4) <|
 OpX Tryz.prog (.buildSlice 120 1 #[(0,.const t14)]) 120 fun t20 =>
 OpX Tryz.prog (.call { callee:=.builtin .append,args:=#[.const t4,.const t20],argTypes:=#[120,120] }) 120 fun t21 =>
 OpX Tryz.prog (.slice 9 (.const t0) (some (.const t15)) none none) 9 fun t24 =>
 next2 t24 t21) <|
 k1 t0 t4) fun t0_1 t4_1 =>
 K (.tuple #[t4_1,t0_1])
theorem Zf (p0:Value):Lk 182 #[p0] (Ku p0):=lk [p0] [(8,[0,4]),(9,[0,4])] Tryz.func182
theorem Qp:Ad Tryz.prog 182:=bd Tryz.func182
def Oe (p0:Value) (K:Value→World→Prop):World→Prop :=
 OpX Tryz.prog (.build 304 #[(0,.const (.int .i32 127)),(1,.const (.int .i32 159)),(2,.const (.int .i64 0))]) 304 fun t6 =>
 OpX Tryz.prog (.build 304 #[(0,.const (.int .i32 768)),(1,.const (.int .i32 879)),(2,.const (.int .i64 0))]) 304 fun t7 =>
 OpX Tryz.prog (.build 304 #[(0,.const (.int .i32 8203)),(1,.const (.int .i32 8207)),(2,.const (.int .i64 0))]) 304 fun t8 =>
 OpX Tryz.prog (.build 304 #[(0,.const (.int .i32 55296)),(1,.const (.int .i32 57343)),(2,.const (.int .i64 0))]) 304 fun t9 =>
 OpX Tryz.prog (.build 304 #[(0,.const (.int .i32 65024)),(1,.const (.int .i32 65039)),(2,.const (.int .i64 0))]) 304 fun t10 =>
 OpX Tryz.prog (.build 304 #[(0,.const (.int .i32 4352)),(1,.const (.int .i32 4447)),(2,.const (.int .i64 2))]) 304 fun t11 =>
 OpX Tryz.prog (.build 304 #[(0,.const (.int .i32 11904)),(1,.const (.int .i32 12350)),(2,.const (.int .i64 2))]) 304 fun t12 =>
 OpX Tryz.prog (.build 304 #[(0,.const (.int .i32 12353)),(1,.const (.int .i32 42191)),(2,.const (.int .i64 2))]) 304 fun t13 =>
 OpX Tryz.prog (.build 304 #[(0,.const (.int .i32 44032)),(1,.const (.int .i32 55203)),(2,.const (.int .i64 2))]) 304 fun t14 =>
 OpX Tryz.prog (.build 304 #[(0,.const (.int .i32 63744)),(1,.const (.int .i32 64255)),(2,.const (.int .i64 2))]) 304 fun t15 =>
 OpX Tryz.prog (.build 304 #[(0,.const (.int .i32 65072)),(1,.const (.int .i32 65135)),(2,.const (.int .i64 2))]) 304 fun t16 =>
 OpX Tryz.prog (.build 304 #[(0,.const (.int .i32 65281)),(1,.const (.int .i32 65376)),(2,.const (.int .i64 2))]) 304 fun t17 =>
 OpX Tryz.prog (.build 304 #[(0,.const (.int .i32 65504)),(1,.const (.int .i32 65510)),(2,.const (.int .i64 2))]) 304 fun t18 =>
 OpX Tryz.prog (.build 304 #[(0,.const (.int .i32 127744)),(1,.const (.int .i32 128591)),(2,.const (.int .i64 2))]) 304 fun t19 =>
 OpX Tryz.prog (.build 304 #[(0,.const (.int .i32 129280)),(1,.const (.int .i32 129535)),(2,.const (.int .i64 2))]) 304 fun t20 =>
 OpX Tryz.prog (.build 304 #[(0,.const (.int .i32 131072)),(1,.const (.int .i32 262141)),(2,.const (.int .i64 2))]) 304 fun t21 =>
 OpX Tryz.prog (.build 305 #[(0,.const t6),(1,.const t7),(2,.const t8),(3,.const t9),(4,.const t10),(5,.const t11),(6,.const t12),(7,.const t13),(8,.const t14),(9,.const t15),(10,.const t16),(11,.const t17),(12,.const t18),(13,.const t19),(14,.const t20),(15,.const t21)]) 305 fun t22 =>
 xA 305 fun t3 =>
 xS 305 t3 t22 <|
 Join1 (fun k1 =>
 xO .lss 21 p0 (.int .i32 32) fun t25 =>
 xW t25
 (k1 (.bool true)) <|
 xO .gtr 21 p0 (.int .i32 1114111) fun t28 =>
 k1 t28) fun t23 =>
 xW t23
 (K (.int .i64 0)) <|
 xO .lss 21 p0 (.int .i32 127) fun t32 =>
 xW t32
 (K (.int .i64 1)) <|
 xL 305 t3 fun t33 =>
 Loop1 (.int .i64 0) fun t34 next2 =>
 xO .lss 3 t34 (.int .i64 16) fun t35 =>
 xW t35
 (OpX Tryz.prog (.index 305 (.const t33) (.const t34)) 304 fun t36 =>
 xA 304 fun t5 =>
 xS 304 t5 t36 <|
 Join1 (fun k3 =>
 xF 304 t5 0 fun t38 =>
 xL 21 t38 fun t39 =>
 xO .geq 21 p0 t39 fun t40 =>
 xW t40
 (xF 304 t5 1 fun t43 =>
 xL 21 t43 fun t44 =>
 xO .leq 21 p0 t44 fun t45 =>
 k3 t45) <|
 k3 (.bool false)) fun t46 =>
 xW t46
 (xF 304 t5 2 fun t47 =>
 xL 3 t47 fun t48 =>
 K t48) <|
 xO .add 3 t34 (.int .i64 1) fun t49 =>
 next2 t49) <|
 K (.int .i64 1)
theorem Sf (p0:Value):Lk 195 #[p0] (Oe p0):=lk [p0] [(7,[23]),(23,[34]),(35,[46])] Tryz.func195
theorem FH:Ad Tryz.prog 195:=bd Tryz.func195
def Kb (p0:Value) (K:Value→World→Prop):World→Prop :=
 OpX Tryz.prog (.index 9 (.const p0) (.const (.int .i64 0))) 5 fun t11 =>
 Join2 (fun k1 =>
 xO .leq 5 t11 (.int .u8 127) fun t14 =>
 xW t14
 (OpX Tryz.prog (.convert 5 21 (.const t11)) 21 fun t16 =>
 K (.tuple #[t16,(.int .i64 1),(.bool false)])) <|
 Join1 (fun k2 =>
 xO .geq 5 t11 (.int .u8 194) fun t19 =>
 xW t19
 (xO .leq 5 t11 (.int .u8 223) fun t22 =>
 k2 t22) <|
 k2 (.bool false)) fun t17 =>
 xW t17
 (xO .and 5 t11 (.int .u8 31) fun t25 =>
 OpX Tryz.prog (.convert 5 21 (.const t25)) 21 fun t26 =>
 k1 t26 (.int .i64 1)) <|
 Join1 (fun k3 =>
 xO .geq 5 t11 (.int .u8 224) fun t29 =>
 xW t29
 (xO .leq 5 t11 (.int .u8 239) fun t32 =>
 k3 t32) <|
 k3 (.bool false)) fun t27 =>
 xW t27
 (xO .and 5 t11 (.int .u8 15) fun t35 =>
 OpX Tryz.prog (.convert 5 21 (.const t35)) 21 fun t36 =>
 k1 t36 (.int .i64 2)) <|
 Join1 (fun k4 =>
 xO .geq 5 t11 (.int .u8 240) fun t39 =>
 xW t39
 (xO .leq 5 t11 (.int .u8 244) fun t42 =>
 k4 t42) <|
 k4 (.bool false)) fun t37 =>
 xW t37
 (xO .and 5 t11 (.int .u8 7) fun t45 =>
 OpX Tryz.prog (.convert 5 21 (.const t45)) 21 fun t46 =>
 k1 t46 (.int .i64 3)) <|
 K (.tuple #[(.int .i32 65533),(.int .i64 1),(.bool false)])) fun t2 t6 =>
 Join2 (fun k5 =>
 xO .eql 5 t11 (.int .u8 224) fun t49 =>
 xW t49
 (k5 (.int .u8 160) (.int .u8 191)) <|
 xO .eql 5 t11 (.int .u8 237) fun t51 =>
 xW t51
 (k5 (.int .u8 128) (.int .u8 159)) <|
 xO .eql 5 t11 (.int .u8 240) fun t53 =>
 xW t53
 (k5 (.int .u8 144) (.int .u8 191)) <|
 xO .eql 5 t11 (.int .u8 244) fun t55 =>
 xW t55
 (k5 (.int .u8 128) (.int .u8 143)) <|
 k5 (.int .u8 128) (.int .u8 191)) fun t7 t8 =>
 Loop4 t2 (.int .i64 1) t7 t8 fun t2_1 t3 t7_1 t8_1 next6 =>
 xO .leq 3 t3 t6 fun t58 =>
 xW t58
 (xU p0 9 fun t63 =>
 xO .eql 3 t3 t63 fun t64 =>
 xW t64
 (K (.tuple #[(.int .i32 65533),t3,(.bool true)])) <|
 OpX Tryz.prog (.index 9 (.const p0) (.const t3)) 5 fun t68 =>
 Join1 (fun k7 =>
 xO .lss 5 t68 t7_1 fun t71 =>
 xW t71
 (k7 (.bool true)) <|
 xO .gtr 5 t68 t8_1 fun t75 =>
 k7 t75) fun t76 =>
 xW t76
 (K (.tuple #[(.int .i32 65533),t3,(.bool false)])) <|
 xO .shl 21 t2_1 (.int .u64 6) fun t79 =>
 xO .and 5 t68 (.int .u8 63) fun t81 =>
 OpX Tryz.prog (.convert 5 21 (.const t81)) 21 fun t82 =>
 xO .or 21 t79 t82 fun t83 =>
 xO .add 3 t3 (.int .i64 1) fun t60 =>
 next6 t83 t60 (.int .u8 128) (.int .u8 191)) <|
 K (.tuple #[t2_1,t3,(.bool false)])
theorem XR (p0:Value):Lk 230 #[p0] (Kb p0):=lk [p0] [(6,[2,6]),(15,[17]),(19,[27]),(23,[37]),(29,[7,8]),(54,[2,3,7,8]),(75,[76])] Tryz.func230
theorem RF:Ad Tryz.prog 230:=bd Tryz.func230
def Di (l:List (Int × Int × Int)):List Value:=l.flatMap fun s=>[.int .i32 s.1,.int .i32 s.2.1,.int .i64 s.2.2]
theorem Yc (l:List (Int × Int × Int)) (i:Nat) (s:Int × Int × Int) (h:l[i]?=some s):((Di l).toArray).extract (i*3) (i*3+3)=#[.int .i32 s.1,.int .i32 s.2.1,.int .i64 s.2.2]:=by
 obtain⟨pre,post,h1,h2⟩:=HL (f:=fun s:Int × Int × Int=>[Value.int .i32 s.1,.int .i32 s.2.1,.int .i64 s.2.2]) (m:=3) (fun _=>rfl) l i s h
 have:=Jo pre [Value.int .i32 s.1,.int .i32 s.2.1,.int .i64 s.2.2] post 0 (0,0) (i*3) 3 h2 rfl
 rw[E7] at this
 have hs:Di l=pre++[Value.int .i32 s.1,.int .i32 s.2.1,.int .i64 s.2.2]++post:=h1
 rw[hs]
 split at this
 ·simpa using this
 ·simp at this
theorem Gy (w:World) (r:Int):Calls Tryz.prog 195 #[.int .i32 r] w (Ac fun v w'=>v=.int .i64 (Be r)∧Chg [] w w'):=by
 apply Sf
 intro K hK
 unfold Oe
 refine OpX.build (c:=#[.int .i32 127,.int .i32 159,.int .i64 0]) (by kernel_rfl) ?_
 refine OpX.build (c:=#[.int .i32 768,.int .i32 879,.int .i64 0]) (by kernel_rfl) ?_
 refine OpX.build (c:=#[.int .i32 8203,.int .i32 8207,.int .i64 0]) (by kernel_rfl) ?_
 refine OpX.build (c:=#[.int .i32 55296,.int .i32 57343,.int .i64 0]) (by kernel_rfl) ?_
 refine OpX.build (c:=#[.int .i32 65024,.int .i32 65039,.int .i64 0]) (by kernel_rfl) ?_
 refine OpX.build (c:=#[.int .i32 4352,.int .i32 4447,.int .i64 2]) (by kernel_rfl) ?_
 refine OpX.build (c:=#[.int .i32 11904,.int .i32 12350,.int .i64 2]) (by kernel_rfl) ?_
 refine OpX.build (c:=#[.int .i32 12353,.int .i32 42191,.int .i64 2]) (by kernel_rfl) ?_
 refine OpX.build (c:=#[.int .i32 44032,.int .i32 55203,.int .i64 2]) (by kernel_rfl) ?_
 refine OpX.build (c:=#[.int .i32 63744,.int .i32 64255,.int .i64 2]) (by kernel_rfl) ?_
 refine OpX.build (c:=#[.int .i32 65072,.int .i32 65135,.int .i64 2]) (by kernel_rfl) ?_
 refine OpX.build (c:=#[.int .i32 65281,.int .i32 65376,.int .i64 2]) (by kernel_rfl) ?_
 refine OpX.build (c:=#[.int .i32 65504,.int .i32 65510,.int .i64 2]) (by kernel_rfl) ?_
 refine OpX.build (c:=#[.int .i32 127744,.int .i32 128591,.int .i64 2]) (by kernel_rfl) ?_
 refine OpX.build (c:=#[.int .i32 129280,.int .i32 129535,.int .i64 2]) (by kernel_rfl) ?_
 refine OpX.build (c:=#[.int .i32 131072,.int .i32 262141,.int .i64 2]) (by kernel_rfl) ?_
 refine OpX.build (c:=(Di BK).toArray) (by kernel_rfl) ?_
 refine OpX.fresh (z:=_) WD (by kernel_rfl) (by kernel_rfl) (by kernel_rfl) ?_
 refine Join1.inl ?_
 simp -dsimp (disch:=first|omega|(simp only[go_sem,seval];try omega))only[go_sem,seval]
 have hc0:=(Chg.refl [] w).alloc (.cells (Value.agg (Di BK).toArray).cells 305)
 refine BrW.dec (fun h=>?_) (fun h=>?_)
 ·simp -dsimp (disch:=first|omega|(simp only[go_sem,seval];try omega))only[go_sem,seval]
  exact hK _ _ ⟨by simp [Be,h],hc0⟩
 ·simp -dsimp (disch:=first|omega|(simp only[go_sem,seval];try omega))only[go_sem,seval]
  refine BrW.dec (fun h2=>?_) (fun h2=>?_)
  ·exact hK _ _ ⟨by simp [Be,h2],hc0⟩
  ·simp -dsimp (disch:=first|omega|(simp only[go_sem,seval];try omega))only[go_sem,seval]
   refine BrW.dec (fun h3=>?_) (fun h3=>?_)
   ·exact hK _ _ ⟨by simp [Be,h,h2,h3],hc0⟩
   ·have hld:AS ((w.alloc (.cells (Di BK).toArray 305)).heap[w.heap.size]?) 0 48=some (Di BK).toArray:=by
     rw[Lyc.heap_alloc_new _ _ _ rfl]
     exact Jo [] (Di BK) [] _ _ 0 48 rfl (by kernel_rfl)
    rw[xL,aN _ _ _ _ _ _ FJ.2.2.2.1,FJ.2.2.2.2.2.1,Option.bind_some,hld,Dh]
    refine Loop1.st (fun k:Nat=>.int .i64 k) (fun k w'=>Chg [] w w'∧k≤16∧Cr BK r=Cr (BK.drop k) r) (fun k=>16-k) 0 rfl ⟨hc0,by omega,rfl⟩ ?_
    rintro next k w' hn ⟨hc,hk,he⟩
    simp -dsimp (disch:=first|omega|(simp only[go_sem,seval];try omega))only[go_sem,seval]
    refine BrW.dec (fun h4=>?_) (fun h4=>?_)
    ·have hk':k<16:=by omega
     have hs:BK[k]?=some (BK[k]'hk'):=List.getElem?_eq_getElem hk'
     have hd:BK.drop k=BK[k]'hk'::BK.drop (k+1):=List.drop_eq_getElem_cons hk'
     rw[hd] at he
     generalize BK[k]'hk'=s at hs he
     have hi:DT Tryz.prog 305 (Di BK).toArray k=some (.agg #[.int .i32 s.1,.int .i32 s.2.1,.int .i64 s.2.2]):=by
      have:=Yc _ _ _ hs
      simp [DT,Dp,FJ.2.2.2.2.2.2.1,FJ.2.2.2.2.1,MY.2.2.2.1,MY.2.1,h4]
      exact⟨hk',by simpa using this⟩
     simp -dsimp (disch:=first|omega|(simp only[go_sem,seval];try omega))only[go_sem,seval,hi]
     have hc1:=hc.alloc (.cells #[.int .i32 s.1,.int .i32 s.2.1,.int .i64 s.2.2] 304)
     refine Join1.inl ?_
     simp -dsimp (disch:=first|omega|(simp only[go_sem,seval];try omega))only[go_sem,seval]
     refine BrW.dec (fun h5=>?_) (fun h5=>?_)
     ·simp -dsimp (disch:=first|omega|(simp only[go_sem,seval];try omega))only[go_sem,seval]
      refine BrW.dec (fun h6=>?_) (fun h6=>?_)
      ·simp -dsimp (disch:=first|omega|(simp only[go_sem,seval];try omega))only[go_sem,seval]
       refine hK _ _ ⟨?_,hc1⟩
       simp [Be,h,h2,h3,he,Cr,h5,h6]
      ·simp -dsimp (disch:=first|omega|(simp only[go_sem,seval];try omega))only[go_sem,seval]
       refine hn (k+1) _ ⟨hc1,by omega,?_⟩ (by omega)
       rw[he];simp [Cr,h6]
     ·simp -dsimp (disch:=first|omega|(simp only[go_sem,seval];try omega))only[go_sem,seval]
      refine hn (k+1) _ ⟨hc1,by omega,?_⟩ (by omega)
      rw[he];simp [Cr,h5]
    ·have hk':k=16:=by omega
     subst hk'
     refine hK _ _ ⟨?_,hc⟩
     simp [Be,h,h2,h3,he]
     simp [BK,Cr]
theorem Jp (w:World) (c:Cel):Calls Tryz.prog 136 #[c.val] w (Ac fun v w'=>v=.bool c.check∧Chg [] w w'):=by
 apply Tn
 intro K hK
 unfold Po
 simp -dsimp (disch:=first|omega|(simp only[go_sem,seval];try omega))only[go_sem,seval]
 have hc1:=((Chg.refl [] w).alloc (.cells c.cells.toArray 43)).drew
 refine BrW.dec (fun h=>?_) (fun h=>?_)
 ·refine Join1.inl ?_
  simp -dsimp (disch:=first|omega|(simp only[go_sem,seval];try omega))only[go_sem,seval]
  refine BrW.dec (fun h2=>?_) (fun h2=>?_)
  ·simp -dsimp (disch:=first|omega|(simp only[go_sem,seval];try omega))only[go_sem,seval]
   refine hK _ _ ⟨?_,hc1⟩
   simp [Cel.check,Cel.tail,Cel.wide,h,h2]
  ·simp -dsimp (disch:=first|omega|(simp only[go_sem,seval];try omega))only[go_sem,seval]
   refine hK _ _ ⟨?_,hc1⟩
   simp [Cel.check,Cel.tail,Cel.wide,h,h2]
 ·simp -dsimp (disch:=first|omega|(simp only[go_sem,seval];try omega))only[go_sem,seval]
  refine BrW.dec (fun h2=>?_) (fun h2=>?_)
  ·simp -dsimp (disch:=first|omega|(simp only[go_sem,seval];try omega))only[go_sem,seval]
   refine OpX.call FH rfl (Calls.ret (Gy _ c.r) ?_)
   rintro v w1 ⟨rfl,hc2⟩
   simp -dsimp (disch:=first|omega|(simp only[go_sem,seval];try omega))only[go_sem,seval]
   refine hK _ _ ⟨?_,hc1.trans0 hc2⟩
   simp [Cel.check,Cel.tail,Cel.wide,h,h2]
  ·simp -dsimp (disch:=first|omega|(simp only[go_sem,seval];try omega))only[go_sem,seval]
   refine OpX.call FH rfl (Calls.ret (Gy _ c.r) ?_)
   rintro v w1 ⟨rfl,hc2⟩
   simp -dsimp (disch:=first|omega|(simp only[go_sem,seval];try omega))only[go_sem,seval]
   refine hK _ _ ⟨?_,hc1.trans0 hc2⟩
   simp [Cel.check,Cel.tail,Cel.wide,h,h2]
theorem Kk (w:World) (c:Cel):Calls Tryz.prog 235 #[c.val] w (Ac fun v w'=>v=c.tailOf.val∧Chg [] w w'):=by
 apply UO
 intro K hK
 unfold OX
 simp -dsimp (disch:=first|omega|(simp only[go_sem,seval];try omega))only[go_sem,seval]
 exact hK _ _ ⟨rfl,((Chg.refl [] w).alloc _).alloc _⟩
theorem Kl (w:World) (c:Cel):Calls Tryz.prog 190 #[c.val] w (Ac fun v w'=>v=.bool c.single∧Chg [] w w'):=by
 apply R5
 intro K hK
 unfold OZ
 simp -dsimp (disch:=first|omega|(simp only[go_sem,seval];try omega))only[go_sem,seval]
 have hc1:=(Chg.refl [] w).alloc (.cells c.cells.toArray 43)
 refine Join1.inl ?_
 simp -dsimp (disch:=first|omega|(simp only[go_sem,seval];try omega))only[go_sem,seval]
 refine BrW.dec (fun h=>?_) (fun h=>?_)
 ·simp -dsimp (disch:=first|omega|(simp only[go_sem,seval];try omega))only[go_sem,seval]
  refine OpX.call Ht rfl (Calls.ret (Jp _ c) ?_)
  rintro v w1 ⟨rfl,hc2⟩
  refine hK _ _ ⟨?_,hc1.trans0 hc2⟩
  simp [Cel.single,Cel.plain,h]
 ·simp -dsimp (disch:=first|omega|(simp only[go_sem,seval];try omega))only[go_sem,seval]
  refine hK _ _ ⟨?_,hc1⟩
  simp [Cel.single,Cel.plain,h]
theorem DS (w:World):Calls Tryz.prog 33 #[] w (Ac fun v w'=>v=Cel.blank.val∧Chg [] w w'):=by
 apply QW
 intro K hK
 unfold LS
 simp -dsimp (disch:=first|omega|(simp only[go_sem,seval];try omega))only[go_sem,seval]
 exact hK _ _ ⟨rfl,(Chg.refl [] w).alloc _⟩
theorem Mg {w:World} {e:Option TypeId} {a:Option Addr} {l:List Cel} (hs:SxC w e a l) (cap x:Nat) (hx:x<l.length) (hl:l.length≤1000000000):Calls Tryz.prog 189 #[.slice a l.length cap,.int .i64 x] w (Ac fun v w'=>v=.bool (Bp l x)∧Chg [] w w'):=by
 obtain⟨b,o,rfl,hb,h1,-⟩:=SxC.cel hs (List.getElem?_eq_getElem hx)
 have hp:Bp l x=match l[x+1]? with|some d=>BS l[x] d|none=>false:=by
  unfold Bp;rw[List.getElem?_eq_getElem hx];cases l[x+1]?<;>rfl
 rw[hp]
 generalize l[x]=c at h1 ⊢
 apply aS
 intro K hK
 unfold KU
 simp -dsimp (disch:=first|omega|(simp only[go_sem,seval];try omega))only[go_sem,seval,h1]
 have hc1:=((Chg.refl [] w).alloc (.cells c.cells.toArray 43)).drew
 refine Join1.inl ?_
 simp -dsimp (disch:=first|omega|(simp only[go_sem,seval];try omega))only[go_sem,seval]
 refine BrW.dec (fun h=>?_) (fun h=>?_)
 ·simp -dsimp (disch:=first|omega|(simp only[go_sem,seval];try omega))only[go_sem,seval]
  refine OpX.call Ht rfl (Calls.ret (Jp _ c) ?_)
  rintro v w1 ⟨rfl,hc2⟩
  have hc3:=hc1.trans0 hc2
  refine BrW.by (fun h2=>?_) (fun h2=>?_)
  ·simp -dsimp (disch:=first|omega|(simp only[go_sem,seval];try omega))only[go_sem,seval]
   refine BrW.dec (fun h3=>?_) (fun h3=>?_)
   ·have hx':x+1<l.length:=by omega
    have hs1:=hs.chg0 hc3
    obtain⟨b',o',he,hb',h4,-⟩:=SxC.cel hs1 (List.getElem?_eq_getElem hx')
    cases he
    have h1':=hc2.keep (b:=w.heap.size) (o:=.cells c.cells.toArray 43) (by simp -dsimp (disch:=first|omega|(simp only[go_sem,seval];try omega))only[go_sem,seval]) (by simp)
    rw[List.getElem?_eq_getElem hx'] at hK
    dsimp only at hK
    generalize l[x+1]=d at h4 hK
    have h4':AS w1.heap[b]? (o+((x:Int)+1).toNat*4) 4=some #[.int .i32 d.r,.int .u8 d.fg.toNat,.int .u8 d.bg.toNat,.int .u8 d.a.toNat]:=h4
    simp -dsimp (disch:=first|omega|(simp only[go_sem,seval];try omega))only[go_sem,seval,h4',h1']
    refine OpX.call KP rfl (Calls.ret (Kk _ c) ?_)
    rintro v w2 ⟨rfl,hc4⟩
    have h5:AS w2.heap[b]? (o+((x:Int)+1).toNat*4) 4=some #[.int .i32 d.r,.int .u8 d.fg.toNat,.int .u8 d.bg.toNat,.int .u8 d.a.toNat]:=by rw[hc4.same b hb' (by simp)];exact h4'
    simp -dsimp (disch:=first|omega|(simp only[go_sem,seval];try omega))only[go_sem,seval,h5,Cel.tailOf]
    refine hK _ _ ⟨?_,hc3.trans0 hc4⟩
    rw[BS,h2,Cel.wide,ZL]
    simp [h,Cel.tailOf]
    rfl
   ·simp -dsimp (disch:=first|omega|(simp only[go_sem,seval];try omega))only[go_sem,seval]
    refine hK _ _ ⟨?_,hc3⟩
    rw[List.getElem?_eq_none (by omega)]
  ·simp -dsimp (disch:=first|omega|(simp only[go_sem,seval];try omega))only[go_sem,seval]
   refine hK _ _ ⟨?_,hc3⟩
   cases l[x+1]?<;>simp [BS,h2]
 ·simp -dsimp (disch:=first|omega|(simp only[go_sem,seval];try omega))only[go_sem,seval]
  refine hK _ _ ⟨?_,hc1⟩
  cases l[x+1]?<;>simp [BS,Cel.wide,h]
theorem RG {w:World} {e:Option TypeId} {a:Option Addr} {l:List Cel} (hs:SxC w e a l) (cap:Nat) (hl:l.length≤1000000000):Calls Tryz.prog 130 #[.slice a l.length cap] w (Ac fun v w'=>v=.bool (right l)∧Chg [] w w'):=by
 apply Zs
 intro K hK
 unfold N8
 refine Loop1.st (fun k:Nat=>.int .i64 k) (fun k w'=>Chg [] w w'∧k≤l.length∧right l=right (l.drop k)) (fun k=>l.length-k) 0 rfl ⟨Chg.refl _ _,by omega,rfl⟩ ?_
 rintro next k w' hn ⟨hc,hk,he⟩
 simp -dsimp (disch:=first|omega|(simp only[go_sem,seval];try omega))only[go_sem,seval]
 refine BrW.dec (fun h1=>?_) (fun h1=>?_)
 ·have hk':k<l.length:=by omega
  have hst:=T7 hk'
  have hs':=hs.chg0 hc
  refine OpX.call P1 rfl (Calls.ret (Mg hs' cap k hk' hl) ?_)
  rintro v w1 ⟨rfl,hc1⟩
  refine BrW.by (fun h2=>?_) (fun h2=>?_)
  ·have:=OY h2
   simp -dsimp (disch:=first|omega|(simp only[go_sem,seval];try omega))only[go_sem,seval]
   refine hn (k+2) _ ⟨hc.trans0 hc1,by omega,?_⟩ (by omega)
   rw[he,hst,h2];rfl
  ·obtain⟨b,o,rfl,hb,h3,-⟩:=SxC.cel (hs.chg0 (hc.trans0 hc1)) (List.getElem?_eq_getElem hk')
   simp -dsimp (disch:=first|omega|(simp only[go_sem,seval];try omega))only[go_sem,seval,h3]
   refine OpX.call OU rfl (Calls.ret (Kl _ l[k]) ?_)
   rintro v w2 ⟨rfl,hc2⟩
   rw[h2] at hst
   simp only[Bool.false_eq_true,if_false] at hst
   simp -dsimp (disch:=first|omega|(simp only[go_sem,seval];try omega))only[go_sem,seval]
   refine BrW.by (fun h4=>?_) (fun h4=>?_)
   ·refine hK _ _ ⟨?_,(hc.trans0 hc1).trans0 hc2⟩
    rw[he,hst];simp at h4;simp [h4]
   ·simp -dsimp (disch:=first|omega|(simp only[go_sem,seval];try omega))only[go_sem,seval]
    refine hn (k+1) _ ⟨(hc.trans0 hc1).trans0 hc2,by omega,?_⟩ (by omega)
    rw[he,hst];simp at h4;simp [h4]
 ·have hk':k=l.length:=by omega
  refine hK _ _ ⟨?_,hc⟩
  rw[he,hk'];simp [right]
theorem Im {w:World} {e:Option TypeId} {a:Option Addr} {l:List Cel} (hs:SxC w e a l) (cap:Nat) (hl:l.length≤100000):Calls Tryz.prog 132 #[.slice a l.length cap] w (Ac fun v w'=>Ox w.heap.size w' 43 4 Cel.cells v (AK l)∧Chg [] w w'):=by
 apply SI
 intro K hK
 unfold Mr
 simp -dsimp (disch:=first|omega|(simp only[go_sem,seval];try omega))only[go_sem,seval]
 refine Gu (f:=Cel.cells) ⟨0,0,0,0⟩ EM Cel.len rfl hl (by omega) (by omega) (Nat.le_refl _) ?_
 intro w1 hw1 ho1
 have hc1:Chg [] w w1:=by rw[hw1];exact(Chg.refl _ _).alloc _
 refine ZG (t:=36) Dz Cel.len Cel.ok ho1 (hs.chg0 hc1) rfl (by simp) ?_
 intro w2 ho2 hc3
 have hc2:=Gn ho1 hc1 hc3
 clear hw1 ho1 hc1 hc3 w1
 refine Loop1.st (fun s:Nat × List Cel=>.int .i64 s.1) (fun s w'=>Chg [] w w'∧Ox w.heap.size w' 43 4 Cel.cells (.slice (some ⟨w.heap.size,0,none⟩) l.length l.length) s.2∧s.1≤l.length∧AK l=s.2.take s.1++AK (l.drop s.1)∧s.2.drop s.1=l.drop s.1∧s.2.length=l.length) (fun s=>l.length-s.1) (0,l) rfl ⟨hc2,ho2,by simp,rfl,rfl,rfl⟩ ?_
 rintro next ⟨k,out⟩ w' hn ⟨hc,ho,hk,he,hd,hlen⟩
 dsimp only at ho hk he hd hlen ⊢
 simp -dsimp (disch:=first|omega|(simp only[go_sem,seval];try omega))only[go_sem,seval]
 refine BrW.dec (fun h1=>?_) (fun h1=>?_)
 ·have hk':k<l.length:=by omega
  have hst:=XG hk'
  refine OpX.call P1 rfl (Calls.ret (Mg (hs.chg0 hc) cap k hk' (by omega)) ?_)
  rintro v w1 ⟨rfl,hc1⟩
  have hc1':=hc.trans0 hc1
  have ho1:=ho.chg0 hc1
  refine BrW.by (fun h2=>?_) (fun h2=>?_)
  ·have:=OY h2
   simp -dsimp (disch:=first|omega|(simp only[go_sem,seval];try omega))only[go_sem,seval]
   refine hn (k+2,out) _ ⟨hc1',ho1,by dsimp only;omega,?_,?_,hlen⟩ (by dsimp only;omega)
   ·dsimp only
    rw[he,hst,h2,←hd,if_pos rfl,←List.append_assoc,←List.take_add]
   ·have:=congrArg (List.drop 2) hd
    simpa [List.drop_drop] using this
  ·rw[h2] at hst
   simp only[Bool.false_eq_true,if_false] at hst
   obtain⟨b,o,rfl,hb,h3,h4,h5,h6,h7⟩:=SxC.cel (hs.chg0 hc1') (List.getElem?_eq_getElem hk')
   simp -dsimp (disch:=first|omega|(simp only[go_sem,seval];try omega))only[go_sem,seval,h3]
   refine OpX.call OU rfl (Calls.ret (Kl _ l[k]) ?_)
   rintro v w2 ⟨rfl,hc2⟩
   have hc2':=hc1'.trans0 hc2
   have ho2:=ho1.chg0 hc2
   simp -dsimp (disch:=first|omega|(simp only[go_sem,seval];try omega))only[go_sem,seval]
   have hout:out[k]?=some l[k]:=by
    have:=congrArg (·[0]?) hd
    simpa [List.getElem?_drop,hk'] using this
   refine BrW.by (fun h8=>?_) (fun h8=>?_)
   ·obtain⟨b',o',he',hb',h3,h4,h5,h6,h7⟩:=SxC.cel (hs.chg0 hc2') (List.getElem?_eq_getElem hk')
    cases he'
    have hko:k<out.length:=by omega
    obtain⟨g,cp,x',hv,hg,hgl,hput,ho3⟩:=ho2.put Cel.len hko ⟨32,l[k].fg,l[k].bg,0⟩
    have hv':=hv
    rw[Value.slice.injEq] at hv'
    obtain⟨hv1,-,-⟩:=hv'
    cases hv1
    have hput':Ax w2.heap[w.heap.size]? (k*4) [.int .i32 32,.int .u8 l[k].fg.toNat,.int .u8 l[k].bg.toNat,.int .u8 0]=some x':=hput
    simp -dsimp (disch:=first|omega|(simp only[go_sem,seval];try omega))only[go_sem,seval,h5,h6,hput']
    refine hn (k+1,out.set k ⟨32,l[k].fg,l[k].bg,0⟩) _ ⟨(hc2'.set w.heap.size x' (.inr (Nat.le_refl _))).drew,ho3.chg0 (Chg.refl _ _).drew,by dsimp only;omega,?_,?_,by simpa using hlen⟩ (by dsimp only;omega)
    ·dsimp only
     rw[he,hst,List.take_add_one,List.take_set_of_le (Nat.le_refl _),List.getElem?_set_self hko]
     simp at h8
     simp [Cel.fix,h8]
    ·dsimp only
     rw[List.drop_set_of_lt (by omega)]
     have:=congrArg (List.drop 1) hd
     simpa [List.drop_drop] using this
   ·simp -dsimp (disch:=first|omega|(simp only[go_sem,seval];try omega))only[go_sem,seval]
    refine hn (k+1,out) _ ⟨hc2',ho2,by dsimp only;omega,?_,?_,hlen⟩ (by dsimp only;omega)
    ·dsimp only
     rw[he,hst,List.take_add_one,hout]
     simp at h8
     simp [Cel.fix,h8]
    ·have:=congrArg (List.drop 1) hd
     simpa [List.drop_drop] using this
 ·have hk':k=l.length:=by omega
  subst hk'
  refine hK _ _ ⟨?_,hc⟩
  rw[he]
  simpa [AK,List.take_of_length_le (Nat.le_of_eq hlen)] using ho
structure Rw where
 a:Option Addr
 cap:Nat
 cs:List Cel
def Rw.f (r:Rw):List Value:=[.slice r.a r.cs.length r.cap]
def Rw.val (r:Rw):Value:=.slice r.a r.cs.length r.cap
theorem Rw.len (r:Rw):r.f.length=1:=rfl
theorem Rw.ok (r:Rw):AO r.f=true:=rfl
structure Hs where
 room:Nat
 first:Nat
 a:Option Addr
 cap:Nat
 all:List Rw
def Hs.v (H:Hs):Value:=.slice H.a H.all.length H.cap
def rot {α:Type} (n:Nat) (l:List α):List α:=l.drop n++l.take n
def Hs.list (H:Hs):List (List Cel):=(rot H.first H.all).map Rw.cs
def Hs.blk (H:Hs):List Nat:=H.v.ownBlock.toList
structure HAt (w:World) (h:Nat) (H:Hs):Prop where
 hb:w.heap[h]?=some (.cells #[.int .i64 H.room,.int .i64 H.first,H.v] 262)
 own:Ox 0 w 36 1 Rw.f H.v H.all
 rows:∀r∈H.all,SxC w (some 43) r.a r.cs
 room1:H.room≤500
 fit:H.all.length≤H.room
 first1:H.first=0∨H.first<H.room
 first0:H.all.length<H.room→H.first=0
theorem Sg {α:Type} (n:Nat) (l:List α):(rot n l).length=l.length:=by
 unfold rot;simp;omega
theorem Hs.list_len (H:Hs):H.list.length=H.all.length:=by simp [Hs.list,Sg]
theorem aC {α:Type} {n:Nat} {l:List α} (hn:n<l.length) (i:Nat) (hi:i<l.length):(rot n l)[i]?=l[(n+i) % l.length]?:=by
 unfold rot
 by_cases h:n+i<l.length
 ·rw[Nat.mod_eq_of_lt h,List.getElem?_append_left (by simp;omega),List.getElem?_drop]
 ·rw[List.getElem?_append_right (by simp;omega),List.getElem?_take,if_pos (by simp;omega)]
  congr 1
  simp
  rw[Nat.mod_eq_sub_mod (by omega),Nat.mod_eq_of_lt (by omega)]
  omega
theorem Vk {α:Type} {n:Nat} {l:List α} (hn:n<l.length) (x:α):rot ((n+1) % l.length) (l.set n x)=(rot n l).tail++[x]:=by
 have hd:l.drop n=l[n]::l.drop (n+1):=List.drop_eq_getElem_cons hn
 have ht:(rot n l).tail=l.drop (n+1)++l.take n:=by unfold rot;rw[hd];rfl
 rw[ht]
 unfold rot
 by_cases h:n+1<l.length
 ·rw[Nat.mod_eq_of_lt h,List.drop_set_of_lt (by omega),List.take_add_one,List.take_set_of_le (Nat.le_refl _),List.getElem?_set_self hn]
  simp
 ·have:n+1=l.length:=by omega
  rw[this,Nat.mod_self,List.drop_eq_nil_of_le (Nat.le_refl _)]
  simp only[List.drop_zero,List.take_zero,List.append_nil,List.nil_append]
  have e:l=l.take n++[l[n]]:=by
   have:=List.take_append_drop n l
   rw[hd,List.drop_eq_nil_of_le (by omega:l.length≤n+1)] at this
   exact this.symm
  conv=>lhs;rw[e]
  rw[List.set_append_right _ _ (by simp;omega)]
  have h0:n-(l.take n).length=0:=by simp;omega
  rw[h0];simp
def C9 (room:Nat) (l:List (List Cel)) (x:List Cel):List (List Cel):=if room=0 then l else if l.length<room then l++[x] else l.tail++[x]
theorem HAt.tags {w:World} {h:Nat} {H:Hs} (hh:HAt w h H):∀x∈h::H.blk,∃c e' fr,w.heap[x]?=some (.cells c e' fr)∧Nat.beq e' 43=false:=by
 intro x hx
 rcases List.mem_cons.1 hx with rfl|hx
 ·exact⟨_,_,_,hh.hb,rfl⟩
 ·obtain⟨hl,ho⟩:=hh.own
  rcases ho with ⟨hv,-⟩|⟨g,cap,cur,hv,-,hg,-⟩
  ·rw[Hs.blk,hv] at hx;simp [Value.ownBlock] at hx
  ·rw[Hs.blk,hv] at hx;simp [Value.ownBlock] at hx
   subst hx
   exact⟨_,_,_,hg,rfl⟩
theorem HAt.blk_lt {w:World} {h:Nat} {H:Hs} (hh:HAt w h H):∀x∈h::H.blk,x<w.heap.size:=by
 intro x hx
 obtain⟨c,e,fr,h1,-⟩:=hh.tags x hx
 exact Aa h1
theorem HAt.keeps {w w':World} {h:Nat} {H:Hs} (hh:HAt w h H) (hc:Chg (h::H.blk) w w') {a:Option Addr} {l:List Cel} (hs:SxC w (some 43) a l):SxC w' (some 43) a l:=by
 refine hs.chg hc fun b o ha hl hm=>?_
 obtain⟨c,e,fr,h1,h2⟩:=hh.tags b hm
 exact hs.ne ha hl h1 h2 rfl
theorem HAt.ne {w:World} {h:Nat} {H:Hs} (hh:HAt w h H):h∉H.blk:=by
 intro hx
 obtain⟨hl,ho⟩:=hh.own
 rcases ho with ⟨hv,-⟩|⟨g,cap,cur,hv,-,hg,-⟩
 ·rw[Hs.blk,hv] at hx;simp [Value.ownBlock] at hx
 ·rw[Hs.blk,hv] at hx;simp [Value.ownBlock] at hx
  subst hx
  rw[hh.hb] at hg
  simp at hg
theorem HAt.chg {w w':World} {h:Nat} {H:Hs} {F:List Nat} (hh:HAt w h H) (hc:Chg F w w') (hF:∀x∈h::H.blk,x∉F) (hr:∀r∈H.all,∀b o,r.a=some ⟨b,o,none⟩→r.cs≠[]→b∉F):HAt w' h H :=
 ⟨hc.keep hh.hb (hF h (by simp)),hh.own.chg hc fun b hb=>hF b (by simp [Hs.blk,←hb]),fun r hr'=>(hh.rows r hr').chg hc (hr r hr'),hh.room1,hh.fit,hh.first1,hh.first0⟩
theorem HAt.chg0 {w w':World} {h:Nat} {H:Hs} (hh:HAt w h H) (hc:Chg [] w w'):HAt w' h H:=hh.chg hc (by simp) (by simp)
theorem Vr (w:World) (room:Int):Calls Tryz.prog 170 #[.int .i64 room] w (Ac fun v w'=>∃H,v=.pointer (some ⟨w.heap.size,0,none⟩)∧HAt w' w.heap.size H∧H.blk=[]∧H.list=[]∧H.room=(min (max room 0) 500).toNat∧Chg [] w w'):=by
 apply Vf
 intro K hK
 unfold J6
 simp -dsimp (disch:=first|omega|(simp only[go_sem,seval];try omega))only[go_sem,seval]
 refine hK _ _ ⟨⟨(min (max room 0) 500).toNat,0,none,0,[]⟩,rfl,⟨?_,Ox.nil _ _ _ _ _,by simp,by dsimp only;omega,by simp,.inl rfl,fun _=>rfl⟩,rfl,rfl,rfl,?_⟩
 ·have:(((min (max room 0) 500).toNat:Nat):Int)=min (max room 0) 500:=by omega
  simp -dsimp (disch:=first|omega|(simp only[go_sem,seval];try omega))only[go_sem,seval,this]
  rfl
 ·exact(Chg.refl [] w).alloc _
theorem aA {w:World} {h:Nat} {H:Hs} (hh:HAt w h H):Calls Tryz.prog 232 #[.pointer (some ⟨h,0,none⟩)] w (Ac fun v w'=>v=.int .i64 H.list.length∧w'=w):=by
 have hb:=hh.hb
 apply Xq
 intro K hK
 unfold NF
 simp -dsimp (disch:=first|omega|(simp only[go_sem,seval];try omega))only[go_sem,seval,hb,Hs.v]
 exact hK _ _ ⟨by rw[H.list_len],rfl⟩
theorem JF {w:World} {h:Nat} {H:Hs} (hh:HAt w h H):Calls Tryz.prog 185 #[.pointer (some ⟨h,0,none⟩)] w (Ac fun v w'=>v=.int .i64 H.list.length∧w'=w):=by
 apply Uk
 intro K hK
 unfold Kh
 simp -dsimp (disch:=first|omega|(simp only[go_sem,seval];try omega))only[go_sem,seval]
 refine OpX.call UJ rfl (Calls.ret (aA hh) ?_)
 rintro v w1 ⟨rfl,rfl⟩
 exact hK _ _ ⟨rfl,rfl⟩
theorem O0 (a b:Nat) (x:Int) (hx:x=a):x.tmod b=((a % b:Nat):Int):=by subst hx;rfl
theorem Tc {w:World} {h:Nat} {H:Hs} (hh:HAt w h H) (i:Nat) (hi:i<H.list.length):Calls Tryz.prog 192 #[.pointer (some ⟨h,0,none⟩),.int .i64 i] w
  (Ac fun v w'=>∃r:Rw,v=.tuple #[r.val,.bool true]∧H.list[i]?=some r.cs∧SxC w' (some 43) r.a r.cs∧r∈H.all∧Chg [] w w'):=by
 have hb:=hh.hb
 rw[H.list_len] at hi
 have hfit:=hh.fit
 have hroom:=hh.room1
 have hf:H.first<H.all.length:=by
  rcases hh.first1 with h1|h1
  ·omega
  ·by_cases hl:H.all.length<H.room
   ·have:=hh.first0 hl;omega
   ·omega
 have hj:(H.first+i) % H.all.length<H.all.length:=Nat.mod_lt _ (by omega)
 obtain⟨a,cap,hv,-,hsx,-⟩:=hh.own.form
 obtain⟨b,o,ha,hb2,hcell⟩:=hsx.get1 (g:=Rw.val) (fun _=>rfl) (List.getElem?_eq_getElem hj)
 have hv2:H.v=.slice (some ⟨b,o,none⟩) H.all.length cap:=by rw[hv,ha]
 rw[hv2] at hb
 apply Q0
 intro K hK
 unfold Qe
 refine Join1.inl ?_
 simp -dsimp (disch:=first|omega|(simp only[go_sem,seval];try omega))only[go_sem,seval]
 refine BrW.dec (fun h1=>absurd h1 (by omega)) (fun h1=>?_)
 simp -dsimp (disch:=first|omega|(simp only[go_sem,seval];try omega))only[go_sem,seval,hb]
 refine BrW.dec (fun h1=>absurd h1 (by omega)) (fun h1=>?_)
 have hmod:((H.first:Int)+(i:Int)).tmod (H.all.length:Int)=(((H.first+i) % H.all.length:Nat):Int):=O0 _ _ _ (by omega)
 simp -dsimp (disch:=first|omega|(simp only[go_sem,seval];try omega))only[go_sem,seval,hb,hmod,hcell]
 refine hK _ _ ⟨H.all[(H.first+i) % H.all.length],rfl,?_,(hh.rows _ (List.getElem_mem _)).chg0 (Chg.refl _ _).drew,List.getElem_mem _,(Chg.refl _ _).drew⟩
 rw[Hs.list,List.getElem?_map,aC hf i hi,List.getElem?_eq_getElem hj]
 rfl
theorem X0 {w:World} {h:Nat} {H:Hs} (hh:HAt w h H) (r:Rw) (hr:SxC w (some 43) r.a r.cs):Calls Tryz.prog 184 #[.pointer (some ⟨h,0,none⟩),r.val] w
  (Ac fun v w'=>∃H',HAt w' h H'∧H'.room=H.room∧H'.list=C9 H.room H.list r.cs∧Chg (h::H.blk) w w'∧(∀b∈H'.blk,b∈H.blk∨w.heap.size≤b)∧∀x∈H'.all,x∈H.all∨x=r):=by
 have hb:=hh.hb
 have hlt:=Aa hb
 have hfit:=hh.fit
 have hroom:=hh.room1
 have hne:=hh.ne
 apply QL
 intro K hK
 unfold LI
 simp -dsimp (disch:=first|omega|(simp only[go_sem,seval];try omega))only[go_sem,seval,hb]
 refine BrW.dec (fun h1=>?_) (fun h1=>?_)
 ·refine hK _ _ ⟨H,hh,rfl,?_,Chg.refl _ _,fun b hb=>.inl hb,fun x hx=>.inl hx⟩
  simp [C9,show H.room=0 by omega]
 ·simp -dsimp (disch:=first|omega|(simp only[go_sem,seval];try omega))only[go_sem,seval,hb,Hs.v]
  refine BrW.dec (fun h2=>?_) (fun h2=>?_)
  ·have hc0:=((Chg.refl [] w).drew).alloc (.cells #[r.val] 36)
   have ho0:=hh.own.chg0 hc0
   simp -dsimp (disch:=first|omega|(simp only[go_sem,seval];try omega))only[go_sem,seval,hb,Hs.v,Rw.val]
   refine Bz (f:=Rw.f) (l2:=[r]) HV Rw.len Rw.ok ho0 (e':=some 36) (Sx.built (c:=r.f) (by simp -dsimp (disch:=first|omega|(simp only[go_sem,seval];try omega))only[go_sem,seval];rfl) (by simp)) rfl (by simp;omega) (by omega) (by omega) ?_
   intro v' w' ho hc hat
   have hc2:Chg H.blk w w':=(hc0.mono (by simp)).trans hc (by intro x hx;exact .inl hx)
   have hb2:=hc2.keep hb hne
   have hlt2:=Aa hb2
   obtain⟨a',cap',hv',-,-,hblk,-⟩:=ho.form
   subst hv'
   simp -dsimp (disch:=first|omega|(simp only[go_sem,seval];try omega))only[go_sem,seval,hb2]
   have hla:(H.all++[r]).length=H.all.length+1:=by simp
   have hf0:=hh.first0 (by omega)
   generalize hw2:Ab w' h _=w2
   have hc3:Chg [h] w' w2:=by rw[←hw2];exact(Chg.refl _ _).set _ _ (by simp)
   have hc4:Chg (h::H.blk) w w2:=(hc2.mono (by simp;intro x hx;exact .inl (.inr hx))).trans hc3 (by simp)
   have hb3:w2.heap[h]?=some (.cells #[.int .i64 H.room,.int .i64 H.first,.slice a' (H.all++[r]).length cap'] 262):=by rw[←hw2];simp -dsimp (disch:=first|omega|(simp only[go_sem,seval];try omega))only[go_sem,seval]
   refine hK _ _ ⟨⟨H.room,H.first,a',cap',H.all++[r]⟩,⟨hb3,ho.chg hc3 (fun b hbb=>?_),?_,hroom,by dsimp only;omega,hh.first1,fun h=>hf0⟩,rfl,?_,hc4,?_,fun x hx=>by rcases List.mem_append.1 hx with h|h<;>simp_all⟩
   ·intro hm
    simp at hm
    subst hm
    rcases hat with h7|h7
    ·exact hne (by rw[Hs.blk,Hs.v,←h7,←hbb];simp)
    ·rw[←hbb] at h7;simp at h7;omega
   ·intro x hx
    rcases List.mem_append.1 hx with hx|hx
    ·exact hh.keeps hc4 (hh.rows x hx)
    ·simp at hx;subst hx
     exact hh.keeps hc4 hr
   ·have e1:C9 H.room H.list r.cs=H.list++[r.cs]:=by rw[C9,if_neg (by omega),if_pos (by rw[H.list_len];omega)]
    rw[e1]
    simp [Hs.list,hf0,rot]
   ·intro b hb
    simp only[Hs.blk,Hs.v] at hb
    rcases hat with h7|h7
    ·left;rw[Hs.blk,Hs.v,←h7];exact hb
    ·right;rw[h7] at hb;simp at hb;omega
  ·have hfull:H.all.length=H.room:=by omega
   have hf:H.first<H.all.length:=by have:=hh.first1;omega
   obtain⟨g,cp,x',hv,hg,hgl,hput,ho2⟩:=hh.own.put Rw.len hf r
   have hv1:H.a=some ⟨g,0,none⟩:=by have:=hv;simp [Hs.v] at this;exact this.1
   have hput':Ax w.heap[g]? H.first [.slice r.a r.cs.length r.cap]=some x':=by simpa [Rw.f] using hput
   have hgb:g∈H.blk:=by rw[Hs.blk,hv];simp [Value.ownBlock]
   have hgh:h≠g:=fun e=>hne (e ▸ hgb)
   have hmod:((H.first:Int)+1).tmod (H.room:Int)=(((H.first+1) % H.room:Nat):Int):=O0 _ _ _ (by omega)
   simp -dsimp (disch:=first|omega|(simp only[go_sem,seval];try omega))only[go_sem,seval,hb,Hs.v,hv1,Rw.val,hput',hmod]
   generalize hw2:(Ab (Ab w g x') h _).drew.drew.drew=w2
   have hc2:Chg (h::H.blk) w w2:=by rw[←hw2];exact((((Chg.refl _ _).set _ _ (by simp [hgb])).set _ _ (by simp)).drew).drew.drew
   have hc3:Chg [h] (Ab w g x') w2:=by rw[←hw2];exact(((Chg.refl _ _).set _ _ (by simp)).drew).drew.drew
   have hmlt:=Nat.mod_lt (H.first+1) (show 0<H.room by omega)
   refine hK _ _ ⟨⟨H.room,(H.first+1) % H.room,H.a,H.cap,H.all.set H.first r⟩,⟨?_,?_,?_,hroom,by simpa using hfit,.inr hmlt,fun h9=>?_⟩,rfl,?_,hc2,?_,fun x hx=>List.mem_or_eq_of_mem_set hx⟩
   ·rw[←hw2]
    simp only[G9]
    rw[Ar _ _ _ _ rfl (by rw[Dy];exact hlt),Hs.v,hv1]
    simp
   ·refine Ox.chg (w:=Ab w g x') ?_ hc3 fun b hbb=>?_
    ·have e:(⟨H.room,(H.first+1) % H.room,H.a,H.cap,H.all.set H.first r⟩:Hs).v=H.v:=by simp [Hs.v]
     rw[e];exact ho2
    ·intro hm
     simp at hm;subst hm
     apply hne
     have e:(⟨H.room,(H.first+1) % H.room,H.a,H.cap,H.all.set H.first r⟩:Hs).v=H.v:=by simp [Hs.v]
     rw[e] at hbb
     rw[Hs.blk,←hbb];simp
   ·intro x hx
    rcases List.mem_or_eq_of_mem_set hx with hx|rfl
    ·exact hh.keeps hc2 (hh.rows x hx)
    ·exact hh.keeps hc2 hr
   ·simp at h9;omega
   ·have e1:C9 H.room H.list r.cs=H.list.tail++[r.cs]:=by rw[C9,if_neg (by omega),if_neg (by rw[H.list_len];omega)]
    rw[e1]
    have:=Vk hf r
    rw[hfull] at this
    simp only[Hs.list]
    rw[this]
    simp [List.map_tail]
   ·intro b hbb
    left
    have e:(⟨H.room,(H.first+1) % H.room,H.a,H.cap,H.all.set H.first r⟩:Hs).v=H.v:=by simp [Hs.v]
    rw[Hs.blk,e] at hbb
    exact hbb
def Ey (room:Nat) (l:List (List Cel)) (xs:List (List Cel)):List (List Cel):=xs.foldl (fun l x=>C9 room l (AK x)) l
theorem Vx {w:World} {h:Nat} {H:Hs} (hh:HAt w h H) {e:Option TypeId} {a:Option Addr} {rs:List Rw} (ha:Sx w e Rw.f a rs) (hab:∀b o,a=some ⟨b,o,none⟩→b∉h::H.blk) (hr:∀r∈rs,SxC w (some 43) r.a r.cs) (hl:∀r∈rs,r.cs.length≤100000) (hlr:rs.length≤1000000) (cap:Nat) :
  Calls Tryz.prog 124 #[.pointer (some ⟨h,0,none⟩),.slice a rs.length cap] w
  (Ac fun v w'=>∃H',HAt w' h H'∧H'.room=H.room∧H'.list=Ey H.room H.list (rs.map Rw.cs)∧Chg (h::H.blk) w w'∧(∀b∈H'.blk,b∈H.blk∨w.heap.size≤b)∧∀x∈H'.all,x∈H.all∨∀b o,x.a=some ⟨b,o,none⟩→x.cs≠[]→w.heap.size≤b):=by
 apply WU
 intro K hK
 unfold MC
 simp -dsimp (disch:=first|omega|(simp only[go_sem,seval];try omega))only[go_sem,seval]
 refine Loop1.st (fun s:Nat × Hs=>.int .i64 s.1) (fun s w'=>s.1≤rs.length∧HAt w' h s.2∧s.2.room=H.room∧s.2.list=Ey H.room H.list ((rs.take s.1).map Rw.cs)∧Chg (h::H.blk) w w'∧(∀b∈s.2.blk,b∈H.blk∨w.heap.size≤b)∧∀x∈s.2.all,x∈H.all∨∀b o,x.a=some ⟨b,o,none⟩→x.cs≠[]→w.heap.size≤b) (fun s=>rs.length-s.1) (0,H) rfl ⟨by simp,hh,rfl,rfl,Chg.refl _ _,fun b hb=>.inl hb,fun x hx=>.inl hx⟩ ?_
 rintro next ⟨k,G⟩ w' hn ⟨hk,hG,hroom,hlist,hc,hblk,hall⟩
 dsimp only at hk hG hroom hlist hblk hall ⊢
 simp -dsimp (disch:=first|omega|(simp only[go_sem,seval];try omega))only[go_sem,seval]
 refine BrW.dec (fun h1=>?_) (fun h1=>?_)
 ·have hk':k<rs.length:=by omega
  have hgl:=hh.blk_lt
  have ha':Sx w' e Rw.f a rs:=ha.chg hc fun b o hb _=>hab b o hb
  obtain⟨b,o,rfl,hb,hcell⟩:=ha'.get1 (g:=Rw.val) (fun _=>rfl) (List.getElem?_eq_getElem hk')
  have hrk:SxC w' (some 43) rs[k].a rs[k].cs:=hh.keeps hc (hr _ (List.getElem_mem _))
  simp -dsimp (disch:=first|omega|(simp only[go_sem,seval];try omega))only[go_sem,seval,hcell,Rw.val]
  refine OpX.call HO rfl (Calls.ret (Im (hrk.chg0 (Chg.refl _ _).drew) rs[k].cap (hl _ (List.getElem_mem _))) ?_)
  rintro v w1 ⟨ho,hc1⟩
  have hc1':Chg [] w' w1:=(Chg.refl _ _).drew.trans0 hc1
  obtain⟨a1,cap1,rfl,hcp,hs1,-,hnew⟩:=ho.form
  have hc2:Chg (h::H.blk) w w1:=hc.trans0 hc1'
  refine OpX.call RA rfl (Calls.ret (X0 (hG.chg0 hc1') ⟨a1,cap1,AK rs[k].cs⟩ hs1) ?_)
  rintro v w2 ⟨G',hG',hroom',hlist',hc3,hblk',hall'⟩
  simp -dsimp (disch:=first|omega|(simp only[go_sem,seval];try omega))only[go_sem,seval]
  refine hn (k+1,G') _ ⟨by dsimp only;omega,hG',hroom'.trans hroom,?_,?_,?_,?_⟩ (by dsimp only;omega)
  ·dsimp only
   rw[hlist',hlist,hroom,List.take_add_one,List.getElem?_eq_getElem hk']
   simp only[Option.toList,List.map_append,List.map_cons,List.map_nil,Ey,List.foldl_append,List.foldl_cons,List.foldl_nil]
  ·refine hc2.trans hc3 fun x hx=>?_
   rcases List.mem_cons.1 hx with rfl|hx
   ·exact .inl (by simp)
   ·rcases hblk x hx with h7|h7
    ·exact .inl (by simp [h7])
    ·exact .inr h7
  ·intro b hb
   dsimp only at hb
   rcases hblk' b hb with h7|h7
   ·exact hblk b h7
   ·right;have:=hc2.size;omega
  ·intro x hx
   rcases hall' x hx with h7|rfl
   ·exact hall x h7
   ·right
    intro b o hb hne
    obtain⟨g,hg,hge,-⟩:=hnew hne
    dsimp only at hb
    rw[hg] at hb
    cases hb
    have h8:w'.heap.size≤b:=hge
    have:=hc.size
    omega
 ·have hk':k=rs.length:=by omega
  subst hk'
  rw[List.take_length] at hlist
  exact hK _ _ ⟨G,hG,hroom,hlist,hc,hblk,hall⟩
def Ob (p0 p1:Value) (K:Value→World→Prop):World→Prop :=
 xA 38 fun t4 =>
 xC 66 [.const p0,.const p1] [3,3] 4 fun t7 =>
 xN 4 t7 fun t8 =>
 xW t8
 (OpX Tryz.prog (.build 38 #[]) 38 fun t9 =>
 xS 38 t4 t9 <|
 xD 38 t4 fun t4_1 =>
 K t4_1) <|
 xC 33 [] [] 43 fun t12 =>
 xC 67 [.const p0,.const p1,.const t12] [3,3,43] 38 fun t13 =>
 xS 38 t4 t13 <|
 xD 38 t4 fun t4_2 =>
 K t4_2
theorem ZO (p0 p1:Value):Lk 30 #[p0,p1] (Ob p0 p1):=lk [p0,p1] [] Tryz.func30
theorem El:Ad Tryz.prog 30:=bd Tryz.func30
def OF (p0 p1 p2 p3:Value) (K:Value→World→Prop):World→Prop :=
 xB 38 p0 fun t4 =>
 xB 38 p1 fun t5 =>
 xB 3 p2 fun t6 =>
 xB 3 p3 fun t7 =>
 xA 38 fun t8 =>
 Join1 (fun k1 =>
 xL 38 t4 fun t13 =>
 xC 68 [.const t13] [38] 4 fun t14 =>
 xN 4 t14 fun t15 =>
 xW t15
 (k1 (.bool true)) <|
 xL 38 t5 fun t17 =>
 xC 68 [.const t17] [38] 4 fun t18 =>
 xN 4 t18 fun t19 =>
 k1 t19) fun t20 =>
 xW t20
 (xL 38 t4 fun t21 =>
 xS 38 t8 t21 <|
 xD 38 t8 fun t8_1 =>
 K t8_1) <|
 xL 3 t7 fun t23 =>
 xF 38 t5 1 fun t24 =>
 xL 3 t24 fun t25 =>
 xF 38 t4 1 fun t26 =>
 xL 3 t26 fun t27 =>
 xC 69 [.const t23,.const t25,.const t27] [3,3,3] 26 fun t28 =>
 xE t28 0 3 fun t29 =>
 xE t28 1 3 fun t30 =>
 xL 3 t6 fun t32 =>
 xF 38 t5 0 fun t33 =>
 xL 3 t33 fun t34 =>
 xF 38 t4 0 fun t35 =>
 xL 3 t35 fun t36 =>
 xC 69 [.const t32,.const t34,.const t36] [3,3,3] 26 fun t37 =>
 xE t37 0 3 fun t38 =>
 xE t37 1 3 fun t39 =>
 xA 3 fun t11 =>
 xA 3 fun t12 =>
 xS 3 t11 t38 <|
 xS 3 t12 t39 <|
 xL 38 t4 fun t40 =>
 OpX Tryz.prog (.makeFunc (.func 71) #[] #[.const t11,.const t12,.const t5,.const t6,.const t7]) 151 fun t43 =>
 xC 70 [.const t40,.const t29,.const t30,.const t43] [38,3,3,151] 38 fun t44 =>
 xS 38 t8 t44 <|
 xD 38 t8 fun t8_2 =>
 K t8_2
theorem Rq (p0 p1 p2 p3:Value):Lk 31 #[p0,p1,p2,p3] (OF p0 p1 p2 p3):=lk [p0,p1,p2,p3] [(4,[20])] Tryz.func31
theorem TQ:Ad Tryz.prog 31:=bd Tryz.func31
def LK (p0 p1 p2:Value) (K:Value→World→Prop):World→Prop :=
 xB 38 p0 fun t3 =>
 xB 49 p1 fun t4 =>
 xB 43 p2 fun t5 =>
 xA 38 fun t6 =>
 Join1 (fun k1 =>
 xL 38 t3 fun t11 =>
 xC 68 [.const t11] [38] 4 fun t12 =>
 xN 4 t12 fun t13 =>
 xW t13
 (k1 (.bool true)) <|
 xL 43 t5 fun t15 =>
 xC 74 [.const t15] [43] 4 fun t16 =>
 xN 4 t16 fun t17 =>
 k1 t17) fun t18 =>
 xW t18
 (xL 38 t3 fun t19 =>
 xS 38 t6 t19 <|
 xD 38 t6 fun t6_1 =>
 K t6_1) <|
 xF 49 t4 1 fun t21 =>
 xL 3 t21 fun t22 =>
 xF 49 t4 3 fun t23 =>
 xL 3 t23 fun t24 =>
 xF 38 t3 1 fun t25 =>
 xL 3 t25 fun t26 =>
 xC 69 [.const t22,.const t24,.const t26] [3,3,3] 26 fun t27 =>
 xE t27 0 3 fun t28 =>
 xE t27 1 3 fun t29 =>
 xF 49 t4 0 fun t31 =>
 xL 3 t31 fun t32 =>
 xF 49 t4 2 fun t33 =>
 xL 3 t33 fun t34 =>
 xF 38 t3 0 fun t35 =>
 xL 3 t35 fun t36 =>
 xC 69 [.const t32,.const t34,.const t36] [3,3,3] 26 fun t37 =>
 xE t37 0 3 fun t38 =>
 xE t37 1 3 fun t39 =>
 xA 3 fun t9 =>
 xA 3 fun t10 =>
 xS 3 t9 t38 <|
 xS 3 t10 t39 <|
 xL 38 t3 fun t40 =>
 OpX Tryz.prog (.makeFunc (.func 75) #[] #[.const t9,.const t10,.const t5]) 151 fun t43 =>
 xC 70 [.const t40,.const t28,.const t29,.const t43] [38,3,3,151] 38 fun t44 =>
 xS 38 t6 t44 <|
 xD 38 t6 fun t6_2 =>
 K t6_2
theorem SG (p0 p1 p2:Value):Lk 34 #[p0,p1,p2] (LK p0 p1 p2):=lk [p0,p1,p2] [(4,[18])] Tryz.func34
theorem Ho:Ad Tryz.prog 34:=bd Tryz.func34
def LF (p0 p1 p2 p3:Value) (K:Value→World→Prop):World→Prop :=
 xB 38 p0 fun t4 =>
 xB 3 p1 fun t5 =>
 xB 36 p3 fun t7 =>
 xA 38 fun t8 =>
 xL 38 t4 fun t13 =>
 xC 68 [.const t13] [38] 4 fun t14 =>
 xN 4 t14 fun t15 =>
 xW t15
 (xL 38 t4 fun t16 =>
 xS 38 t8 t16 <|
 xD 38 t8 fun t8_1 =>
 K t8_1) <|
 xF 38 t4 1 fun t19 =>
 xL 3 t19 fun t20 =>
 xC 69 [.const p2,.const (.int .i64 1),.const t20] [3,3,3] 26 fun t21 =>
 xE t21 0 3 fun t22 =>
 xE t21 1 3 fun t23 =>
 xL 3 t5 fun t25 =>
 xL 36 t7 fun t26 =>
 xU t26 36 fun t27 =>
 xF 38 t4 0 fun t28 =>
 xL 3 t28 fun t29 =>
 xC 69 [.const t25,.const t27,.const t29] [3,3,3] 26 fun t30 =>
 xE t30 0 3 fun t31 =>
 xE t30 1 3 fun t32 =>
 xA 3 fun t11 =>
 xA 3 fun t12 =>
 xS 3 t11 t31 <|
 xS 3 t12 t32 <|
 xL 38 t4 fun t33 =>
 OpX Tryz.prog (.makeFunc (.func 77) #[] #[.const t11,.const t12,.const t7,.const t5]) 151 fun t36 =>
 xC 70 [.const t33,.const t22,.const t23,.const t36] [38,3,3,151] 38 fun t37 =>
 xS 38 t8 t37 <|
 xD 38 t8 fun t8_2 =>
 K t8_2
theorem Um (p0 p1 p2 p3:Value):Lk 35 #[p0,p1,p2,p3] (LF p0 p1 p2 p3):=lk [p0,p1,p2,p3] [] Tryz.func35
theorem KJ:Ad Tryz.prog 35:=bd Tryz.func35
def LU (p0 p1:Value) (K:Value→World→Prop):World→Prop :=
 Join1 (fun k1 =>
 xO .geq 3 p0 (.int .i64 1) fun t6 =>
 xW t6
 (xO .leq 3 p0 (.int .i64 200) fun t9 =>
 xW t9
 (xO .geq 3 p1 (.int .i64 1) fun t13 =>
 xW t13
 (xO .leq 3 p1 (.int .i64 60) fun t17 =>
 k1 t17) <|
 k1 (.bool false)) <|
 k1 (.bool false)) <|
 k1 (.bool false)) fun t4 =>
 K t4
theorem XW (p0 p1:Value):Lk 66 #[p0,p1] (LU p0 p1):=lk [p0,p1] [(3,[4])] Tryz.func66
theorem I7:Ad Tryz.prog 66:=bd Tryz.func66
def OG (p0 p1 p2:Value) (K:Value→World→Prop):World→Prop :=
 xB 43 p2 fun t5 =>
 xA 38 fun t6 =>
 xL 43 t5 fun t9 =>
 OpX Tryz.prog (.buildSlice 36 1 #[(0,.const t9)]) 36 fun t10 =>
 xO .mul 3 p0 p1 fun t13 =>
 xC 128 [.const t10,.const t13] [36,3] 36 fun t14 =>
 OpX Tryz.prog (.build 38 #[(0,.const p0),(1,.const p1),(2,.const t14)]) 38 fun t15 =>
 xS 38 t6 t15 <|
 xD 38 t6 fun t6_1 =>
 K t6_1
theorem Ys (p0 p1 p2:Value):Lk 67 #[p0,p1,p2] (OG p0 p1 p2):=lk [p0,p1,p2] [] Tryz.func67
theorem HT:Ad Tryz.prog 67:=bd Tryz.func67
def NQ (p0:Value) (K:Value→World→Prop):World→Prop :=
 xB 38 p0 fun t1 =>
 xA 4 fun t2 =>
 Join1 (fun k1 =>
 xF 38 t1 0 fun t5 =>
 xL 3 t5 fun t6 =>
 xF 38 t1 1 fun t7 =>
 xL 3 t7 fun t8 =>
 xC 66 [.const t6,.const t8] [3,3] 4 fun t9 =>
 xN 4 t9 fun t10 =>
 xW t10
 (k1 (.bool true)) <|
 xF 38 t1 2 fun t12 =>
 xL 36 t12 fun t13 =>
 xU t13 36 fun t14 =>
 xF 38 t1 0 fun t15 =>
 xL 3 t15 fun t16 =>
 xF 38 t1 1 fun t17 =>
 xL 3 t17 fun t18 =>
 xO .mul 3 t16 t18 fun t19 =>
 xO .neq 3 t14 t19 fun t20 =>
 k1 t20) fun t21 =>
 xW t21
 (xS 4 t2 (.bool false) <|
 xD 4 t2 fun t2_1 =>
 K t2_1) <|
 xL 38 t1 fun t22 =>
 xF 38 t1 1 fun t23 =>
 xL 3 t23 fun t24 =>
 xC 129 [.const t22,.const (.int .i64 0),.const t24] [38,3,3] 227 fun t25 =>
 RngX Tryz.prog t25 2 (fun vs2 bg2 kn2 kr2 _ =>
 bg2 <|
 xC 130 [.const (Bt vs2 1)] [36] 4 fun t29 =>
 xN 4 t29 fun t30 =>
 xW t30
 (xS 4 t2 (.bool false) <|
 kr2) <|
 kn2)
 (fun r2 =>
 xS 4 t2 (.bool true) <|
 BL (B8 r2 (.tuple #[])) <|
 xD 4 t2 fun t2_2 =>
 K t2_2)
 (fun r2 =>
 BL (B8 r2 (.tuple #[])) <|
 xD 4 t2 fun t2_3 =>
 K t2_3)
 []
theorem Wr (p0:Value):Lk 68 #[p0] (NQ p0):=lk [p0] [(4,[21])] Tryz.func68
theorem CI:Ad Tryz.prog 68:=bd Tryz.func68
def OM (p0 p1 p2:Value) (K:Value→World→Prop):World→Prop :=
 Join1 (fun k1 =>
 xO .leq 3 p1 (.int .i64 0) fun t9 =>
 xW t9
 (k1 (.bool true)) <|
 xO .geq 3 p0 p2 fun t13 =>
 xW t13
 (k1 (.bool true)) <|
 xO .lss 3 p0 (.int .i64 0) fun t17 =>
 xW t17
 (xO .add 3 p0 p1 fun t21 =>
 xO .leq 3 t21 (.int .i64 0) fun t22 =>
 k1 t22) <|
 k1 (.bool false)) fun t24 =>
 xW t24
 (K (.tuple #[(.int .i64 0),(.int .i64 0)])) <|
 xO .lss 3 p0 (.int .i64 0) fun t26 =>
 xW t26
 (xO .add 3 p0 p1 fun t29 =>
 OpX Tryz.prog (.call { callee:=.builtin .min,args:=#[.const t29,.const p2],argTypes:=#[3,3] }) 3 fun t31 =>
 K (.tuple #[(.int .i64 0),t31])) <|
 xO .sub 3 p2 p0 fun t37 =>
 OpX Tryz.prog (.call { callee:=.builtin .min,args:=#[.const p1,.const t37],argTypes:=#[3,3] }) 3 fun t38 =>
 xO .add 3 p0 t38 fun t39 =>
 K (.tuple #[p0,t39])
theorem XI (p0 p1 p2:Value):Lk 69 #[p0,p1,p2] (OM p0 p1 p2):=lk [p0,p1,p2] [(4,[24])] Tryz.func69
theorem DY:Ad Tryz.prog 69:=bd Tryz.func69
def N7 (p0 p1 p2 p3:Value) (K:Value→World→Prop):World→Prop :=
 xB 38 p0 fun t4 =>
 xB 151 p3 fun t7 =>
 xA 38 fun t8 =>
 xF 38 t4 2 fun t11 =>
 xL 36 t11 fun t12 =>
 xC 131 [.const t12] [36] 36 fun t13 =>
 xF 38 t4 2 fun t14 =>
 xS 36 t14 t13 <|
 xL 38 t4 fun t15 =>
 xC 129 [.const t15,.const p1,.const p2] [38,3,3] 227 fun t18 =>
 RngX Tryz.prog t18 2 (fun vs1 bg1 kn1 _ _ =>
 bg1 <|
 xL 151 t7 fun t21 =>
 OpX Tryz.prog (.call { callee:=.value (.const t21),args:=#[.const (Bt vs1 0),.const (Bt vs1 1)],argTypes:=#[3,36] }) 0 fun _ =>
 xC 132 [.const (Bt vs1 1)] [36] 36 fun t27 =>
 OpX Tryz.prog (.call { callee:=.builtin .copy,args:=#[.const (Bt vs1 1),.const t27],argTypes:=#[36,36] }) 3 fun _ =>
 kn1)
 (fun r1 =>
 xL 38 t4 fun t29 =>
 xS 38 t8 t29 <|
 BL (B8 r1 (.tuple #[])) <|
 xD 38 t8 fun t8_1 =>
 K t8_1)
 (fun _ _=>False)
 []
theorem WO (p0 p1 p2 p3:Value):Lk 70 #[p0,p1,p2,p3] (N7 p0 p1 p2 p3):=lk [p0,p1,p2,p3] [] Tryz.func70
theorem DO:Ad Tryz.prog 70:=bd Tryz.func70
def NB (p0 p1 p2 p3 p4 p5 p6:Value) (K:Value→World→Prop):World→Prop :=
 xL 3 p2 fun t10 =>
 Loop1 t10 fun t9 next1 =>
 xL 3 p3 fun t12 =>
 xO .lss 3 t9 t12 fun t13 =>
 xW t13
 (xL 38 p4 fun t18 =>
 xL 3 p5 fun t20 =>
 xO .sub 3 t9 t20 fun t21 =>
 xL 3 p6 fun t23 =>
 xO .sub 3 p0 t23 fun t24 =>
 xC 72 [.const t18,.const t21,.const t24] [38,3,3] 43 fun t25 =>
 xI 36 p1 t9 fun t26 =>
 xS 43 t26 t25 <|
 xO .add 3 t9 (.int .i64 1) fun t15 =>
 next1 t15) <|
 K (.tuple #[])
theorem RQ (p0 p1 p2 p3 p4 p5 p6:Value):Lk 71 #[p0,p1,p2,p3,p4,p5,p6] (NB p0 p1 p2 p3 p4 p5 p6):=lk [p0,p1,p2,p3,p4,p5,p6] [(3,[9])] Tryz.func71
theorem Uy:Ad Tryz.prog 71:=bd Tryz.func71
def Lb (p0 p1 p2:Value) (K:Value→World→Prop):World→Prop :=
 xB 38 p0 fun t3 =>
 xA 43 fun t6 =>
 Join1 (fun k1 =>
 xL 38 t3 fun t7 =>
 xC 133 [.const t7] [38] 4 fun t8 =>
 xN 4 t8 fun t9 =>
 xW t9
 (k1 (.bool true)) <|
 xO .lss 3 p2 (.int .i64 0) fun t12 =>
 xW t12
 (k1 (.bool true)) <|
 xF 38 t3 1 fun t16 =>
 xL 3 t16 fun t17 =>
 xO .geq 3 p2 t17 fun t18 =>
 xW t18
 (k1 (.bool true)) <|
 xO .lss 3 p1 (.int .i64 0) fun t22 =>
 xW t22
 (k1 (.bool true)) <|
 xF 38 t3 0 fun t26 =>
 xL 3 t26 fun t27 =>
 xO .geq 3 p1 t27 fun t28 =>
 k1 t28) fun t29 =>
 xW t29
 (OpX Tryz.prog (.build 43 #[]) 43 fun t30 =>
 xS 43 t6 t30 <|
 xD 43 t6 fun t6_1 =>
 K t6_1) <|
 xF 38 t3 2 fun t31 =>
 xL 36 t31 fun t32 =>
 xF 38 t3 0 fun t34 =>
 xL 3 t34 fun t35 =>
 xO .mul 3 p2 t35 fun t36 =>
 xO .add 3 t36 p1 fun t38 =>
 xI 36 t32 t38 fun t39 =>
 xL 43 t39 fun t40 =>
 xS 43 t6 t40 <|
 xD 43 t6 fun t6_2 =>
 K t6_2
theorem TA (p0 p1 p2:Value):Lk 72 #[p0,p1,p2] (Lb p0 p1 p2):=lk [p0,p1,p2] [(4,[29])] Tryz.func72
theorem Ue:Ad Tryz.prog 72:=bd Tryz.func72
def P3 (p0:Value) (K:Value→World→Prop):World→Prop :=
 xB 43 p0 fun t1 =>
 Join1 (fun k1 =>
 xL 43 t1 fun t3 =>
 xC 136 [.const t3] [43] 4 fun t4 =>
 xW t4
 (xF 43 t1 3 fun t6 =>
 xL 5 t6 fun t7 =>
 xO .and 5 t7 (.int .u8 192) fun t8 =>
 xO .eql 5 t8 (.int .u8 0) fun t9 =>
 k1 t9) <|
 k1 (.bool false)) fun t2 =>
 K t2
theorem Sz (p0:Value):Lk 74 #[p0] (P3 p0):=lk [p0] [(3,[2])] Tryz.func74
theorem GU:Ad Tryz.prog 74:=bd Tryz.func74
def Of (p0 p1 p2 p3 p4:Value) (K:Value→World→Prop):World→Prop :=
 Ai <|
 qL 3 p2 fun t8 =>
 qL 3 p3 fun t9 =>
 xP (.slice 36 (.const p1) (some (.const t8)) (some (.const t9)) none) 36 fun t10 =>
 qL 43 p4 fun t11 =>
 xC 76 [.const t10,.const t11] [36,43] 0 fun _ =>
 K (.tuple #[])
theorem Sv (p0 p1 p2 p3 p4:Value):Lk 75 #[p0,p1,p2,p3,p4] (Of p0 p1 p2 p3 p4):=lk [p0,p1,p2,p3,p4] [] Tryz.func75
theorem Rh:Ad Tryz.prog 75:=bd Tryz.func75
def HN (p0 p1:Value) (K:Value→World→Prop):World→Prop :=
 xB 43 p1 fun t3 =>
 xU p0 36 fun t6 =>
 Loop1 (.int .i64 0) fun t7 next1 =>
 xO .lss 3 t7 t6 fun t8 =>
 xW t8
 (xL 43 t3 fun t12 =>
 xI 36 p0 t7 fun t13 =>
 xS 43 t13 t12 <|
 xO .add 3 t7 (.int .i64 1) fun t14 =>
 next1 t14) <|
 K (.tuple #[])
theorem MZ (p0 p1:Value):Lk 76 #[p0,p1] (HN p0 p1):=lk [p0,p1] [(5,[7])] Tryz.func76
theorem HE:Ad Tryz.prog 76:=bd Tryz.func76
def KC (p0 p1 p2 p3 p4 p5:Value) (K:Value→World→Prop):World→Prop :=
 xL 3 p2 fun t9 =>
 Loop1 t9 fun t8 next1 =>
 xL 3 p3 fun t11 =>
 xO .lss 3 t8 t11 fun t12 =>
 xW t12
 (xL 36 p4 fun t17 =>
 xL 3 p5 fun t19 =>
 xO .sub 3 t8 t19 fun t20 =>
 xI 36 t17 t20 fun t21 =>
 xL 43 t21 fun t22 =>
 xI 36 p1 t8 fun t23 =>
 xS 43 t23 t22 <|
 xO .add 3 t8 (.int .i64 1) fun t14 =>
 next1 t14) <|
 K (.tuple #[])
theorem WE (p0 p1 p2 p3 p4 p5:Value):Lk 77 #[p0,p1,p2,p3,p4,p5] (KC p0 p1 p2 p3 p4 p5):=lk [p0,p1,p2,p3,p4,p5] [(3,[8])] Tryz.func77
theorem Yj:Ad Tryz.prog 77:=bd Tryz.func77
def Jz (p0 p1 p2:Value) (K:Value→World→Prop):World→Prop :=
 xB 38 p0 fun t3 =>
 xB 3 p1 fun t4 =>
 xB 3 p2 fun t5 =>
 OpX Tryz.prog (.makeFunc (.func 187) #[] #[.const t4,.const t5,.const t3]) 226 fun t7 =>
 K t7
theorem bm (p0 p1 p2:Value):Lk 129 #[p0,p1,p2] (Jz p0 p1 p2):=lk [p0,p1,p2] [] Tryz.func129
theorem LY:Ad Tryz.prog 129:=bd Tryz.func129
def Mv (p0:Value) (K:Value→World→Prop):World→Prop :=
 xB 38 p0 fun t1 =>
 Ai <|
 Join1 (fun k1 =>
 qF 38 t1 0 fun t3 =>
 qL 3 t3 fun t4 =>
 qP .geq 3 t4 (.int .i64 1) fun t5 =>
 xW t5
 (qF 38 t1 1 fun t7 =>
 qL 3 t7 fun t8 =>
 qP .geq 3 t8 (.int .i64 1) fun t9 =>
 xW t9
 (qF 38 t1 2 fun t12 =>
 qL 36 t12 fun t13 =>
 xR (.call { callee:=.builtin .len,args:=#[.const t13],argTypes:=#[36] }) 3 fun t14 =>
 qF 38 t1 0 fun t15 =>
 qL 3 t15 fun t16 =>
 qP .quo 3 t14 t16 fun t17 =>
 qF 38 t1 1 fun t18 =>
 qL 3 t18 fun t19 =>
 qP .geq 3 t17 t19 fun t20 =>
 k1 t20) <|
 k1 (.bool false)) <|
 k1 (.bool false)) fun t2 =>
 K t2
theorem RH (p0:Value):Lk 133 #[p0] (Mv p0):=lk [p0] [(3,[2])] Tryz.func133
theorem Ms:Ad Tryz.prog 133:=bd Tryz.func133
def Km (p0 p1 p2 p3:Value) (K:Value→World→Prop):World→Prop :=
 xL 3 p1 fun t6 =>
 OpX Tryz.prog (.call { callee:=.builtin .max,args:=#[.const t6,.const (.int .i64 0)],argTypes:=#[3,3] }) 3 fun t7 =>
 Loop1 t7 fun t5 next1 =>
 xL 3 p2 fun t9 =>
 xF 38 p3 1 fun t10 =>
 xL 3 t10 fun t11 =>
 OpX Tryz.prog (.call { callee:=.builtin .min,args:=#[.const t9,.const t11],argTypes:=#[3,3] }) 3 fun t12 =>
 xO .lss 3 t5 t12 fun t13 =>
 xW t13
 (xL 38 p3 fun t18 =>
 xC 188 [.const t18,.const t5] [38,3] 36 fun t20 =>
 OpX Tryz.prog (.call { callee:=.value (.const p0),args:=#[.const t5,.const t20],argTypes:=#[3,36] }) 4 fun t21 =>
 xN 4 t21 fun t22 =>
 xW t22
 (K (.tuple #[])) <|
 xO .add 3 t5 (.int .i64 1) fun t15 =>
 next1 t15) <|
 K (.tuple #[])
theorem XO (p0 p1 p2 p3:Value):Lk 187 #[p0,p1,p2,p3] (Km p0 p1 p2 p3):=lk [p0,p1,p2,p3] [(3,[5])] Tryz.func187
theorem Xe:Ad Tryz.prog 187:=bd Tryz.func187
def NP (p0 p1:Value) (K:Value→World→Prop):World→Prop :=
 xB 38 p0 fun t2 =>
 xF 38 t2 2 fun t5 =>
 xL 36 t5 fun t6 =>
 xF 38 t2 0 fun t8 =>
 xL 3 t8 fun t9 =>
 xO .mul 3 p1 t9 fun t10 =>
 xO .add 3 p1 (.int .i64 1) fun t12 =>
 xF 38 t2 0 fun t13 =>
 xL 3 t13 fun t14 =>
 xO .mul 3 t12 t14 fun t15 =>
 xO .add 3 p1 (.int .i64 1) fun t17 =>
 xF 38 t2 0 fun t18 =>
 xL 3 t18 fun t19 =>
 xO .mul 3 t17 t19 fun t20 =>
 OpX Tryz.prog (.slice 36 (.const t6) (some (.const t10)) (some (.const t15)) (some (.const t20))) 36 fun t21 =>
 K t21
theorem SF (p0 p1:Value):Lk 188 #[p0,p1] (NP p0 p1):=lk [p0,p1] [] Tryz.func188
theorem Fu:Ad Tryz.prog 188:=bd Tryz.func188
def O7 (p0 p1:Value) (K:Value→World→Prop):World→Prop :=
 xB 38 p0 fun t2 =>
 Join1 (fun k1 =>
 xL 38 t2 fun t5 =>
 xC 133 [.const t5] [38] 4 fun t6 =>
 xN 4 t6 fun t7 =>
 xW t7
 (k1 (.bool true)) <|
 xO .lss 3 p1 (.int .i64 0) fun t10 =>
 xW t10
 (k1 (.bool true)) <|
 xF 38 t2 1 fun t14 =>
 xL 3 t14 fun t15 =>
 xO .geq 3 p1 t15 fun t16 =>
 k1 t16) fun t17 =>
 xW t17
 (K (.slice none 0 0)) <|
 xL 38 t2 fun t18 =>
 xC 188 [.const t18,.const p1] [38,3] 36 fun t20 =>
 xC 131 [.const t20] [36] 36 fun t21 =>
 K t21
theorem ZX (p0 p1:Value):Lk 191 #[p0,p1] (O7 p0 p1):=lk [p0,p1] [(4,[17])] Tryz.func191
theorem JK:Ad Tryz.prog 191:=bd Tryz.func191
def JW (p0 p1 p2 p3:Value) (K:Value→World→Prop):World→Prop :=
 xB 38 p0 fun t4 =>
 xB 43 p3 fun t7 =>
 xA 38 fun t8 =>
 Join1 (fun k1 =>
 xL 38 t4 fun t9 =>
 xC 68 [.const t9] [38] 4 fun t10 =>
 xN 4 t10 fun t11 =>
 xW t11
 (k1 (.bool true)) <|
 xL 43 t7 fun t13 =>
 xC 74 [.const t13] [43] 4 fun t14 =>
 xN 4 t14 fun t15 =>
 xW t15
 (k1 (.bool true)) <|
 xC 66 [.const p1,.const p2] [3,3] 4 fun t20 =>
 xN 4 t20 fun t21 =>
 k1 t21) fun t22 =>
 xW t22
 (xL 38 t4 fun t23 =>
 xS 38 t8 t23 <|
 xD 38 t8 fun t8_1 =>
 K t8_1) <|
 Ai <|
 Join0 (fun k2 =>
 qL 43 t7 fun t26 =>
 qF 38 t4 1 fun t29 =>
 qL 3 t29 fun t30 =>
 xP (.call { callee:=.builtin .min,args:=#[.const p2,.const t30],argTypes:=#[3,3] }) 3 fun t31 =>
 xT (xC 67 [.const p1,.const p2,.const t26] [3,3,43] 38 fun t27 =>
 xT (qZ 3 t29 t30) <|
 OpX Tryz.prog (.makeFunc (.func 248) #[] #[.const t4]) 151 fun t32 =>
 xT (qZ 3 t29 t30) <|
 xC 70 [.const t27,.const (.int .i64 0),.const t31,.const t32] [38,3,3,151] 38 fun t33 =>
 xS 38 t8 t33 <|
 k2) <|
 OpX Tryz.prog (.makeFunc (.func 248) #[] #[.const t4]) 151 fun t32_1 =>
 xT (qZ 3 t29 t30) <|
 xT (qZ 43 t7 t26) <|
 xC 67 [.const p1,.const p2,.const t26] [3,3,43] 38 fun t27_1 =>
 xT (qZ 3 t29 t30) <|
 xC 70 [.const t27_1,.const (.int .i64 0),.const t31,.const t32_1] [38,3,3,151] 38 fun t33_1 =>
 xS 38 t8 t33_1 <|
 k2) <|
 xD 38 t8 fun t8_2 =>
 K t8_2
theorem Ww (p0 p1 p2 p3:Value):Lk 207 #[p0,p1,p2,p3] (JW p0 p1 p2 p3):=lk [p0,p1,p2,p3] [(4,[22]),(11,[])] Tryz.func207
theorem MH:Ad Tryz.prog 207:=bd Tryz.func207
def K8 (p0 p1 p2:Value) (K:Value→World→Prop):World→Prop :=
 xL 38 p2 fun t6 =>
 xC 188 [.const t6,.const p0] [38,3] 36 fun t8 =>
 OpX Tryz.prog (.call { callee:=.builtin .copy,args:=#[.const p1,.const t8],argTypes:=#[36,36] }) 3 fun _ =>
 K (.tuple #[])
theorem Ui (p0 p1 p2:Value):Lk 248 #[p0,p1,p2] (K8 p0 p1 p2):=lk [p0,p1,p2] [] Tryz.func248
theorem X9:Ad Tryz.prog 248:=bd Tryz.func248
def JB (p0 p1 p2 p3 p4:Value) (K:Value→World→Prop):World→Prop :=
 xB 38 p0 fun t5 =>
 xB 3 p1 fun t6 =>
 xB 3 p3 fun t8 =>
 xB 43 p4 fun t9 =>
 xA 38 fun t10 =>
 Join1 (fun k1 =>
 xL 38 t5 fun t13 =>
 xC 68 [.const t13] [38] 4 fun t14 =>
 xN 4 t14 fun t15 =>
 xW t15
 (k1 (.bool true)) <|
 xL 43 t9 fun t17 =>
 xC 74 [.const t17] [43] 4 fun t18 =>
 xN 4 t18 fun t19 =>
 k1 t19) fun t20 =>
 xW t20
 (xL 38 t5 fun t21 =>
 xS 38 t10 t21 <|
 xD 38 t10 fun t10_1 =>
 K t10_1) <|
 Ai <|
 qL 3 t6 fun t22 =>
 xP (.call { callee:=.builtin .max,args:=#[.const t22,.const (.int .i64 0)],argTypes:=#[3,3] }) 3 fun t23 =>
 qL 3 t8 fun t24 =>
 qF 38 t5 0 fun t25 =>
 qL 3 t25 fun t26 =>
 xP (.unOp .neg 3 (.const t26)) 3 fun t27 =>
 xP (.call { callee:=.builtin .max,args:=#[.const t24,.const t27],argTypes:=#[3,3] }) 3 fun t28 =>
 qF 38 t5 0 fun t29 =>
 qL 3 t29 fun t30 =>
 xP (.call { callee:=.builtin .min,args:=#[.const t28,.const t30],argTypes:=#[3,3] }) 3 fun t31 =>
 xS 3 t6 t23 <|
 xT (qZ 3 t29 t30) <|
 xT (qZ 3 t25 t26) <|
 xT (qZ 3 t8 t24) <|
 xS 3 t8 t31 <|
 xF 38 t5 1 fun t34 =>
 xL 3 t34 fun t35 =>
 xC 69 [.const p2,.const (.int .i64 1),.const t35] [3,3,3] 26 fun t36 =>
 xE t36 0 3 fun t37 =>
 xE t36 1 3 fun t38 =>
 xL 38 t5 fun t39 =>
 OpX Tryz.prog (.makeFunc (.func 271) #[] #[.const t5,.const t6,.const t9,.const t8]) 151 fun t42 =>
 xC 70 [.const t39,.const t37,.const t38,.const t42] [38,3,3,151] 38 fun t43 =>
 xS 38 t10 t43 <|
 xD 38 t10 fun t10_2 =>
 K t10_2
theorem aF (p0 p1 p2 p3 p4:Value):Lk 256 #[p0,p1,p2,p3,p4] (JB p0 p1 p2 p3 p4):=lk [p0,p1,p2,p3,p4] [(4,[20])] Tryz.func256
theorem Sw:Ad Tryz.prog 256:=bd Tryz.func256
def JP (p0 p1 p2 p3 p4:Value) (K:Value→World→Prop):World→Prop :=
 xB 38 p0 fun t5 =>
 xB 3 p1 fun t6 =>
 xB 3 p2 fun t7 =>
 xB 3 p3 fun t8 =>
 xB 43 p4 fun t9 =>
 xA 38 fun t10 =>
 Join1 (fun k1 =>
 xL 38 t5 fun t11 =>
 xC 68 [.const t11] [38] 4 fun t12 =>
 xN 4 t12 fun t13 =>
 xW t13
 (k1 (.bool true)) <|
 xL 43 t9 fun t15 =>
 xC 74 [.const t15] [43] 4 fun t16 =>
 xN 4 t16 fun t17 =>
 k1 t17) fun t18 =>
 xW t18
 (xL 38 t5 fun t19 =>
 xS 38 t10 t19 <|
 xD 38 t10 fun t10_1 =>
 K t10_1) <|
 Ai <|
 qL 3 t6 fun t20 =>
 xP (.call { callee:=.builtin .max,args:=#[.const t20,.const (.int .i64 0)],argTypes:=#[3,3] }) 3 fun t21 =>
 qF 38 t5 1 fun t22 =>
 qL 3 t22 fun t23 =>
 xP (.call { callee:=.builtin .min,args:=#[.const t21,.const t23],argTypes:=#[3,3] }) 3 fun t24 =>
 qL 3 t7 fun t25 =>
 xP (.call { callee:=.builtin .max,args:=#[.const t25,.const (.int .i64 0)],argTypes:=#[3,3] }) 3 fun t26 =>
 qF 38 t5 1 fun t27 =>
 qL 3 t27 fun t28 =>
 xP (.call { callee:=.builtin .min,args:=#[.const t26,.const t28],argTypes:=#[3,3] }) 3 fun t29 =>
 xS 3 t6 t24 <|
 xT (qZ 3 t27 t28) <|
 xT (qZ 3 t7 t25) <|
 xS 3 t7 t29 <|
 xL 3 t8 fun t30 =>
 xF 38 t5 1 fun t31 =>
 xL 3 t31 fun t32 =>
 OpX Tryz.prog (.unOp .neg 3 (.const t32)) 3 fun t33 =>
 OpX Tryz.prog (.call { callee:=.builtin .max,args:=#[.const t30,.const t33],argTypes:=#[3,3] }) 3 fun t34 =>
 xF 38 t5 1 fun t35 =>
 xL 3 t35 fun t36 =>
 OpX Tryz.prog (.call { callee:=.builtin .min,args:=#[.const t34,.const t36],argTypes:=#[3,3] }) 3 fun t37 =>
 xS 3 t8 t37 <|
 xL 38 t5 fun t38 =>
 xL 3 t6 fun t39 =>
 xL 3 t7 fun t40 =>
 OpX Tryz.prog (.makeFunc (.func 273) #[] #[.const t8,.const t6,.const t7,.const t9,.const t5]) 151 fun t41 =>
 xC 70 [.const t38,.const t39,.const t40,.const t41] [38,3,3,151] 38 fun t42 =>
 xS 38 t10 t42 <|
 xD 38 t10 fun t10_2 =>
 K t10_2
theorem YZ (p0 p1 p2 p3 p4:Value):Lk 266 #[p0,p1,p2,p3,p4] (JP p0 p1 p2 p3 p4):=lk [p0,p1,p2,p3,p4] [(4,[18])] Tryz.func266
theorem V4:Ad Tryz.prog 266:=bd Tryz.func266
def Od (p0 p1 p2 p3 p4 p5:Value) (K:Value→World→Prop):World→Prop :=
 xL 38 p2 fun t10 =>
 xC 188 [.const t10,.const p0] [38,3] 36 fun t12 =>
 xL 3 p3 fun t13 =>
 Loop1 t13 fun t9 next1 =>
 xF 38 p2 0 fun t15 =>
 xL 3 t15 fun t16 =>
 xO .lss 3 t9 t16 fun t17 =>
 xW t17
 (xL 43 p4 fun t22 =>
 xI 36 p1 t9 fun t23 =>
 xS 43 t23 t22 <|
 Join1 (fun k2 =>
 xL 3 p5 fun t25 =>
 xO .sub 3 t9 t25 fun t26 =>
 xL 3 p3 fun t27 =>
 xO .geq 3 t26 t27 fun t28 =>
 xW t28
 (xL 3 p5 fun t31 =>
 xO .sub 3 t9 t31 fun t32 =>
 xF 38 p2 0 fun t33 =>
 xL 3 t33 fun t34 =>
 xO .lss 3 t32 t34 fun t35 =>
 k2 t35) <|
 k2 (.bool false)) fun t36 =>
 xW t36
 (xL 3 p5 fun t41 =>
 xO .sub 3 t9 t41 fun t42 =>
 xI 36 t12 t42 fun t43 =>
 xL 43 t43 fun t44 =>
 xI 36 p1 t9 fun t45 =>
 xS 43 t45 t44 <|
 xO .add 3 t9 (.int .i64 1) fun t19 =>
 next1 t19) <|
 xO .add 3 t9 (.int .i64 1) fun t19_1 =>
 next1 t19_1) <|
 K (.tuple #[])
theorem Wa (p0 p1 p2 p3 p4 p5:Value):Lk 271 #[p0,p1,p2,p3,p4,p5] (Od p0 p1 p2 p3 p4 p5):=lk [p0,p1,p2,p3,p4,p5] [(5,[9]),(17,[36])] Tryz.func271
theorem Sy:Ad Tryz.prog 271:=bd Tryz.func271
def Pm (p0 p1 p2 p3 p4 p5 p6:Value) (K:Value→World→Prop):World→Prop :=
 Join1 (fun k1 =>
 xL 3 p2 fun t10 =>
 xO .add 3 p0 t10 fun t11 =>
 xL 3 p3 fun t12 =>
 xO .lss 3 t11 t12 fun t13 =>
 xW t13
 (k1 (.bool true)) <|
 xL 3 p2 fun t16 =>
 xO .add 3 p0 t16 fun t17 =>
 xL 3 p4 fun t18 =>
 xO .geq 3 t17 t18 fun t19 =>
 k1 t19) fun t20 =>
 xW t20
 (xL 43 p5 fun t22 =>
 xC 76 [.const p1,.const t22] [36,43] 0 fun _ =>
 K (.tuple #[])) <|
 xL 38 p6 fun t25 =>
 xL 3 p2 fun t27 =>
 xO .add 3 p0 t27 fun t28 =>
 xC 188 [.const t25,.const t28] [38,3] 36 fun t29 =>
 OpX Tryz.prog (.call { callee:=.builtin .copy,args:=#[.const p1,.const t29],argTypes:=#[36,36] }) 3 fun _ =>
 K (.tuple #[])
theorem XY (p0 p1 p2 p3 p4 p5 p6:Value):Lk 273 #[p0,p1,p2,p3,p4,p5,p6] (Pm p0 p1 p2 p3 p4 p5 p6):=lk [p0,p1,p2,p3,p4,p5,p6] [(2,[20])] Tryz.func273
theorem WY:Ad Tryz.prog 273:=bd Tryz.func273
def JQ (p0:Value) (K:Value→World→Prop):World→Prop :=
 xO .eql 36 p0 (.slice none 0 0) fun t4 =>
 xW t4
 (K (.slice none 0 0)) <|
 OpX Tryz.prog (.buildSlice 36 0 #[]) 36 fun t5 =>
 OpX Tryz.prog (.call { callee:=.builtin .append,args:=#[.const t5,.const p0],argTypes:=#[36,36] }) 36 fun t7 =>
 K t7
theorem Qs (p0:Value):Lk 131 #[p0] (JQ p0):=lk [p0] [] Tryz.func131
theorem Ix:Ad Tryz.prog 131:=bd Tryz.func131
def PC (p0 p1:Value) (K:Value→World→Prop):World→Prop :=
 Join0 (fun k1 =>
 xO .lss 3 p1 (.int .i64 0) fun t10 =>
 xW t10
 (OpX Tryz.prog (.makeInterface 9 (.const (.string { data:=#[99,97,110,110,111,116,32,98,101,32,110,101,103,97,116,105,118,101] }))) 20 fun t11 =>
 OpX Tryz.prog (.panic (.const t11)) 0 fun _ =>
 k1) <|
 k1) <|
 xU p0 36 fun t14 =>
 OpX Tryz.prog (.convert 3 52 (.const t14)) 52 fun t15 =>
 OpX Tryz.prog (.convert 3 52 (.const p1)) 52 fun t17 =>
 xC 186 [.const t15,.const t17] [52,52] 268 fun t18 =>
 xE t18 0 52 fun t19 =>
 xE t18 1 52 fun t20 =>
 Join0 (fun k2 =>
 Join1 (fun k3 =>
 xO .gtr 52 t19 (.int .u64 0) fun t22 =>
 xW t22
 (k3 (.bool true)) <|
 xO .gtr 52 t20 (.int .u64 9223372036854775807) fun t25 =>
 k3 t25) fun t26 =>
 xW t26
 (OpX Tryz.prog (.makeInterface 9 (.const (.string { data:=#[116,104,101,32,114,101,115,117,108,116,32,111,102,32,40,108,101,110,40,120,41,32,42,32,99,111,117,110,116,41,32,111,118,101,114,102,108,111,119,115] }))) 20 fun t27 =>
 OpX Tryz.prog (.panic (.const t27)) 0 fun _ =>
 k2) <|
 k2) <|
 OpX Tryz.prog (.convert 52 3 (.const t20)) 3 fun t29 =>
 OpX Tryz.prog (.makeSlice 36 (.const t29) (.const t29)) 36 fun t30 =>
 OpX Tryz.prog (.call { callee:=.builtin .copy,args:=#[.const t30,.const p0],argTypes:=#[36,36] }) 3 fun t33 =>
 Loop1 t33 fun t8 next4 =>
 xU t30 36 fun t36 =>
 xO .lss 3 t8 t36 fun t37 =>
 xW t37
 (Ai <|
 xP (.slice 36 (.const t30) (some (.const t8)) none none) 36 fun t41 =>
 xP (.slice 36 (.const t30) none (some (.const t8)) none) 36 fun t44 =>
 OpX Tryz.prog (.call { callee:=.builtin .copy,args:=#[.const t41,.const t44],argTypes:=#[36,36] }) 3 fun t45 =>
 qP .add 3 t8 t45 fun t46 =>
 next4 t46) <|
 K t30
theorem VD (p0 p1:Value):Lk 128 #[p0,p1] (PC p0 p1):=lk [p0,p1] [(2,[]),(10,[]),(12,[26]),(22,[8])] Tryz.func128
theorem Qy:Ad Tryz.prog 128:=bd Tryz.func128
def Mj (p0 p1:Value) (K:Value→World→Prop):World→Prop :=
 xC 234 [.const p0,.const p1] [300,300] 301 fun t25 =>
 xE t25 0 300 fun t26 =>
 xE t25 1 300 fun t27 =>
 K (.tuple #[t26,t27])
theorem UA (p0 p1:Value):Lk 186 #[p0,p1] (Mj p0 p1):=lk [p0,p1] [] Tryz.func186
theorem Q9:Ad Tryz.prog 186:=bd Tryz.func186
def NY (p0 p1:Value) (K:Value→World→Prop):World→Prop :=
 xO .and 300 p0 (.int .u64 4294967295) fun t15 =>
 xO .shr 300 p0 (.int .u64 32) fun t17 =>
 xO .and 300 p1 (.int .u64 4294967295) fun t19 =>
 xO .shr 300 p1 (.int .u64 32) fun t21 =>
 xO .mul 300 t15 t19 fun t24 =>
 xO .mul 300 t17 t19 fun t27 =>
 xO .shr 300 t24 (.int .u64 32) fun t29 =>
 xO .add 300 t27 t29 fun t30 =>
 xO .and 300 t30 (.int .u64 4294967295) fun t32 =>
 xO .shr 300 t30 (.int .u64 32) fun t34 =>
 xO .mul 300 t15 t21 fun t38 =>
 xO .add 300 t32 t38 fun t39 =>
 xO .mul 300 t17 t21 fun t42 =>
 xO .add 300 t42 t34 fun t44 =>
 xO .shr 300 t39 (.int .u64 32) fun t46 =>
 xO .add 300 t44 t46 fun t47 =>
 xO .mul 300 p0 p1 fun t50 =>
 K (.tuple #[t47,t50])
theorem Yo (p0 p1:Value):Lk 234 #[p0,p1] (NY p0 p1):=lk [p0,p1] [] Tryz.func234
theorem aK:Ad Tryz.prog 234:=bd Tryz.func234
theorem IW {w:World} {e:Option TypeId} {a:Option Addr} {l:List Cel} (hs:SxC w e a l) (cap:Nat) (hl:l.length≤100000):Calls Tryz.prog 131 #[.slice a l.length cap] w (Ac fun v w'=>Ox w.heap.size w' 43 4 Cel.cells v l∧Chg [] w w'):=by
 apply Qs
 intro K hK
 unfold JQ
 simp -dsimp (disch:=first|omega|(simp only[go_sem,seval];try omega))only[go_sem,seval]
 refine BrW.by (fun h=>?_) (fun h=>?_)
 ·have hl0:l=[]:=by
   cases a with
   | none =>
    cases l with
    | nil=>rfl
    | cons x l=>obtain⟨b,o,_,_,_,_,_,h,_⟩:=hs.at_ (by simp);simp at h
   | some x=>simp at h
  subst hl0
  exact hK _ _ ⟨Ox.nil _ _ _ _ _,Chg.refl _ _⟩
 ·simp -dsimp (disch:=first|omega|(simp only[go_sem,seval];try omega))only[go_sem,seval]
  have hc:=(Chg.refl [] w).alloc (.cells #[] 43)
  have ho:Ox w.heap.size (w.alloc (.cells #[] 43)) 43 4 Cel.cells (.slice (some ⟨w.heap.size,0,none⟩) 0 0) []:=Ox.built (c:=[]) (by simp -dsimp (disch:=first|omega|(simp only[go_sem,seval];try omega))only[go_sem,seval]) Cel.len (Nat.le_refl _) rfl rfl (by omega) rfl
  refine Bz (l:=[]) (l2:=l) Kq Cel.len Cel.ok ho (hs.chg0 hc) rfl (by simp;omega) (by omega) (by simp -dsimp (disch:=first|omega|(simp only[go_sem,seval];try omega))only[go_sem,seval];omega) ?_
  intro v' w' ho' hc' _
  exact hK _ _ ⟨by simpa using ho',Gn ho hc hc'⟩
theorem Hp (w:World) (x y:Int):Calls Tryz.prog 66 #[.int .i64 x,.int .i64 y] w (Ac fun v w'=>v=.bool (Cl x y)∧w'=w):=by
 apply XW
 intro K hK
 unfold LU
 refine Join1.inl ?_
 simp -dsimp (disch:=first|omega|(simp only[go_sem,seval];try omega))only[go_sem,seval]
 refine BrW.dec (fun h1=>?_) (fun h1=>?_)
 ·simp -dsimp (disch:=first|omega|(simp only[go_sem,seval];try omega))only[go_sem,seval]
  refine BrW.dec (fun h2=>?_) (fun h2=>?_)
  ·simp -dsimp (disch:=first|omega|(simp only[go_sem,seval];try omega))only[go_sem,seval]
   refine BrW.dec (fun h3=>?_) (fun h3=>?_)
   ·simp -dsimp (disch:=first|omega|(simp only[go_sem,seval];try omega))only[go_sem,seval]
    refine hK _ _ ⟨?_,rfl⟩
    simp [Cl,h1,h2,h3]
   ·simp -dsimp (disch:=first|omega|(simp only[go_sem,seval];try omega))only[go_sem,seval]
    refine hK _ _ ⟨?_,rfl⟩
    simp [Cl,h3]
  ·simp -dsimp (disch:=first|omega|(simp only[go_sem,seval];try omega))only[go_sem,seval]
   refine hK _ _ ⟨?_,rfl⟩
   simp [Cl,h2]
 ·simp -dsimp (disch:=first|omega|(simp only[go_sem,seval];try omega))only[go_sem,seval]
  refine hK _ _ ⟨?_,rfl⟩
  simp [Cl,h1]
theorem DJ (w:World) (x n size:Int) (hs:0≤size) (hs2:size≤1000) (h1:-9223372036854775808≤x) (h2:x≤9223372036854775807) (h4:n≤9223372036854775807):Calls Tryz.prog 69 #[.int .i64 x,.int .i64 n,.int .i64 size] w (Ac fun v w'=>v=.tuple #[.int .i64 (AN x n size).1,.int .i64 (AN x n size).2]∧w'=w):=by
 apply XI
 intro K hK
 unfold OM
 refine Join1.cut (fun v w'=>v=.bool (decide (n≤0∨size≤x∨(x<0∧x+n≤0)))∧w'=w) ?_ ?_
 ·simp -dsimp (disch:=first|omega|(simp only[go_sem,seval];try omega))only[go_sem,seval]
  refine BrW.dec (fun h=>⟨by simp [h],rfl⟩) (fun h3=>?_)
  simp -dsimp (disch:=first|omega|(simp only[go_sem,seval];try omega))only[go_sem,seval]
  refine BrW.dec (fun h=>⟨by simp [h],rfl⟩) (fun h5=>?_)
  simp -dsimp (disch:=first|omega|(simp only[go_sem,seval];try omega))only[go_sem,seval]
  refine BrW.dec (fun h6=>?_) (fun h6=>?_)
  ·simp -dsimp (disch:=first|omega|(simp only[go_sem,seval];try omega))only[go_sem,seval]
   simp [h3,h5,h6]
  ·refine⟨?_,rfl⟩
   congr 1
   simp [h3,h5,h6]
 ·rintro v w1 ⟨rfl,rfl⟩
  refine BrW.dec (fun h=>?_) (fun h=>?_)
  ·exact hK _ _ ⟨by unfold AN;rw[if_pos h],rfl⟩
  ·have h':0<n∧x<size∧(0≤x∨0<x+n):=by omega
   simp -dsimp (disch:=first|omega|(simp only[go_sem,seval];try omega))only[go_sem,seval]
   refine BrW.dec (fun h6=>?_) (fun h6=>?_)
   ·simp -dsimp (disch:=first|omega|(simp only[go_sem,seval];try omega))only[go_sem,seval]
    exact hK _ _ ⟨by unfold AN;rw[if_neg h];simp [h6],rfl⟩
   ·simp -dsimp (disch:=first|omega|(simp only[go_sem,seval];try omega))only[go_sem,seval]
    exact hK _ _ ⟨by unfold AN;rw[if_neg h];simp [h6],rfl⟩
theorem F2 (w:World) (c:Cel):Calls Tryz.prog 74 #[c.val] w (Ac fun v w'=>v=.bool c.usual∧Chg [] w w'):=by
 apply Sz
 intro K hK
 unfold P3
 simp -dsimp (disch:=first|omega|(simp only[go_sem,seval];try omega))only[go_sem,seval]
 have hc1:=(Chg.refl [] w).alloc (.cells c.cells.toArray 43)
 have hh1:(w.alloc (.cells c.cells.toArray 43)).heap[w.heap.size]?=some (.cells c.cells.toArray 43):=by simp -dsimp (disch:=first|omega|(simp only[go_sem,seval];try omega))only[go_sem,seval]
 refine Join1.inl ?_
 simp -dsimp (disch:=first|omega|(simp only[go_sem,seval];try omega))only[go_sem,seval]
 refine OpX.call Ht rfl (Calls.ret (Jp _ c) ?_)
 rintro v w1 ⟨rfl,hc2⟩
 have hh2:=hc2.keep hh1 (by simp)
 refine BrW.by (fun h=>?_) (fun h=>?_)
 ·simp -dsimp (disch:=first|omega|(simp only[go_sem,seval];try omega))only[go_sem,seval,hh2]
  refine hK _ _ ⟨?_,hc1.trans0 hc2⟩
  simp [Cel.usual,h,Cel.plain]
 ·simp -dsimp (disch:=first|omega|(simp only[go_sem,seval];try omega))only[go_sem,seval]
  refine hK _ _ ⟨?_,hc1.trans0 hc2⟩
  simp [Cel.usual,h]
theorem EV {w:World} {g:Gr} (hg:g.ok) (b o cap:Nat) (hcap:g.cs.length≤cap) (y:Nat) (hy:y<g.h):Calls Tryz.prog 188 #[g.val (some ⟨b,o,none⟩) cap,.int .i64 y] w
  (Ac fun v w'=>v=.slice (some ⟨b,o+y*g.w*4,none⟩) g.w g.w∧Chg [] w w'):=by
 have h1:=hg.row_lt hy
 have h2:=hg.le
 have h3:=hg.w0
 have h4:=hg.w1
 have h5:=hg.h1
 apply SF
 intro K hK
 unfold NP
 simp -dsimp (disch:=first|omega|(simp only[go_sem,seval];try omega))only[go_sem,seval,Gr.val]
 have e1:(y:Int)*(g.w:Int)=((y*g.w:Nat):Int):=by simp
 have e2:((y:Int)+1)*(g.w:Int)=((y*g.w+g.w:Nat):Int):=by rw[Int.add_mul];simp
 have hm:=Nat.mul_le_mul (show y≤60 by omega) h4
 simp -dsimp (disch:=first|omega|(simp only[go_sem,seval];try omega))only[go_sem,seval,e1,e2]
 have e3:slo o (y*g.w+g.w) (y*g.w) 4=o+y*g.w*4:=by unfold slo;rw[if_neg (by omega)]
 have e4:y*g.w+g.w-y*g.w=g.w:=by omega
 rw[e3,e4]
 exact hK _ _ ⟨rfl,(Chg.refl _ _).alloc _⟩
def By (b o:Nat) (g:Gr) (y:Nat):Value:=.slice (some ⟨b,o+y*g.w*4,none⟩) g.w g.w
structure Boxes (w:World) (g:Gr) (a:Option Addr) (cap pt:Nat) (top fin:Int):Prop where
 t:w.heap[pt+1]?=some (.cells #[.int .i64 top] 3)
 e:w.heap[pt+2]?=some (.cells #[.int .i64 fin] 3)
 g:w.heap[pt]?=some (.cells #[.int .i64 g.w,.int .i64 g.h,.slice a g.cs.length cap] 38)
theorem Boxes.chg {w w':World} {g:Gr} {a:Option Addr} {cap pt:Nat} {top fin:Int} {F:List Nat} (h:Boxes w g a cap pt top fin) (hc:Chg F w w') (hF:∀x∈F,x<pt∨pt+2<x):Boxes w' g a cap pt top fin :=
 ⟨hc.keep h.t (fun hm=>by have:=hF _ hm;omega),hc.keep h.e (fun hm=>by have:=hF _ hm;omega),hc.keep h.g (fun hm=>by have:=hF _ hm;omega)⟩
theorem Up {w:World} {g:Gr} (hg:g.ok) {b o cap pt:Nat} (hcap:g.cs.length≤cap) {top fin:Int} {yv:Value} (ht:-9223372036854775808≤top) (ht2:top≤9223372036854775807)
  (Inv:Nat→World→Prop) (Stop:World→Prop) (hI:∀y w1,Inv y w1→Boxes w1 g (some ⟨b,o,none⟩) cap pt top fin) (hS:∀y w1 w2,Inv y w1→Chg [] w1 w2→Inv y w2)
  (h0:Inv (max top 0).toNat w)
  (hR:∀y w1,Inv y w1→top≤(y:Int)→(y:Int)<fin→y<g.h→Bd Tryz.prog yv [.int .i64 y,By b o g y] (fun v w2=>(v=.bool true∧Inv (y+1) w2)∨(v=.bool false∧Stop w2)) w1) :
  Calls Tryz.prog 187 #[yv,.pointer (some ⟨pt+1,0,none⟩),.pointer (some ⟨pt+2,0,none⟩),.pointer (some ⟨pt,0,none⟩)] w
   (Ac fun _ w'=>(∃y:Nat,top≤(y:Int)∧(min fin g.h≤y)∧((y:Int)≤min fin g.h∨(y:Int)=max top 0)∧Inv y w')∨Stop w'):=by
 have hB:=hI _ _ h0
 have h5:=hg.h1
 apply XO
 intro K hK
 unfold Km
 simp -dsimp (disch:=first|omega|(simp only[go_sem,seval];try omega))only[go_sem,seval,hB.t]
 refine Loop1.st (fun y:Nat=>.int .i64 y) (fun y w1=>Inv y w1∧top≤(y:Int)∧((y:Int)≤min fin g.h∨(y:Int)=max top 0)) (fun y=>g.h-y) (max top 0).toNat (by congr 1;omega) ⟨h0,by omega,by omega⟩ ?_
 rintro next y w1 hn ⟨hi,h1,h2⟩
 have hB1:=hI _ _ hi
 simp -dsimp (disch:=first|omega|(simp only[go_sem,seval];try omega))only[go_sem,seval,hB1.e,hB1.g]
 refine BrW.dec (fun h3=>?_) (fun h3=>?_)
 ·simp -dsimp (disch:=first|omega|(simp only[go_sem,seval];try omega))only[go_sem,seval,hB1.g]
  refine OpX.call Fu rfl (Calls.ret (EV (w:=w1) hg b o cap hcap y (by omega)) ?_)
  rintro v w2 ⟨rfl,hc⟩
  refine(hR y w2 (hS _ _ _ hi hc) h1 (by omega) (by omega)).use ?_
  rintro v w3 (⟨rfl,hi3⟩|⟨rfl,hs3⟩)
  ·simp -dsimp (disch:=first|omega|(simp only[go_sem,seval];try omega))only[go_sem,seval]
   exact hn (y+1) _ ⟨hi3,by omega,by omega⟩ (by omega)
  ·simp -dsimp (disch:=first|omega|(simp only[go_sem,seval];try omega))only[go_sem,seval]
   exact hK _ _ (.inr hs3)
 ·exact hK _ _ (.inl ⟨y,h1,by omega,h2,hi⟩)
def Qh (pt:Nat):Value:=.func (.func 187) #[] #[.pointer (some ⟨pt+1,0,none⟩),.pointer (some ⟨pt+2,0,none⟩),.pointer (some ⟨pt,0,none⟩)]
theorem On (w:World) (g:Gr) (a:Option Addr) (cap:Nat) (top fin:Int):Calls Tryz.prog 129 #[g.val a cap,.int .i64 top,.int .i64 fin] w
  (Ac fun v w'=>v=Qh w.heap.size∧Boxes w' g a cap w.heap.size top fin∧Chg [] w w'∧w'.heap.size=w.heap.size+3):=by
 apply bm
 intro K hK
 unfold Jz
 simp -dsimp (disch:=first|omega|(simp only[go_sem,seval];try omega))only[go_sem,seval,Gr.val]
 exact hK _ _ ⟨rfl,⟨(by simp -dsimp (disch:=first|omega|(simp only[go_sem,seval];try omega))only[go_sem,seval]),(by simp -dsimp (disch:=first|omega|(simp only[go_sem,seval];try omega))only[go_sem,seval]),(by simp -dsimp (disch:=first|omega|(simp only[go_sem,seval];try omega))only[go_sem,seval])⟩,(((Chg.refl [] w).alloc _).alloc _).alloc _,(by simp -dsimp (disch:=first|omega|(simp only[go_sem,seval];try omega))only[go_sem,seval])⟩
theorem PV {w:World} {g:Gr} (hg:g.ok) {b o cap pt:Nat} (hcap:g.cs.length≤cap) {top fin:Int} (ht:-9223372036854775808≤top) (ht2:top≤9223372036854775807)
  (hB:Boxes w g (some ⟨b,o,none⟩) cap pt top fin) (F:List Nat) (hF:∀x∈F,x<w.heap.size∧(x<pt∨pt+2<x)) (I:Nat→World→Prop) (Stop:World→Prop)
  (hI:∀y w1 w2,I y w1→Chg [w.heap.size+1] w1 w2→I y w2) (hSt:∀w1 w2,Stop w1→Chg [w.heap.size+1] w1 w2→Stop w2) (h0:I (max top 0).toNat w)
  {body:List Value→(World→Prop)→(World→Prop)→(Nat→World→Prop)→World→Prop} {QN QR:Nat→World→Prop} {QE:List (Nat × (Nat→World→Prop))}
  (hR:∀y kn kr kx w1,Chg F w w1→w.heap.size+2≤w1.heap.size→I y w1→top≤(y:Int)→(y:Int)<fin→y<g.h→(∀w2 G,Chg G w1 w2→(∀x∈G,x∈F∨w.heap.size+2≤x)→I (y+1) w2→kn w2)→(∀w2 G,Chg G w1 w2→(∀x∈G,x∈F∨w.heap.size+2≤x)→Stop w2→kr w2)→body [.int .i64 y,By b o g y] kn kr kx w1)
  (hN:∀y w2,Chg F w w2→w2.heap[w.heap.size]?=some (.deferred (some []))→I y w2→top≤(y:Int)→(min fin g.h≤y)→((y:Int)≤min fin g.h∨(y:Int)=max top 0)→QN w.heap.size w2)
  (hQ:∀w2,Chg F w w2→w2.heap[w.heap.size]?=some (.deferred (some []))→Stop w2→QR w.heap.size w2) :
  RngX Tryz.prog (Qh pt) 2 (fun vs bg kn kr kx w=>bg (fun w=>body vs kn kr kx w) w) QN QR QE w:=by
 have hp:=Aa hB.e
 have hlow:∀{w2:World} {G:List Nat} (Lp:Obj),Chg ((w.heap.size+1)::F) ((w.alloc (.deferred (some []))).alloc Lp) w2→Chg F w w2:=fun {w2} {G} Lp h =>
  ((((Chg.refl F w).alloc (.deferred (some []))).alloc Lp).trans h (by
   intro x hx
   rcases List.mem_cons.1 hx with rfl|hx
   ·exact .inr (by omega)
   ·exact .inl hx))
 refine⟨fun Lp yv hy=>⟨_,[],_,rfl,Xe,?_⟩⟩
 have hl:∀(st:LSt),((w.alloc (.deferred (some []))).alloc (Lp st)).heap[w.heap.size+1]?=some (Lp st):=fun st=>by simp -dsimp (disch:=first|omega|(simp only[go_sem,seval];try omega))only[go_sem,seval]
 have hr:∀(st:LSt),((w.alloc (.deferred (some []))).alloc (Lp st)).heap[w.heap.size]?=some (.deferred (some [])):=fun st=>by simp -dsimp (disch:=first|omega|(simp only[go_sem,seval];try omega))only[go_sem,seval]
 have hcB:Boxes ((w.alloc (.deferred (some []))).alloc (Lp .ready)) g (some ⟨b,o,none⟩) cap pt top fin:=hB.chg (((Chg.refl [] w).alloc _).alloc _) (by simp)
 have hFw:w.heap.size∉(w.heap.size+1)::F:=by
  intro hm
  rcases List.mem_cons.1 hm with h|h
  ·omega
  ·have:=hF _ h;omega
 refine Calls.ret (Up (w:=(w.alloc (.deferred (some []))).alloc (Lp .ready)) hg hcap (b:=b) (o:=o) (pt:=pt) (top:=top) (fin:=fin) (yv:=yv) ht ht2
  (fun y w1=>I y w1∧Chg ((w.heap.size+1)::F) ((w.alloc (.deferred (some []))).alloc (Lp .ready)) w1∧w1.heap[w.heap.size+1]?=some (Lp .ready))
  (fun w1=>Stop w1∧Chg ((w.heap.size+1)::F) ((w.alloc (.deferred (some []))).alloc (Lp .ready)) w1∧w1.heap[w.heap.size+1]?=some (Lp (.gone .ret)))
  ?_ ?_ ?_ ?_) (fun v w' h=>?_)
 ·rintro y w1 ⟨_,hc,_⟩
  refine hcB.chg hc fun x hx=>?_
  rcases List.mem_cons.1 hx with rfl|hx
  ·exact .inr (by omega)
  ·exact(hF x hx).2
 ·rintro y w1 w2 ⟨hi,hc,hw⟩ h12
  exact⟨hI _ _ _ hi (h12.mono (by simp)),hc.trans0 h12,h12.keep hw (by simp)⟩
 ·exact⟨hI _ _ _ h0 ((((Chg.refl _ w).alloc _).alloc _)),Chg.refl _ _,hl _⟩
 ·rintro y w1 ⟨hi,hc,hw⟩ h1 h2 h3
  refine hy _ _ _ rfl hw ⟨hw,?_⟩
  have hcb:Chg [w.heap.size+1] w1 (Ab w1 (w.heap.size+1) (Lp .busy)):=(Chg.refl _ _).set _ _ (by simp)
  have hcL:Chg ((w.heap.size+1)::F) ((w.alloc (.deferred (some []))).alloc (Lp .ready)) (Ab w1 (w.heap.size+1) (Lp .busy)):=hc.trans hcb (by simp)
  have hzl:((w.alloc (.deferred (some []))).alloc (Lp .ready)).heap.size=w.heap.size+2:=by simp -dsimp (disch:=first|omega|(simp only[go_sem,seval];try omega))only[go_sem,seval]
  have hlG:∀G:List Nat,(∀x∈G,x∈F∨w.heap.size+2≤x)→(w.heap.size+1)∉G:=fun G hG hm=>by
   rcases hG _ hm with h|h
   ·have:=hF _ h;omega
   ·omega
  refine hR y _ _ _ _ (hlow (G:=F) _ hcL) (by have:=hcL.size;omega) (hI _ _ _ hi hcb) h1 h2 h3 (fun w2 G hc2 hG hi2=>?_) (fun w2 G hc2 hG hs2=>?_)
  ·have hb:=hc2.keep (Ar _ _ _ _ rfl (Aa hw)) (hlG G hG)
   exact⟨hb,.inl ⟨rfl,hI _ _ _ hi2 ((Chg.refl _ _).set _ _ (by simp)),(hcL.trans hc2 (fun x hx=>(hG x hx).elim (fun h=>.inl (by simp [h])) (fun h=>.inr (by omega)))).set _ _ (.inl (by simp)),Ar _ _ _ _ rfl (Aa hb)⟩⟩
  ·have hb:=hc2.keep (Ar _ _ _ _ rfl (Aa hw)) (hlG G hG)
   exact⟨hb,.inr ⟨rfl,hSt _ _ hs2 ((Chg.refl _ _).set _ _ (by simp)),(hcL.trans hc2 (fun x hx=>(hG x hx).elim (fun h=>.inl (by simp [h])) (fun h=>.inr (by omega)))).set _ _ (.inl (by simp)),Ar _ _ _ _ rfl (Aa hb)⟩⟩
 ·obtain⟨y,h1,h2,h3,hi,hc,hw⟩|⟨hs,hc,hw⟩:=h
  ·have hc':=hc.set (w.heap.size+1) (Lp (.over .normal)) (.inl (by simp))
   exact .inl ⟨hw,hN y _ (hlow (G:=F) _ hc') (hc'.keep (hr _) hFw) (hI _ _ _ hi ((Chg.refl _ _).set _ _ (by simp))) h1 h2 h3⟩
  ·have hc':=hc.set (w.heap.size+1) (Lp (.over .ret)) (.inl (by simp))
   exact .inr (.inl ⟨hw,hQ _ (hlow (G:=F) _ hc') (hc'.keep (hr _) hFw) (hSt _ _ hs ((Chg.refl _ _).set _ _ (by simp)))⟩)
theorem CK {w:World} {g:Gr} (hg:g.ok) {e:Option TypeId} {a:Option Addr} (hs:SxC w e a g.cs) (cap:Nat) (hcap:g.cs.length≤cap):Calls Tryz.prog 68 #[g.val a cap] w
  (Ac fun v w'=>v=.bool g.right∧Chg [] w w'):=by
 obtain⟨b,o,_,_,_,_,_,rfl,hb0,_⟩:=hs.at_ hg.ne
 have hb0':=Aa hb0
 clear hb0
 have hle:=hg.le
 have hm:(g.w:Int)*(g.h:Int)=(g.cs.length:Int):=by rw[hg.len];simp
 have h0:=hg.h0
 have h1:=hg.h1
 apply Wr
 intro K hK
 unfold NQ
 simp -dsimp (disch:=first|omega|(simp only[go_sem,seval];try omega))only[go_sem,seval,Gr.val]
 refine Join1.inl ?_
 simp -dsimp (disch:=first|omega|(simp only[go_sem,seval];try omega))only[go_sem,seval]
 refine OpX.call I7 rfl (Calls.ret (Hp _ g.w g.h) ?_)
 rintro v w1 ⟨rfl,rfl⟩
 simp -dsimp (disch:=first|omega|(simp only[go_sem,seval];try omega))only[go_sem,seval,hg.fits,hm]
 have hcw:=((Chg.refl [] w).alloc (Obj.cells #[.int .i64 g.w,.int .i64 g.h,.slice (some ⟨b,o,none⟩) g.cs.length cap] 38)).alloc (Obj.cells #[.bool false] 4)
 have hrv:((w.alloc (Obj.cells #[.int .i64 g.w,.int .i64 g.h,.slice (some ⟨b,o,none⟩) g.cs.length cap] 38)).alloc (Obj.cells #[.bool false] 4)).heap[w.heap.size+1]?=some (Obj.cells #[.bool false] 4):=by simp -dsimp (disch:=first|omega|(simp only[go_sem,seval];try omega))only[go_sem,seval]
 refine OpX.call LY rfl (Calls.ret (On _ g (some ⟨b,o,none⟩) cap 0 g.h) ?_)
 rintro v w2 ⟨rfl,hB,hc2,hsz⟩
 have hs2:=(hs.chg0 hcw).chg0 hc2
 have hrv2:=hc2.keep hrv (by simp)
 have hcw2:=hcw.trans0 hc2
 have e1:((w.alloc (Obj.cells #[.int .i64 g.w,.int .i64 g.h,.slice (some ⟨b,o,none⟩) g.cs.length cap] 38)).alloc (Obj.cells #[.bool false] 4)).heap.size=w.heap.size+2:=by simp -dsimp (disch:=first|omega|(simp only[go_sem,seval];try omega))only[go_sem,seval]
 rw[e1] at hB hsz ⊢
 clear hc2 hcw hrv hs
 refine PV hg hcap (by omega) (by omega) hB [w.heap.size+1] (by simp;omega) (fun y w1=>(∀y'<y,right (g.row y')=true)∧w1.heap[w.heap.size+1]?=some (Obj.cells #[.bool false] 4))
  (fun w1=>g.right=false∧w1.heap[w.heap.size+1]?=some (Obj.cells #[.bool false] 4)) ?_ ?_ ⟨by simp,hrv2⟩ ?_ ?_ ?_
 ·rintro y w3 w4 ⟨h2,h3⟩ hc
  exact⟨h2,hc.keep h3 (by simp;omega)⟩
 ·rintro w3 w4 ⟨h2,h3⟩ hc
  exact⟨h2,hc.keep h3 (by simp;omega)⟩
 ·rintro y kn kr kx w3 hc-⟨hi,hr3⟩ - - hy hkn hkr
  have hs3:SxC w3 e (some ⟨b,o+y*g.w*4,none⟩) (g.row y):=by
   refine Sx.sub (hs2.chg hc ?_) Cel.len (y*g.w) g.w _ (.inr (.inr rfl))
   intro b' o' hb' _ hm'
   cases hb'
   simp at hm'
   omega
  have hrl:=hg.row_len hy
  have hw1:=hg.w1
  have hrc:=RG hs3 g.w (by omega)
  rw[hrl] at hrc
  simp -dsimp (disch:=first|omega|(simp only[go_sem,seval];try omega))only[go_sem,seval,By]
  refine OpX.call UH rfl (Calls.ret (hrc) ?_)
  rintro v w4 ⟨rfl,hc4⟩
  have hr4:=hc4.keep hr3 (by simp)
  simp -dsimp (disch:=first|omega|(simp only[go_sem,seval];try omega))only[go_sem,seval]
  refine BrW.by (fun h=>?_) (fun h=>?_)
  ·simp -dsimp (disch:=first|omega|(simp only[go_sem,seval];try omega))only[go_sem,seval,hr4]
   refine hkr _ [w.heap.size+1] ((hc4.mono (by simp)).set _ _ (by simp)) (by simp) ⟨g.right_not hy (by simpa using h),Ar _ _ _ _ rfl (Aa hr4)⟩
  ·refine hkn _ [] hc4 (by simp) ⟨?_,hr4⟩
   intro y' hy'
   by_cases he:y'=y
   ·subst he;simpa using h
   ·exact hi _ (by omega)
 ·rintro y w3 hc3 hd ⟨hi,hr3⟩-h2 -
  have hlt:=Aa hr3
  simp -dsimp (disch:=first|omega|(simp only[go_sem,seval];try omega))only[go_sem,seval,hr3]
  refine EJ (by simp -dsimp (disch:=first|omega|(simp only[go_sem,seval];try omega))only[go_sem,seval,hd]) ?_
  simp -dsimp (disch:=first|omega|(simp only[go_sem,seval];try omega))only[go_sem,seval]
  refine hK _ _ ⟨?_,?_⟩
  ·rw[g.right_of (fun y' hy'=>hi _ (by omega))]
  ·refine(hcw2.trans hc3 (by simp)).set _ _ (.inr (by omega)) |>.set _ _ (.inr (by omega))
 ·rintro w3 hc3 hd ⟨hr,hr3⟩
  refine EJ hd ?_
  simp -dsimp (disch:=first|omega|(simp only[go_sem,seval];try omega))only[go_sem,seval,hr3]
  refine hK _ _ ⟨?_,?_⟩
  ·rw[hr]
  ·refine(hcw2.trans hc3 (by simp)).set _ _ (.inr (by omega))
def GAt (base:Nat) (w:World) (v:Value) (g:Gr):Prop :=
 ∃nb cap sp,v=g.val (some ⟨nb,0,none⟩) cap∧g.cs.length≤cap∧base≤nb∧w.heap[nb]?=some (.cells (g.cs.flatMap Cel.cells++sp).toArray 43)
theorem GAt.chg0 {base:Nat} {w w':World} {v:Value} {g:Gr} (h:GAt base w v g) (hc:Chg [] w w'):GAt base w' v g :=
 let ⟨nb,cap,sp,h1,h2,h3,h4⟩:=h;⟨nb,cap,sp,h1,h2,h3,hc.keep h4 (by simp)⟩
theorem GAt.sx {base:Nat} {w:World} {v:Value} {g:Gr} (h:GAt base w v g):∃nb cap,v=g.val (some ⟨nb,0,none⟩) cap∧g.cs.length≤cap∧base≤nb∧nb<w.heap.size∧SxC w (some 43) (some ⟨nb,0,none⟩) g.cs :=
 let ⟨nb,cap,sp,h1,h2,h3,h4⟩:=h;⟨nb,cap,h1,h2,h3,Aa h4,⟨fun _=>⟨nb,0,_,_,_,[],sp,rfl,h4,by simp [BY],by simp,rfl⟩⟩⟩
def D3 (w:World) (g:Gr) (top fin:Int) (dv:Value) (f:Nat→List Cel):Prop :=
 ∀(y:Nat) (w1:World) (nb:Nat) (pre post:List Value),top≤(y:Int)→(y:Int)<fin→y<g.h→Chg [] w w1→w.heap.size≤nb →
  w1.heap[nb]?=some (.cells (pre++(g.row y).flatMap Cel.cells++post).toArray 43)→pre.length=y*g.w*4 →
  Bd Tryz.prog dv [.int .i64 y,By nb 0 g y] (fun _ w2=>Chg [nb] w1 w2∧w2.heap[nb]?=some (.cells (pre++(f y).flatMap Cel.cells++post).toArray 43)) w1
theorem DP {w:World} {g:Gr} (hg:g.ok) {e:Option TypeId} {a:Option Addr} (hs:SxC w e a g.cs) (cap:Nat) {top fin:Int} (ht:-9223372036854775808≤top) (ht2:top≤9223372036854775807)
  {fn:Fn} {us cs:Array Value} {f:Nat→List Cel} (hdo:D3 w g top fin (.func fn us cs) f) (hf:∀y,y<g.h→top≤(y:Int)→(y:Int)<fin→(f y).length=g.w) :
  Calls Tryz.prog 70 #[g.val a cap,.int .i64 top,.int .i64 fin,.func fn us cs] w (Ac fun v w'=>GAt w.heap.size w' v (g.chg top fin f)∧Chg [] w w'):=by
 have hle:=hg.le
 have h0:=hg.h0
 have h1:=hg.h1
 apply WO
 intro K hK
 unfold N7
 simp -dsimp (disch:=first|omega|(simp only[go_sem,seval];try omega))only[go_sem,seval,Gr.val]
 have hcw:=(((Chg.refl [] w).alloc (Obj.cells #[.int .i64 g.w,.int .i64 g.h,.slice a g.cs.length cap] 38)).alloc (Obj.cells #[.func fn us cs] 151)).alloc (Obj.cells #[.int .i64 0,.int .i64 0,.slice none 0 0] 38)
 generalize hw0:(((w.alloc (Obj.cells #[.int .i64 g.w,.int .i64 g.h,.slice a g.cs.length cap] 38)).alloc (Obj.cells #[.func fn us cs] 151)).alloc (Obj.cells #[.int .i64 0,.int .i64 0,.slice none 0 0] 38))=w0 at *
 have hz:w0.heap.size=w.heap.size+3:=by subst hw0;simp -dsimp (disch:=first|omega|(simp only[go_sem,seval];try omega))only[go_sem,seval]
 have hg0:w0.heap[w.heap.size]?=some (Obj.cells #[.int .i64 g.w,.int .i64 g.h,.slice a g.cs.length cap] 38):=by subst hw0;simp -dsimp (disch:=first|omega|(simp only[go_sem,seval];try omega))only[go_sem,seval]
 have hd0:w0.heap[w.heap.size+1]?=some (Obj.cells #[.func fn us cs] 151):=by subst hw0;simp -dsimp (disch:=first|omega|(simp only[go_sem,seval];try omega))only[go_sem,seval]
 have hr0:w0.heap[w.heap.size+2]?=some (Obj.cells #[.int .i64 0,.int .i64 0,.slice none 0 0] 38):=by subst hw0;simp -dsimp (disch:=first|omega|(simp only[go_sem,seval];try omega))only[go_sem,seval]
 refine OpX.call Ix rfl (Calls.ret (IW (hs.chg0 hcw) cap (by omega)) ?_)
 rintro v w1 ⟨ho,hc1⟩
 obtain⟨nb,cap',sp,rfl,hcap,hnb,hblk⟩:=ho.blk hg.ne
 clear ho
 have hg1:=hc1.keep hg0 (by simp)
 have hd1:=hc1.keep hd0 (by simp)
 have hr1:=hc1.keep hr0 (by simp)
 have hnb1:=Aa hblk
 simp -dsimp (disch:=first|omega|(simp only[go_sem,seval];try omega))only[go_sem,seval,hg1]
 have hb1:w1.heap[nb]?≠none:=by rw[hblk];simp
 have hc2:Chg [] w (Ab w1 w.heap.size (Obj.cells #[.int .i64 g.w,.int .i64 g.h,.slice (some ⟨nb,0,none⟩) g.cs.length cap'] 38)):=(hcw.trans0 hc1).set _ _ (.inr (Nat.le_refl _))
 have hg2:=Ar w1 w.heap.size (Obj.cells #[.int .i64 g.w,.int .i64 g.h,.slice (some ⟨nb,0,none⟩) g.cs.length cap'] 38) w.heap.size rfl (Aa hg1)
 have hd2:=((Chg.refl [w.heap.size] w1).set w.heap.size (Obj.cells #[.int .i64 g.w,.int .i64 g.h,.slice (some ⟨nb,0,none⟩) g.cs.length cap'] 38) (by simp)).keep hd1 (by simp)
 have hr2:=((Chg.refl [w.heap.size] w1).set w.heap.size (Obj.cells #[.int .i64 g.w,.int .i64 g.h,.slice (some ⟨nb,0,none⟩) g.cs.length cap'] 38) (by simp)).keep hr1 (by simp)
 have hb2:=((Chg.refl [w.heap.size] w1).set w.heap.size (Obj.cells #[.int .i64 g.w,.int .i64 g.h,.slice (some ⟨nb,0,none⟩) g.cs.length cap'] 38) (by simp)).keep hblk (by simp;omega)
 generalize hw2:Ab w1 w.heap.size (Obj.cells #[.int .i64 g.w,.int .i64 g.h,.slice (some ⟨nb,0,none⟩) g.cs.length cap'] 38)=w2 at *
 refine OpX.call LY rfl (Calls.ret (On _ g (some ⟨nb,0,none⟩) cap' top fin) ?_)
 rintro v w3 ⟨rfl,hB,hc3,hsz3⟩
 have hc3':=hc2.trans0 hc3
 have hg3:=hc3.keep hg2 (by simp)
 have hd3:=hc3.keep hd2 (by simp)
 have hr3:=hc3.keep hr2 (by simp)
 have hb3:=hc3.keep hb2 (by simp)
 have hlt2:=Aa hb2
 have hlt3:=Aa hb3
 have hRl:∀Y y,y<g.h→(if top≤(y:Int)∧(y:Int)<fin∧y<Y then AK (f y) else g.row y).length=g.w:=by
  intro Y y hy
  split
  ·rename_i h9;rw[Dw,hf y hy h9.1 h9.2.1]
  ·exact hg.row_len hy
 refine PV hg hcap ht ht2 hB [nb] (by simp;omega)
  (fun Y w4=>w4.heap[nb]?=some (Obj.cells ((Bi (fun y=>if top≤(y:Int)∧(y:Int)<fin∧y<Y then AK (f y) else g.row y) g.h).flatMap Cel.cells++sp).toArray 43)) (fun _=>False) ?_ ?_ ?_ ?_ ?_ ?_
 ·intro y w4 w5 h4 hc
  exact hc.keep h4 (by simp;omega)
 ·intro w4 w5 h4 _
  exact h4
 ·rw[hb3,←hg.rows]
  congr 5
  refine Em fun y hy=>?_
  rw[if_neg (by omega)]
 ·intro y kn kr kx w4 hc4 _ hi hy1 hy2 hy3 hkn _
  obtain⟨d,hd⟩:∃d,g.h=y+1+d:=⟨g.h-(y+1),by omega⟩
  obtain⟨post,hp⟩:=HI (fun k=>if top≤(k:Int)∧(k:Int)<fin∧k<y then AK (f k) else g.row k) y d
  have hp1:=hp _ (fun _ _=>rfl)
  have hp2:=hp (fun k=>if top≤(k:Int)∧(k:Int)<fin∧k<y+1 then AK (f k) else g.row k) (fun k hk=>by
   have:(top≤(k:Int)∧(k:Int)<fin∧k<y+1)↔(top≤(k:Int)∧(k:Int)<fin∧k<y):=by omega
   simp only[this])
  rw[←hd] at hp1 hp2
  simp only[Nat.lt_irrefl,and_false,if_false] at hp1
  rw[if_pos (by omega)] at hp2
  have hpl:=Fc (R:=fun k=>if top≤(k:Int)∧(k:Int)<fin∧k<y then AK (f k) else g.row k) (w:=g.w) (h:=y) (fun k hk=>hRl y k (by omega))
  generalize Bi (fun k=>if top≤(k:Int)∧(k:Int)<fin∧k<y then AK (f k) else g.row k) y=pre at hp1 hp2 hpl
  have hpc:(pre.flatMap Cel.cells).length=y*g.w*4:=by rw[Az Cel.len,hpl]
  rw[hp1] at hi
  have hi':w4.heap[nb]?=some (Obj.cells (pre.flatMap Cel.cells++(g.row y).flatMap Cel.cells++(post.flatMap Cel.cells++sp)).toArray 43):=by
   rw[hi];simp
  have hd4:=hc4.keep hd3 (by simp;omega)
  have hw1:=hg.w1
  simp -dsimp (disch:=first|omega|(simp only[go_sem,seval];try omega))only[go_sem,seval,hd4]
  refine(hdo y w4 nb _ _ hy1 hy2 hy3 (hc3'.trans hc4 (by simp;omega)) (by omega) hi' hpc).use ?_
  rintro v w5 ⟨hc5,hb5⟩
  have hs5:SxC w5 (some 43) (some ⟨nb,y*g.w*4,none⟩) (f y):=⟨fun _=>⟨nb,_,_,_,_,_,_,rfl,hb5,by simp [BY],rfl,by omega⟩⟩
  have hmc:=Im hs5 g.w (by rw[hf y hy3 hy1 hy2];omega)
  rw[hf y hy3 hy1 hy2] at hmc
  simp -dsimp (disch:=first|omega|(simp only[go_sem,seval];try omega))only[go_sem,seval,By]
  refine OpX.call HO rfl (Calls.ret (hmc) ?_)
  rintro v w6 ⟨ho6,hc6⟩
  have hml:(AK (f y)).length=g.w:=by rw[Dw,hf y hy3 hy1 hy2]
  have hw0':=hg.w0
  obtain⟨mb,cap6,sp6,rfl,hcap6,hmb,hblk6⟩:=ho6.blk (by intro h;rw[h] at hml;simp at hml;omega)
  rw[hml]
  have hb6:=hc6.keep hb5 (by simp)
  have hs6:SxC w6 (some 43) (some ⟨mb,0,none⟩) (AK (f y)):=⟨fun _=>⟨mb,0,_,_,_,[],_,rfl,hblk6,by simp [BY],rfl,rfl⟩⟩
  refine D9 (new:=(AK (f y)).flatMap Cel.cells) Dz hb6 (by omega) (by rw[Az Cel.len,Az Cel.len,hml,hf y hy3 hy1 hy2]) (by rw[Az Cel.len,hml];simp) (CN Cel.ok _) hs6.cell ?_
  refine hkn _ [nb] (((hc5.trans0 hc6)).set _ _ (by simp)) (by simp) ?_
  rw[Ar _ _ _ _ rfl (Aa hb6),hp2]
  simp
 ·intro y w4 hc4 hd hi h2 h3 h4
  have hg4:=hc4.keep hg3 (by simp;omega)
  have hr4:=hc4.keep hr3 (by simp;omega)
  have hlt:=Aa hr4
  simp -dsimp (disch:=first|omega|(simp only[go_sem,seval];try omega))only[go_sem,seval,hg4,hr4]
  refine EJ (by simp -dsimp (disch:=first|omega|(simp only[go_sem,seval];try omega))only[go_sem,seval,hd]) ?_
  simp -dsimp (disch:=first|omega|(simp only[go_sem,seval];try omega))only[go_sem,seval]
  refine hK _ _ ⟨⟨nb,cap',sp,?_,?_,by omega,?_⟩,?_⟩
  ·show _=Value.agg #[.int .i64 g.w,.int .i64 g.h,.slice _ (g.chg top fin f).cs.length cap']
   rw[Gr.chg_len hg hf]
  ·rw[Gr.chg_len hg hf];exact hcap
  ·rw[AW _ _ _ _ (by omega),AW _ _ _ _ (by omega),hi]
   congr 5
   refine Em fun k hk=>?_
   have:(top≤(k:Int)∧(k:Int)<fin∧k<y)↔(top≤(k:Int)∧(k:Int)<fin):=by omega
   simp only[this]
  ·exact((hc3'.trans hc4 (by simp;omega)).set _ _ (.inr (by omega))).set _ _ (.inr (by omega))
 ·intro w4 _ _ h4
  exact h4.elim
theorem MT {w:World} {b o:Nat} {e:TypeId} {pre post:List Value} {l:List Cel} {i:Nat} (h:w.heap[b]?=some (.cells (pre++l.flatMap Cel.cells++post).toArray e)) (ho:pre.length=o) (hi:i<l.length) (y:Cel) :
  Ax w.heap[b]? (o+i*4) y.cells=some (.cells (pre++(l.set i y).flatMap Cel.cells++post).toArray e):=by
 obtain⟨p,q,h1,h2,h3⟩:=F5 Cel.len l i l[i] y (List.getElem?_eq_getElem hi)
 rw[h,h1,h3]
 have:=Cx (pre++p) (l[i].cells) y.cells (q++post) e (o+i*4) (by simp;omega) rfl
 simpa using this
theorem KX {w:World} {b o n cap:Nat} {e:TypeId} {pre post:List Value} {l:List Cel} (h:w.heap[b]?=some (.cells (pre++l.flatMap Cel.cells++post).toArray e)) (ho:pre.length=o) (hn:l.length=n) (hl:n≤100000) (c:Cel) :
  Calls Tryz.prog 76 #[.slice (some ⟨b,o,none⟩) n cap,c.val] w (Ac fun _ w'=>Chg [b] w w'∧w'.heap[b]?=some (.cells (pre++(AD n fun _=>c).flatMap Cel.cells++post).toArray e)):=by
 have hb:=Aa h
 apply MZ
 intro K hK
 unfold HN
 simp -dsimp (disch:=first|omega|(simp only[go_sem,seval];try omega))only[go_sem,seval]
 refine Loop1.st (fun k:Nat=>.int .i64 k) (fun k w'=>k≤n∧Chg [b] w w'∧w'.heap[w.heap.size]?=some (.cells c.cells.toArray 43)∧∃l',w'.heap[b]?=some (.cells (pre++l'.flatMap Cel.cells++post).toArray e)∧l'.length=n∧∀i,i<k→l'[i]?=some c)
  (fun k=>n-k) 0 rfl ⟨by omega,(Chg.refl _ _).alloc _,(by simp -dsimp (disch:=first|omega|(simp only[go_sem,seval];try omega))only[go_sem,seval]),l,(by simp -dsimp (disch:=first|omega|(simp only[go_sem,seval];try omega))only[go_sem,seval,h]),hn,by simp⟩ ?_
 rintro next k w' hk ⟨h1,hc,hbx,l',h2,h3,h4⟩
 simp -dsimp (disch:=first|omega|(simp only[go_sem,seval];try omega))only[go_sem,seval]
 refine BrW.dec (fun h5=>?_) (fun h5=>?_)
 ·have h6:k<n:=by omega
  have hp:=MT h2 ho (i:=k) (by omega) c
  have hp':Ax w'.heap[b]? (o+k*4) [.int .i32 c.r,.int .u8 c.fg.toNat,.int .u8 c.bg.toNat,.int .u8 c.a.toNat]=some _:=hp
  simp -dsimp (disch:=first|omega|(simp only[go_sem,seval];try omega))only[go_sem,seval,hbx,hp']
  refine hk (k+1) _ ⟨by omega,hc.set _ _ (by simp),?_,l'.set k c,(by rw[Ar _ _ _ _ rfl (Aa h2)];simp),by simpa using h3,?_⟩ (by omega)
  ·rw[AW _ _ _ _ (by omega)];exact hbx
  ·intro i hi
   rw[List.getElem?_set]
   split
   ·rw[if_pos (by omega)]
   ·exact h4 i (by omega)
 ·have h6:k=n:=by omega
  subst h6
  refine hK _ _ ⟨hc,?_⟩
  rw[h2,Hb h3 h4]
theorem Uq (w:World) (a:Option Addr) (cap:Nat) (c:Cel) :
  Calls Tryz.prog 76 #[.slice a 0 cap,c.val] w (Ac fun _ w'=>Chg [] w w'):=by
 apply MZ
 intro K hK
 unfold HN
 simp -dsimp (disch:=first|omega|(simp only[go_sem,seval];try omega))only[go_sem,seval]
 refine Loop1.st (fun k:Nat=>.int .i64 k) (fun k w'=>Chg [] w w') (fun k=>0) 0 rfl ((Chg.refl _ _).alloc _) ?_
 rintro next k w' hk hc
 simp -dsimp (disch:=first|omega|(simp only[go_sem,seval];try omega))only[go_sem,seval]
 refine BrW.dec (fun h5=>?_) (fun h5=>?_)
 ·omega
 ·exact hK _ _ hc
def AI (w:World) (b:Nat) (n:Int):Prop:=w.heap[b]?=some (.cells #[.int .i64 n] 3)
def CV (w:World) (b:Nat) (c:Cel):Prop:=w.heap[b]?=some (.cells c.cells.toArray 43)
theorem ZI {w:World} {g:Gr} (hg:g.ok) {bl br bc:Nat} {left right:Int} {c:Cel} (h1:AI w bl left) (h2:AI w br right) (h3:CV w bc c) (hl:0≤left) (hlr:left≤right) (hr:right≤g.w) (top fin:Int) :
  D3 w g top fin (.func (.func 75) #[] #[.pointer (some ⟨bl,0,none⟩),.pointer (some ⟨br,0,none⟩),.pointer (some ⟨bc,0,none⟩)])
   (fun y=>AD g.w fun x=>if left≤(x:Int)∧(x:Int)<right then c else g.at x y):=by
 intro y w1 nb pre post _ _ hy hc1 hnb hb hpre
 have hw1:=hg.w1
 have k1:=hc1.keep h1 (by simp)
 have k2:=hc1.keep h2 (by simp)
 have k3:=hc1.keep h3 (by simp)
 refine Bd.of (us:=[]) (cs:=[_,_,_]) Rh ?_
 show Calls _ _ #[.int .i64 y,By nb 0 g y,.pointer (some ⟨bl,0,none⟩),.pointer (some ⟨br,0,none⟩),.pointer (some ⟨bc,0,none⟩)] _ _
 obtain⟨L,rfl⟩:=Int.eq_ofNat_of_zero_le hl
 obtain⟨Rt,rfl⟩:=Int.eq_ofNat_of_zero_le (Int.le_trans hl hlr)
 apply Sv
 intro K hK
 unfold Of
 simp -dsimp (disch:=first|omega|(simp only[go_sem,seval];try omega))only[go_sem,seval,k1,k2,k3,By]
 have hrl:=hg.row_len hy
 by_cases hz:Rt-L=0
 ·rw[hz]
  refine OpX.call HE rfl (Calls.ret (Uq _ _ _ c) ?_)
  rintro v w2 hc2
  have hc2':=(Chg.refl [] w1).drew.trans0 hc2
  refine hK _ _ ⟨hc2'.mono (by simp),?_⟩
  rw[hc2'.keep hb (by simp),hg.row_line hy]
  congr 6
  refine CZ fun i hi=>?_
  rw[if_neg (by omega)]
 ·have e1:slo (y*g.w*4) g.w L 4=y*g.w*4+L*4:=by unfold slo;rw[if_neg (by omega)]
  rw[e1]
  have hsp:g.row y=(g.row y).take L++((g.row y).drop L).take (Rt-L)++(g.row y).drop Rt:=by
   have e2:(g.row y).drop Rt=((g.row y).drop L).drop (Rt-L):=by rw[List.drop_drop];congr 1;omega
   rw[e2,List.append_assoc,List.take_append_drop,List.take_append_drop]
  have hb2:w1.drew.heap[nb]?=some (Obj.cells ((pre++((g.row y).take L).flatMap Cel.cells)++(((g.row y).drop L).take (Rt-L)).flatMap Cel.cells++(((g.row y).drop Rt).flatMap Cel.cells++post)).toArray 43):=by
   show w1.heap[nb]?=_
   rw[hb]
   conv=>lhs;rw[hsp]
   simp
  refine OpX.call HE rfl (Calls.ret (KX hb2 (by rw[List.length_append,hpre,Az Cel.len,List.length_take,Nat.min_eq_left (by omega)]) (by simp;omega) (by omega) c) ?_)
  rintro v w2 ⟨hc2,hb3⟩
  refine hK _ _ ⟨(Chg.refl [nb] w1).drew.trans hc2 (by simp),?_⟩
  rw[hb3]
  have:(AD g.w fun x=>if(L:Int)≤(x:Int)∧(x:Int)<(Rt:Int) then c else g.at x y)=(g.row y).take L++(AD (Rt-L) fun _=>c)++(g.row y).drop Rt:=by
   refine(Hb ?_ fun i hi=>?_).symm
   ·simp [AX];omega
   ·by_cases h4:i<L
    ·rw[List.append_assoc,List.getElem?_append_left (by simp;omega),List.getElem?_take_of_lt h4,hg.row_get hi hy,if_neg (by omega)]
    ·by_cases h5:i<Rt
     ·rw[List.getElem?_append_left (by simp [AX];omega),List.getElem?_append_right (by simp;omega),Fp (by simp;omega),if_pos (by omega)]
     ·rw[List.getElem?_append_right (by simp [AX];omega),List.getElem?_drop]
      have:Rt+(i-((g.row y).take L++AD (Rt-L) fun _=>c).length)=i:=by simp [AX];omega
      rw[this,hg.row_get hi hy,if_neg (by omega)]
  dsimp only
  rw[this]
  simp
theorem Iy {w:World} {g:Gr} (hg:g.ok) (hr:g.right=true) {e:Option TypeId} {a:Option Addr} (hs:SxC w e a g.cs) (cap:Nat) (hcap:g.cs.length≤cap) {X Y W H:Int} {c:Cel} (hu:c.usual=true)
  (hX:-9223372036854775808≤X∧X≤9223372036854775807) (hY:-9223372036854775808≤Y∧Y≤9223372036854775807) (hW:W≤9223372036854775807) (hH:H≤9223372036854775807) :
  Calls Tryz.prog 34 #[g.val a cap,.agg #[.int .i64 X,.int .i64 Y,.int .i64 W,.int .i64 H],c.val] w (Ac fun v w'=>GAt w.heap.size w' v (g.fill X Y W H c)∧Chg [] w w'):=by
 have hh1:=hg.h1
 have hw1:=hg.w1
 apply SG
 intro K hK
 unfold LK
 simp -dsimp (disch:=first|omega|(simp only[go_sem,seval];try omega))only[go_sem,seval,Gr.val]
 refine Join1.inl ?_
 simp -dsimp (disch:=first|omega|(simp only[go_sem,seval];try omega))only[go_sem,seval]
 refine OpX.gen fun w0 hw0=>?_
 have hc0:Chg [] w w0:=by rw[hw0];exact Iu _ _ _ _ _
 have hz0:w0.heap.size=w.heap.size+4:=by rw[hw0];simp -dsimp (disch:=first|omega|(simp only[go_sem,seval];try omega))only[go_sem,seval]
 have hg0:w0.heap[w.heap.size]?=some (.cells #[.int .i64 g.w,.int .i64 g.h,.slice a g.cs.length cap] 38):=by rw[hw0];simp -dsimp (disch:=first|omega|(simp only[go_sem,seval];try omega))only[go_sem,seval]
 have hr0:w0.heap[w.heap.size+1]?=some (.cells #[.int .i64 X,.int .i64 Y,.int .i64 W,.int .i64 H] 49):=by rw[hw0];simp -dsimp (disch:=first|omega|(simp only[go_sem,seval];try omega))only[go_sem,seval]
 have hk0:w0.heap[w.heap.size+2]?=some (.cells c.cells.toArray 43):=by rw[hw0];simp -dsimp (disch:=first|omega|(simp only[go_sem,seval];try omega))only[go_sem,seval]
 have ho0:w0.heap[w.heap.size+3]?=some (.cells #[.int .i64 0,.int .i64 0,.slice none 0 0] 38):=by rw[hw0];simp -dsimp (disch:=first|omega|(simp only[go_sem,seval];try omega))only[go_sem,seval]
 clear hw0
 refine OpX.call CI rfl (Calls.ret (CK hg (hs.chg0 hc0) cap hcap) ?_)
 rintro v w1 ⟨rfl,hc1⟩
 rw[hr]
 have hk1:=hc1.keep hk0 (by simp)
 simp -dsimp (disch:=first|omega|(simp only[go_sem,seval];try omega))only[go_sem,seval,hk1]
 refine OpX.call GU rfl (Calls.ret (F2 _ c) ?_)
 rintro v w2 ⟨rfl,hc2⟩
 rw[hu]
 have hc12:=hc1.trans0 hc2
 have hg2:=hc12.keep hg0 (by simp)
 have hr2:=hc12.keep hr0 (by simp)
 simp -dsimp (disch:=first|omega|(simp only[go_sem,seval];try omega))only[go_sem,seval,hg2,hr2]
 refine OpX.call DY rfl (Calls.ret (DJ _ Y H g.h (by omega) (by omega) hY.1 hY.2 hH) ?_)
 rintro v w3 ⟨rfl,rfl⟩
 simp -dsimp (disch:=first|omega|(simp only[go_sem,seval];try omega))only[go_sem,seval,hg2,hr2]
 refine OpX.call DY rfl (Calls.ret (DJ _ X W g.w (by omega) (by omega) hX.1 hX.2 hW) ?_)
 rintro v w4 ⟨rfl,rfl⟩
 have hlt:=Aa hr2
 simp -dsimp (disch:=first|omega|(simp only[go_sem,seval];try omega))only[go_sem,seval,hg2]
 refine OpX.gen fun w5 hw5=>?_
 have hc5:Chg [] w4 w5:=by rw[hw5];exact BI _ _ _
 have hl5:AI w5 w4.heap.size (AN X W g.w).1:=by show w5.heap[_]?=_;rw[hw5];simp -dsimp (disch:=first|omega|(simp only[go_sem,seval];try omega))only[go_sem,seval]
 have hm5:AI w5 (w4.heap.size+1) (AN X W g.w).2:=by show w5.heap[_]?=_;rw[hw5];simp -dsimp (disch:=first|omega|(simp only[go_sem,seval];try omega))only[go_sem,seval]
 have hk5:CV w5 (w.heap.size+2) c:=(hc12.trans0 hc5).keep hk0 (by simp)
 have hc05:=(hc0.trans0 hc12).trans0 hc5
 clear hw5
 have hb1:=DU (x:=X) (n:=W) (size:=g.w) (by omega)
 have hb2:=DU (x:=Y) (n:=H) (size:=g.h) (by omega)
 refine OpX.call DO rfl (Calls.ret (DP hg (hs.chg0 hc05) cap (by omega) (by omega) (ZI hg hl5 hm5 hk5 hb1.1 hb1.2.1 hb1.2.2 _ _) (fun y _ _ _=>AX _ _)) ?_)
 rintro v w6 ⟨hga,hc6⟩
 have hc06:=hc05.trans0 hc6
 have ho6:=((hc12.trans0 hc5).trans0 hc6).keep ho0 (by simp)
 have hlo:=Aa ho6
 have hs5:=hc5.size
 have hs12:=hc12.size
 obtain⟨nb,cap',sp,rfl,k1,k2,k3⟩:=hga
 simp -dsimp (disch:=first|omega|(simp only[go_sem,seval];try omega))only[go_sem,seval,Gr.val,ho6]
 refine hK _ _ ⟨⟨nb,cap',sp,rfl,k1,by omega,?_⟩,hc06.set _ _ (.inr (by omega))⟩
 rw[AW _ _ _ _ (by omega)];exact k3
theorem FW (n:Nat) (h:n≤100000):AQ .and .u64 (n:Int) 4294967295=n:=by
 show IntKind.u64.wrap ((BitVec.ofInt 64 (n:Int) &&& BitVec.ofInt 64 4294967295).toNat:Int)=_
 rw[show BitVec.ofInt 64 (n:Int)=BitVec.ofNat 64 n from BitVec.ofInt_natCast ..]
 rw[BitVec.toNat_and,BitVec.toNat_ofNat,Nat.mod_eq_of_lt (by omega)]
 rw[show(BitVec.ofInt 64 4294967295).toNat=2 ^ 32-1 from rfl,Nat.and_two_pow_sub_one_eq_mod,Nat.mod_eq_of_lt (by omega)]
 exact Hr _ (by omega) (by omega)
theorem Vu (w:World) (n:Nat) (hn:n≤100000):Calls Tryz.prog 234 #[.int .u64 1,.int .u64 n] w (Ac fun v w'=>v=.tuple #[.int .u64 0,.int .u64 n]∧w'=w):=by
 have h1:AQ .and .u64 1 4294967295=1:=FW 1 (by omega)
 have h2:Int.fdiv 1 (2 ^ min 32 64)=0:=by decide
 have h3:(n:Int).fdiv (2 ^ min 32 64)=0:=by
  rw[Int.fdiv_eq_ediv_of_nonneg _ (by decide)]
  exact Int.ediv_eq_zero_of_lt (by omega) (by simp;omega)
 have h4:Int.fdiv 0 (2 ^ min 32 64)=0:=by decide
 have h5:AQ .and .u64 0 4294967295=0:=FW 0 (by omega)
 have h6:IntKind.u64.wrap (n:Int)=n:=Hr _ (by omega) (by omega)
 have h7:IntKind.u64.wrap 0=0:=Hr _ (by omega) (by omega)
 apply Yo
 intro K hK
 unfold NY
 simp -dsimp (disch:=first|omega|(simp only[go_sem,seval];try omega))only[go_sem,seval,h1,h2,h3,h4,FW n hn]
 refine hK _ _ ⟨?_,rfl⟩
 simp only[h1,h2,h3,h4,h5,h6,h7,FW n hn,Int.zero_mul,Int.one_mul,Int.add_zero,Int.zero_add,Int.mul_zero]
theorem YY (w:World) (n:Nat) (hn:n≤100000):Calls Tryz.prog 186 #[.int .u64 1,.int .u64 n] w (Ac fun v w'=>v=.tuple #[.int .u64 0,.int .u64 n]∧w'=w):=by
 apply UA
 intro K hK
 unfold Mj
 refine OpX.call aK rfl (Calls.ret (Vu _ n hn) ?_)
 rintro v w1 ⟨rfl,rfl⟩
 simp -dsimp (disch:=first|omega|(simp only[go_sem,seval];try omega))only[go_sem,seval]
 exact hK _ _ ⟨rfl,rfl⟩
theorem ZB {w:World} {e:Option TypeId} {a:Option Addr} {c:Cel} (hs:SxC w e a [c]) (cap n:Nat) (hn0:0<n) (hn:n≤20000):Calls Tryz.prog 128 #[.slice a 1 cap,.int .i64 n] w
  (Ac fun v w'=>Chg [] w w'∧∃nb,v=.slice (some ⟨nb,0,none⟩) n n∧w.heap.size≤nb∧w'.heap[nb]?=some (.cells ((List.replicate n c).flatMap Cel.cells).toArray 43)):=by
 apply VD
 intro K hK
 unfold PC
 refine Join0.inl ?_
 simp -dsimp (disch:=first|omega|(simp only[go_sem,seval];try omega))only[go_sem,seval]
 refine BrW.dec (fun h=>by omega) (fun h=>?_)
 simp -dsimp (disch:=first|omega|(simp only[go_sem,seval];try omega))only[go_sem,seval]
 refine OpX.call Q9 rfl (Calls.ret (YY _ n (by omega)) ?_)
 rintro v w1 ⟨rfl,rfl⟩
 simp -dsimp (disch:=first|omega|(simp only[go_sem,seval];try omega))only[go_sem,seval]
 refine Join0.inl ?_
 refine Join1.inl ?_
 simp -dsimp (disch:=first|omega|(simp only[go_sem,seval];try omega))only[go_sem,seval]
 refine BrW.dec (fun h=>by omega) (fun h=>?_)
 simp -dsimp (disch:=first|omega|(simp only[go_sem,seval];try omega))only[go_sem,seval]
 refine Gu (f:=Cel.cells) Cel.none EM Cel.len rfl (by omega) (by omega) (by omega) (Nat.le_refl _) ?_
 intro w2 hw2 ho2
 have hc2:Chg [] w1 w2:=by rw[hw2];exact(Chg.refl _ _).alloc _
 have hb2:w2.heap[w1.heap.size]?=some (.cells ([]++(List.replicate 1 Cel.none).flatMap Cel.cells++(List.replicate (n-1) Cel.none).flatMap Cel.cells).toArray 43):=by
  rw[hw2]
  simp -dsimp (disch:=first|omega|(simp only[go_sem,seval];try omega))only[go_sem,seval]
  rw[Kj (f:=Cel.cells) (z:=Cel.none) (zs:=[.int .i32 0,.int .u8 0,.int .u8 0,.int .u8 0]) rfl]
  have:n=1+(n-1):=by omega
  conv=>lhs;rw[this,←List.replicate_append_replicate]
  simp
 obtain⟨b,o,c',e2,fr,pre,post,rfl,k2,k3,k4,k5⟩:=(hs.chg0 hc2).at_ (by simp)
 have hs2:SxC w2 e (some ⟨b,o,none⟩) [c]:=hs.chg0 hc2
 refine D9 (t:=36) (new:=[c].flatMap Cel.cells) Dz hb2 rfl (by simp [Cel.len]) (by simp [Cel.len];omega) (CN Cel.ok _) hs2.cell ?_
 have hmin:min 1 n=1:=by omega
 rw[hmin]
 have hc3:Chg [] w1 (Ab w2 w1.heap.size (.cells ([]++[c].flatMap Cel.cells++(List.replicate (n-1) Cel.none).flatMap Cel.cells).toArray 43)):=hc2.set _ _ (.inr (Nat.le_refl _))
 have hb3:=Ar w2 w1.heap.size (.cells ([]++[c].flatMap Cel.cells++(List.replicate (n-1) Cel.none).flatMap Cel.cells).toArray 43) w1.heap.size rfl (Aa hb2)
 generalize Ab w2 w1.heap.size (.cells ([]++[c].flatMap Cel.cells++(List.replicate (n-1) Cel.none).flatMap Cel.cells).toArray 43)=w3 at hc3 hb3 ⊢
 refine Loop1.st (fun k:Nat=>.int .i64 k) (fun k w'=>0<k∧k≤n∧Chg [] w1 w'∧w'.heap[w1.heap.size]?=some (.cells ((List.replicate k c).flatMap Cel.cells++(List.replicate (n-k) Cel.none).flatMap Cel.cells).toArray 43)) (fun k=>n-k) 1 rfl ⟨by omega,by omega,hc3,by rw[hb3];rfl⟩ ?_
 rintro next k w4 hk ⟨h1,h2,h3,h4⟩
 simp -dsimp (disch:=first|omega|(simp only[go_sem,seval];try omega))only[go_sem,seval]
 refine BrW.dec (fun h5=>?_) (fun h5=>?_)
 ·simp -dsimp (disch:=first|omega|(simp only[go_sem,seval];try omega))only[go_sem,seval]
  have e1:slo 0 n k 4=k*4:=by unfold slo;rw[if_neg (by omega)];omega
  try rw[e1]
  obtain⟨m,hm⟩:∃m,m=min k (n-k):=⟨_,rfl⟩
  have hb5:w4.drew.heap[w1.heap.size]?=some (.cells ((List.replicate k c).flatMap Cel.cells++(List.replicate m Cel.none).flatMap Cel.cells++(List.replicate (n-k-m) Cel.none).flatMap Cel.cells).toArray 43):=by
   show w4.heap[_]?=_
   rw[h4]
   have:n-k=m+(n-k-m):=by omega
   rw[this,←List.replicate_append_replicate,←this]
   simp only[List.flatMap_append,List.append_assoc]
  have hs5:SxC w4.drew (some 43) (some ⟨w1.heap.size,0,none⟩) (List.replicate m c):=by
   refine⟨fun _=>⟨_,0,_,_,_,[],(List.replicate (k-m) c).flatMap Cel.cells++(List.replicate (n-k) Cel.none).flatMap Cel.cells,rfl,h4,by simp [BY],?_,rfl⟩⟩
   have:List.replicate k c=List.replicate m c++List.replicate (k-m) c:=by rw[List.replicate_append_replicate];congr 1;omega
   rw[this]
   simp only[List.flatMap_append,List.append_assoc,List.nil_append]
  refine D9 (new:=(List.replicate m c).flatMap Cel.cells) Dz hb5 (by rw[Az Cel.len];simp) (by rw[Az Cel.len,Az Cel.len];simp) (by rw[Az Cel.len,hm];simp) (CN Cel.ok _) hs5.cell ?_
  rw[←hm]
  simp -dsimp (disch:=first|omega|(simp only[go_sem,seval];try omega))only[go_sem,seval]
  refine hk (k+m) _ ⟨by omega,by omega,(h3.set _ _ (.inr (Nat.le_refl _))).drew,?_⟩ (by omega)
  show(Ab w4 _ _).heap[_]?=_
  rw[Ar _ _ _ _ rfl (Aa h4),←List.replicate_append_replicate,show n-(k+m)=n-k-m by omega]
  simp only[List.flatMap_append,List.append_assoc]
 ·have:k=n:=by omega
  subst this
  refine hK _ _ ⟨h3,_,rfl,Nat.le_refl _,?_⟩
  rw[h4];simp
theorem IE (w:World) (x y:Nat) (c:Cel) (x0:0<x) (x1:x≤200) (y0:0<y) (y1:y≤60):Calls Tryz.prog 67 #[.int .i64 x,.int .i64 y,c.val] w
  (Ac fun v w'=>GAt w.heap.size w' v (Gr.plain x y c)∧Chg [] w w'):=by
 have hm:=Nat.mul_le_mul x1 y1
 have hm0:=Nat.mul_pos x0 y0
 have e1:(x:Int)*(y:Int)=((x*y:Nat):Int):=by simp
 apply Ys
 intro K hK
 unfold OG
 simp -dsimp (disch:=first|omega|(simp only[go_sem,seval];try omega))only[go_sem,seval]
 simp -dsimp (disch:=first|omega|(simp only[go_sem,seval];try omega))only[go_sem,seval,e1]
 refine OpX.gen fun w0 hw0=>?_
 have hc0:Chg [] w w0:=by rw[hw0];exact Fw _ _ _ _
 have hz0:w0.heap.size=w.heap.size+3:=by rw[hw0];simp -dsimp (disch:=first|omega|(simp only[go_sem,seval];try omega))only[go_sem,seval]
 have ho0:w0.heap[w.heap.size+1]?=some (.cells #[.int .i64 0,.int .i64 0,.slice none 0 0] 38):=by rw[hw0];simp -dsimp (disch:=first|omega|(simp only[go_sem,seval];try omega))only[go_sem,seval]
 have hs0:SxC w0 (some 43) (some ⟨w.heap.size+1+1,0,none⟩) [c]:=Sx.built (c:=c.cells) (by rw[hw0];simp -dsimp (disch:=first|omega|(simp only[go_sem,seval];try omega))only[go_sem,seval]) (by simp)
 clear hw0
 refine OpX.call Qy rfl (Calls.ret (ZB hs0 1 (x*y) hm0 (by omega)) ?_)
 rintro v w1 ⟨hc1,nb,rfl,hnb,hb⟩
 have ho1:=hc1.keep ho0 (by simp)
 have hlo:=Aa ho1
 simp -dsimp (disch:=first|omega|(simp only[go_sem,seval];try omega))only[go_sem,seval,ho1]
 refine hK _ _ ⟨⟨nb,x*y,[],?_,by simp [Gr.plain],by omega,?_⟩,(hc0.trans0 hc1).set _ _ (.inr (by omega))⟩
 ·simp [Gr.val,Gr.plain]
 ·rw[AW _ _ _ _ (by omega),hb];simp [Gr.plain]
theorem ER (w:World) (x y:Nat) (x0:0<x) (x1:x≤200) (y0:0<y) (y1:y≤60):Calls Tryz.prog 30 #[.int .i64 x,.int .i64 y] w
  (Ac fun v w'=>GAt w.heap.size w' v (Gr.plain x y Cel.blank)∧Chg [] w w'):=by
 have hf:Cl x y=true:=by unfold Cl;apply decide_eq_true;omega
 apply ZO
 intro K hK
 unfold Ob
 simp -dsimp (disch:=first|omega|(simp only[go_sem,seval];try omega))only[go_sem,seval]
 refine OpX.call I7 rfl (Calls.ret (Hp _ x y) ?_)
 rintro v w1 ⟨rfl,rfl⟩
 simp -dsimp (disch:=first|omega|(simp only[go_sem,seval];try omega))only[go_sem,seval,hf]
 refine OpX.call D5 rfl (Calls.ret (DS _) ?_)
 rintro v w2 ⟨rfl,hc2⟩
 have hc1:=AA w (.cells #[.int .i64 0,.int .i64 0,.slice none 0 0] 38)
 have ho1:(w.alloc (.cells #[.int .i64 0,.int .i64 0,.slice none 0 0] 38)).heap[w.heap.size]?=some (.cells #[.int .i64 0,.int .i64 0,.slice none 0 0] 38):=by simp -dsimp (disch:=first|omega|(simp only[go_sem,seval];try omega))only[go_sem,seval]
 have hc12:=hc1.trans0 hc2
 have ho2:=hc2.keep ho1 (by simp)
 have hlo:=Aa ho2
 refine OpX.call HT rfl (Calls.ret (IE _ x y Cel.blank x0 x1 y0 y1) ?_)
 rintro v w3 ⟨⟨nb,cap',sp,rfl,k1,k2,k3⟩,hc3⟩
 have ho3:=hc3.keep ho2 (by simp)
 have hlo3:=Aa ho3
 simp -dsimp (disch:=first|omega|(simp only[go_sem,seval];try omega))only[go_sem,seval,Gr.val,ho3]
 refine hK _ _ ⟨⟨nb,cap',sp,rfl,k1,by omega,?_⟩,(hc12.trans0 hc3).set _ _ (.inr (by omega))⟩
 rw[AW _ _ _ _ (by omega)];exact k3
theorem GZ {w:World} {b o n:Nat} {e:TypeId} {pre post:List Value} {c:Nat→Cel} {i:Nat} (h:w.heap[b]?=some (.cells (pre++(AD n c).flatMap Cel.cells++post).toArray e)) (ho:pre.length=o) (hi:i<n) (v:Cel) (d:Nat→Cel) (hd:d i=v) (hdc:∀k,k<n→k≠i→d k=c k) :
  Ax w.heap[b]? (o+i*4) [.int .i32 v.r,.int .u8 v.fg.toNat,.int .u8 v.bg.toNat,.int .u8 v.a.toNat]=some (.cells (pre++(AD n d).flatMap Cel.cells++post).toArray e):=by
 rw[←PG hi hd hdc]
 exact MT h ho (by rw[AX];exact hi) v
theorem Ts {w:World} {g:Gr} (hg:g.ok) {bl br bc bx:Nat} {left right X:Int} {e:Option TypeId} {a:Option Addr} {l:List Cel} {cap:Nat} (h1:AI w bl left) (h2:AI w br right) (h3:w.heap[bc]?=some (.cells #[.slice a l.length cap] 36)) (h4:AI w bx X) (hs:SxC w e a l)
  (hl:0≤left) (hr:right≤g.w) (hx:∀i:Int,left≤i→i<right→X≤i∧i<X+l.length) (hX:-1000000≤X) (top fin:Int) :
  D3 w g top fin (.func (.func 77) #[] #[.pointer (some ⟨bl,0,none⟩),.pointer (some ⟨br,0,none⟩),.pointer (some ⟨bc,0,none⟩),.pointer (some ⟨bx,0,none⟩)])
   (fun y=>AD g.w fun x=>if left≤(x:Int)∧(x:Int)<right then l.getD ((x:Int)-X).toNat Cel.none else g.at x y):=by
 intro y w1 nb pre post _ _ hy hc1 hnb hb hpre
 have hw1:=hg.w1
 have k1:=hc1.keep h1 (by simp)
 have k2:=hc1.keep h2 (by simp)
 have k3:=hc1.keep h3 (by simp)
 have k4:=hc1.keep h4 (by simp)
 have n1:=Aa h1
 have n2:=Aa h2
 have n3:=Aa h3
 have n4:=Aa h4
 refine Bd.of (us:=[]) (cs:=[_,_,_,_]) Yj ?_
 show Calls _ _ #[.int .i64 y,By nb 0 g y,.pointer (some ⟨bl,0,none⟩),.pointer (some ⟨br,0,none⟩),.pointer (some ⟨bc,0,none⟩),.pointer (some ⟨bx,0,none⟩)] _ _
 obtain⟨L,rfl⟩:=Int.eq_ofNat_of_zero_le hl
 apply WE
 intro K hK
 unfold KC
 simp -dsimp (disch:=first|omega|(simp only[go_sem,seval];try omega))only[go_sem,seval,k1,By]
 refine Loop1.st (fun k:Nat=>.int .i64 k) (fun k w'=>L≤k∧Chg [nb] w1 w'∧w'.heap[nb]?=some (.cells (pre++(AD g.w fun x=>if(L:Int)≤(x:Int)∧(x:Int)<right∧x<k then l.getD ((x:Int)-X).toNat Cel.none else g.at x y).flatMap Cel.cells++post).toArray 43))
  (fun k=>g.w-k) L rfl ⟨by omega,Chg.refl _ _,?_⟩ ?_
 ·rw[hb,hg.row_line hy]
  congr 6
  refine CZ fun i hi=>?_
  rw[if_neg (by omega)]
 ·rintro next k w' hn ⟨i1,i2,i3⟩
  have m1:=i2.keep k1 (by simp;omega)
  have m2:=i2.keep k2 (by simp;omega)
  have m3:=i2.keep k3 (by simp;omega)
  have m4:=i2.keep k4 (by simp;omega)
  simp -dsimp (disch:=first|omega|(simp only[go_sem,seval];try omega))only[go_sem,seval,m2]
  refine BrW.dec (fun h5=>?_) (fun h5=>?_)
  ·obtain⟨x1,x2⟩:=hx k (by omega) h5
   have hs':SxC w' e a l:=(hs.chg0 hc1).chg i2 (fun b o ha hl hm=>by have:=hs.lt hl ha;simp at hm;omega)
   obtain⟨q,hq⟩:=Int.eq_ofNat_of_zero_le (show 0≤(k:Int)-X by omega)
   have hql:q<l.length:=by omega
   obtain⟨b',o',rfl,hb',h6,-⟩:=SxC.cel hs' (List.getElem?_eq_getElem hql)
   have hp:=GZ i3 hpre (i:=k) (by omega) l[q] (fun x=>if(L:Int)≤(x:Int)∧(x:Int)<right∧x<k+1 then l.getD ((x:Int)-X).toNat Cel.none else g.at x y)
    (by rw[if_pos (by omega),hq];simp [List.getD_eq_getElem?_getD,hql]) (fun j hj hne=>by
     have:((L:Int)≤(j:Int)∧(j:Int)<right∧j<k+1)↔((L:Int)≤(j:Int)∧(j:Int)<right∧j<k):=by omega
     simp only[this])
   simp -dsimp (disch:=first|omega|(simp only[go_sem,seval];try omega))only[go_sem,seval,m3,m4,hq,h6,By,hp]
   refine hn (k+1) _ ⟨by omega,i2.set _ _ (by simp),?_⟩ (by omega)
   rw[Ar _ _ _ _ rfl (Aa i3)]
   simp
  ·refine hK _ _ ⟨i2,?_⟩
   rw[i3]
   congr 6
   refine CZ fun i hi=>?_
   have:((L:Int)≤(i:Int)∧(i:Int)<right∧i<k)↔((L:Int)≤(i:Int)∧(i:Int)<right):=by omega
   simp only[this]
theorem Sc {w:World} {g:Gr} (hg:g.ok) {bn bt be bc bg:Nat} {top' end' N:Int} {e:Option TypeId} {b o cap:Nat} {c:Cel} (h1:AI w bn N) (h2:AI w bt top') (h3:AI w be end') (h4:CV w bc c)
  (h5:w.heap[bg]?=some (.cells #[.int .i64 g.w,.int .i64 g.h,.slice (some ⟨b,o,none⟩) g.cs.length cap] 38)) (hs:SxC w e (some ⟨b,o,none⟩) g.cs) (hcap:g.cs.length≤cap)
  (ht:0≤top') (he:end'≤g.h) (hN:-100≤N∧N≤100) (top fin:Int) :
  D3 w g top fin (.func (.func 273) #[] #[.pointer (some ⟨bn,0,none⟩),.pointer (some ⟨bt,0,none⟩),.pointer (some ⟨be,0,none⟩),.pointer (some ⟨bc,0,none⟩),.pointer (some ⟨bg,0,none⟩)])
   (fun y=>if(y:Int)+N<top'∨end'≤(y:Int)+N then AD g.w fun _=>c else g.row ((y:Int)+N).toNat):=by
 intro y w1 nb pre post _ _ hy hc1 hnb hb hpre
 have hw1:=hg.w1
 have hh1:=hg.h1
 have k1:=hc1.keep h1 (by simp)
 have k2:=hc1.keep h2 (by simp)
 have k3:=hc1.keep h3 (by simp)
 have k4:=hc1.keep h4 (by simp)
 have k5:=hc1.keep h5 (by simp)
 have hrl:=hg.row_len hy
 refine Bd.of (us:=[]) (cs:=[_,_,_,_,_]) WY ?_
 show Calls _ _ #[.int .i64 y,By nb 0 g y,.pointer (some ⟨bn,0,none⟩),.pointer (some ⟨bt,0,none⟩),.pointer (some ⟨be,0,none⟩),.pointer (some ⟨bc,0,none⟩),.pointer (some ⟨bg,0,none⟩)] _ _
 apply XY
 intro K hK
 unfold Pm
 refine Join1.cut (fun v w'=>v=.bool (decide ((y:Int)+N<top'∨end'≤(y:Int)+N))∧w'=w1) ?_ ?_
 ·simp -dsimp (disch:=first|omega|(simp only[go_sem,seval];try omega))only[go_sem,seval,k1,k2,k3]
  refine BrW.dec (fun h=>?_) (fun h=>?_)
  ·exact⟨by simp [h],rfl⟩
  ·simp -dsimp (disch:=first|omega|(simp only[go_sem,seval];try omega))only[go_sem,seval,k1,k2,k3]
   simp [h]
 ·rintro v w2 ⟨rfl,rfl⟩
  refine BrW.dec (fun h=>?_) (fun h=>?_)
  ·simp -dsimp (disch:=first|omega|(simp only[go_sem,seval];try omega))only[go_sem,seval,k4,By]
   refine OpX.call HE rfl (Calls.ret (KX hb (by omega) hrl (by omega) c) ?_)
   rintro v w3 ⟨hc3,hb3⟩
   refine hK _ _ ⟨hc3,?_⟩
   dsimp only
   rw[if_pos h,hb3]
  ·obtain⟨q,hq⟩:=Int.eq_ofNat_of_zero_le (show 0≤(y:Int)+N by omega)
   simp -dsimp (disch:=first|omega|(simp only[go_sem,seval];try omega))only[go_sem,seval,k1,k5,hq]
   refine OpX.call Fu rfl (Calls.ret (EV (w:=w2) hg b o cap hcap q (by omega)) ?_)
   rintro v w3 ⟨rfl,hc3⟩
   have hb3:=hc3.keep hb (by simp)
   have hs3:SxC w3 e (some ⟨b,o+q*g.w*4,none⟩) (g.row q):=Sx.sub ((hs.chg0 hc1).chg0 hc3) Cel.len (q*g.w) g.w _ (.inr (.inr rfl))
   have hql:=hg.row_len (y:=q) (by omega)
   refine D9 (new:=(g.row q).flatMap Cel.cells) Dz hb3 (by omega) (by rw[Az Cel.len,Az Cel.len,hql,hrl]) (by rw[Az Cel.len,hql];simp) (CN Cel.ok _) hs3.cell ?_
   refine hK _ _ ⟨(hc3.mono (by simp)).set _ _ (by simp),?_⟩
   dsimp only
   rw[if_neg h,Ar _ _ _ _ rfl (Aa hb3),hq]
   rfl
theorem Ze {w:World} {g:Gr} (hg:g.ok) {bn bx bc bg:Nat} {X N:Int} {e:Option TypeId} {b o cap:Nat} {c:Cel} (h1:AI w bn N) (h2:AI w bx X) (h4:CV w bc c)
  (h5:w.heap[bg]?=some (.cells #[.int .i64 g.w,.int .i64 g.h,.slice (some ⟨b,o,none⟩) g.cs.length cap] 38)) (hs:SxC w e (some ⟨b,o,none⟩) g.cs) (hcap:g.cs.length≤cap)
  (hX:0≤X∧X≤9223372036854775807) (hN:-1000≤N∧N≤1000) (top fin:Int) :
  D3 w g top fin (.func (.func 271) #[] #[.pointer (some ⟨bg,0,none⟩),.pointer (some ⟨bx,0,none⟩),.pointer (some ⟨bc,0,none⟩),.pointer (some ⟨bn,0,none⟩)])
   (fun y=>AD g.w fun x=>if X≤(x:Int) then(if X≤(x:Int)-N∧(x:Int)-N<g.w then g.at ((x:Int)-N).toNat y else c) else g.at x y):=by
 intro y w1 nb pre post _ _ hy hc1 hnb hb hpre
 have hw1:=hg.w1
 have hh1:=hg.h1
 have k1:=hc1.keep h1 (by simp)
 have k2:=hc1.keep h2 (by simp)
 have k4:=hc1.keep h4 (by simp)
 have k5:=hc1.keep h5 (by simp)
 have n1:=Aa h1
 have n2:=Aa h2
 have n4:=Aa h4
 have n5:=Aa h5
 have hrl:=hg.row_len hy
 obtain⟨L,rfl⟩:=Int.eq_ofNat_of_zero_le hX.1
 refine Bd.of (us:=[]) (cs:=[_,_,_,_]) Sy ?_
 show Calls _ _ #[.int .i64 y,By nb 0 g y,.pointer (some ⟨bg,0,none⟩),.pointer (some ⟨bx,0,none⟩),.pointer (some ⟨bc,0,none⟩),.pointer (some ⟨bn,0,none⟩)] _ _
 apply Wa
 intro K hK
 unfold Od
 simp -dsimp (disch:=first|omega|(simp only[go_sem,seval];try omega))only[go_sem,seval,k5]
 refine OpX.call Fu rfl (Calls.ret (EV (w:=w1) hg b o cap hcap y hy) ?_)
 rintro v w2 ⟨rfl,hc2⟩
 have k2':=hc2.keep k2 (by simp)
 have hb2:=hc2.keep hb (by simp)
 have hs2:SxC w2 e (some ⟨b,o+y*g.w*4,none⟩) (g.row y):=Sx.sub ((hs.chg0 hc1).chg0 hc2) Cel.len (y*g.w) g.w _ (.inr (.inr rfl))
 have hbo:b<w.heap.size:=hs.lt hg.ne rfl
 simp -dsimp (disch:=first|omega|(simp only[go_sem,seval];try omega))only[go_sem,seval,k2']
 refine Loop1.st (fun k:Nat=>.int .i64 k) (fun k w'=>L≤k∧Chg [nb] w1 w'∧w'.heap[nb]?=some (.cells (pre++(AD g.w fun x=>if(L:Int)≤(x:Int)∧x<k then(if(L:Int)≤(x:Int)-N∧(x:Int)-N<g.w then g.at ((x:Int)-N).toNat y else c) else g.at x y).flatMap Cel.cells++post).toArray 43)
   ∧ SxC w' e (some ⟨b,o+y*g.w*4,none⟩) (g.row y))
  (fun k=>g.w-k) L rfl ⟨by omega,hc2.mono (by simp),?_,hs2⟩ ?_
 ·rw[hb2,hg.row_line hy]
  congr 6
  refine CZ fun i hi=>?_
  rw[if_neg (by omega)]
 ·rintro next k w' hn ⟨i1,i2,i3,i4⟩
  have m1:=i2.keep k1 (by simp;omega)
  have m2:=i2.keep k2 (by simp;omega)
  have m4:=i2.keep k4 (by simp;omega)
  have m5:=i2.keep k5 (by simp;omega)
  simp -dsimp (disch:=first|omega|(simp only[go_sem,seval];try omega))only[go_sem,seval,m5]
  refine BrW.dec (fun h5=>?_) (fun h5=>?_)
  ·have hkw:k<g.w:=by omega
   have hp:=GZ i3 hpre (i:=k) hkw c (fun x=>if x=k then c else if(L:Int)≤(x:Int)∧x<k then(if(L:Int)≤(x:Int)-N∧(x:Int)-N<g.w then g.at ((x:Int)-N).toNat y else c) else g.at x y)
    (by rw[if_pos rfl]) (fun j hj hne=>by rw[if_neg hne])
   have hb6:=Ar w' nb (.cells (pre++(AD g.w (fun x=>if x=k then c else if(L:Int)≤(x:Int)∧x<k then(if(L:Int)≤(x:Int)-N∧(x:Int)-N<g.w then g.at ((x:Int)-N).toNat y else c) else g.at x y)).flatMap Cel.cells++post).toArray 43) nb rfl (Aa i3)
   have hc6:=(Chg.refl [nb] w').set nb (.cells (pre++(AD g.w (fun x=>if x=k then c else if(L:Int)≤(x:Int)∧x<k then(if(L:Int)≤(x:Int)-N∧(x:Int)-N<g.w then g.at ((x:Int)-N).toNat y else c) else g.at x y)).flatMap Cel.cells++post).toArray 43) (by simp)
   simp only[List.append_assoc] at hp hb6 hc6
   simp -dsimp (disch:=first|omega|(simp only[go_sem,seval];try omega))only[go_sem,seval,m4,By,hp]
   generalize Ab w' nb _=w6 at hb6 hc6 ⊢
   have p1:=hc6.keep m1 (by simp;omega)
   have p2:=hc6.keep m2 (by simp;omega)
   have p5:=hc6.keep m5 (by simp;omega)
   have i6:=i2.trans hc6 (by simp)
   have hs6:SxC w6 e (some ⟨b,o+y*g.w*4,none⟩) (g.row y):=i4.chg hc6 (fun b' o' ha hl hm=>by cases ha;simp at hm;omega)
   refine Join1.cut (fun v w'=>v=.bool (decide ((L:Int)≤(k:Int)-N∧(k:Int)-N<g.w))∧w'=w6) ?_ ?_
   ·simp -dsimp (disch:=first|omega|(simp only[go_sem,seval];try omega))only[go_sem,seval,p1,p2,p5]
    refine BrW.dec (fun h=>?_) (fun h=>?_)
    ·simp -dsimp (disch:=first|omega|(simp only[go_sem,seval];try omega))only[go_sem,seval,p1,p5]
     simp [h]
    ·exact⟨by simp [h],rfl⟩
   ·rintro v w7 ⟨rfl,rfl⟩
    refine BrW.dec (fun h=>?_) (fun h=>?_)
    ·obtain⟨q,hq⟩:=Int.eq_ofNat_of_zero_le (show 0≤(k:Int)-N by omega)
     have hqw:q<g.w:=by omega
     obtain⟨b',o',hbo',hb',h6,-⟩:=SxC.cel hs6 (hg.row_get hqw hy)
     cases hbo'
     simp only[←List.append_assoc] at hb6
     have hp2:=GZ hb6 hpre (i:=k) hkw (g.at q y) (fun x=>if(L:Int)≤(x:Int)∧x<k+1 then(if(L:Int)≤(x:Int)-N∧(x:Int)-N<g.w then g.at ((x:Int)-N).toNat y else c) else g.at x y)
      (by rw[if_pos (by omega),if_pos h,hq];rfl) (fun j hj hne=>by
       have:((L:Int)≤(j:Int)∧j<k+1)↔((L:Int)≤(j:Int)∧j<k):=by omega
       simp only[this,if_neg hne])
     simp -dsimp (disch:=first|omega|(simp only[go_sem,seval];try omega))only[go_sem,seval,p1,hq,h6,By,hp2]
     refine hn (k+1) _ ⟨by omega,i6.set _ _ (by simp),?_,?_⟩ (by omega)
     ·rw[Ar _ _ _ _ rfl (Aa hb6)]
      simp
     ·exact hs6.chg ((Chg.refl [nb] _).set _ _ (by simp)) (fun b' o' ha hl hm=>by cases ha;simp at hm;omega)
    ·simp -dsimp (disch:=first|omega|(simp only[go_sem,seval];try omega))only[go_sem,seval]
     refine hn (k+1) _ ⟨by omega,i6,?_,hs6⟩ (by omega)
     rw[hb6]
     simp only[←List.append_assoc]
     congr 6
     refine CZ fun j hj=>?_
     by_cases hne:j=k
     ·subst hne
      rw[if_pos rfl,if_pos (by omega),if_neg h]
     ·have:((L:Int)≤(j:Int)∧j<k+1)↔((L:Int)≤(j:Int)∧j<k):=by omega
      simp only[this,if_neg hne]
  ·refine hK _ _ ⟨i2,?_⟩
   rw[i3]
   congr 6
   refine CZ fun i hi=>?_
   have:((L:Int)≤(i:Int)∧i<k)↔((L:Int)≤(i:Int)):=by omega
   simp only[this]
theorem Qd {w:World} {g:Gr} (hg:g.ok) (a:Option Addr) (cap:Nat):Calls Tryz.prog 133 #[g.val a cap] w (Ac fun v w'=>v=.bool true∧Chg [] w w'):=by
 have h0:=hg.w0
 have h1:=hg.h0
 have hd:(g.cs.length:Int).tdiv g.w=g.h:=by
  rw[hg.len]
  have:((g.w*g.h:Nat):Int)=(g.w:Int)*g.h:=by simp
  rw[this,Int.mul_tdiv_cancel_left _ (by omega)]
 have hle:=hg.le
 have hh:=hg.h1
 apply RH
 intro K hK
 unfold Mv
 simp -dsimp (disch:=first|omega|(simp only[go_sem,seval];try omega))only[go_sem,seval,Gr.val]
 refine Join1.cut (fun v w'=>v=.bool true∧Chg [] w w') ?_ ?_
 ·simp -dsimp (disch:=first|omega|(simp only[go_sem,seval];try omega))only[go_sem,seval,hd]
  refine BrW.dec (fun h=>?_) (fun h=>by omega)
  simp -dsimp (disch:=first|omega|(simp only[go_sem,seval];try omega))only[go_sem,seval]
  refine BrW.dec (fun h=>?_) (fun h=>by omega)
  simp -dsimp (disch:=first|omega|(simp only[go_sem,seval];try omega))only[go_sem,seval,hd]
  exact⟨by simp,(AA _ _).drew⟩
 ·rintro v w1 ⟨rfl,hc⟩
  exact hK _ _ ⟨rfl,hc⟩
theorem Ux {w:World} {g:Gr} (hg:g.ok) {e:Option TypeId} {a:Option Addr} (hs:SxC w e a g.cs) (cap:Nat) (x y:Int):Calls Tryz.prog 72 #[g.val a cap,.int .i64 x,.int .i64 y] w
  (Ac fun v w'=>v=(if 0≤y∧y<g.h∧0≤x∧x<g.w then g.at x.toNat y.toNat else Cel.none).val∧Chg [] w w'):=by
 have hw1:=hg.w1
 have hh1:=hg.h1
 apply TA
 intro K hK
 unfold Lb
 simp -dsimp (disch:=first|omega|(simp only[go_sem,seval];try omega))only[go_sem,seval,Gr.val]
 have hc0:=BI w (.cells #[.int .i64 g.w,.int .i64 g.h,.slice a g.cs.length cap] 38) (.cells #[.int .i32 0,.int .u8 0,.int .u8 0,.int .u8 0] 43)
 have hg0:((w.alloc (.cells #[.int .i64 g.w,.int .i64 g.h,.slice a g.cs.length cap] 38)).alloc (.cells #[.int .i32 0,.int .u8 0,.int .u8 0,.int .u8 0] 43)).heap[w.heap.size]?=some (.cells #[.int .i64 g.w,.int .i64 g.h,.slice a g.cs.length cap] 38):=by simp -dsimp (disch:=first|omega|(simp only[go_sem,seval];try omega))only[go_sem,seval]
 have ho0:((w.alloc (.cells #[.int .i64 g.w,.int .i64 g.h,.slice a g.cs.length cap] 38)).alloc (.cells #[.int .i32 0,.int .u8 0,.int .u8 0,.int .u8 0] 43)).heap[w.heap.size+1]?=some (.cells #[.int .i32 0,.int .u8 0,.int .u8 0,.int .u8 0] 43):=by simp -dsimp (disch:=first|omega|(simp only[go_sem,seval];try omega))only[go_sem,seval]
 generalize ((w.alloc (.cells #[.int .i64 g.w,.int .i64 g.h,.slice a g.cs.length cap] 38)).alloc (.cells #[.int .i32 0,.int .u8 0,.int .u8 0,.int .u8 0] 43))=w0 at hc0 hg0 ho0 ⊢
 refine Join1.cut (fun v w'=>v=.bool (!decide (0≤y∧y<g.h∧0≤x∧x<g.w))∧Chg [] w0 w') ?_ ?_
 ·simp -dsimp (disch:=first|omega|(simp only[go_sem,seval];try omega))only[go_sem,seval,hg0]
  refine OpX.call Ms rfl (Calls.ret (Qd hg a cap) ?_)
  rintro v w1 ⟨rfl,hc1⟩
  have hg1:=hc1.keep hg0 (by simp)
  simp -dsimp (disch:=first|omega|(simp only[go_sem,seval];try omega))only[go_sem,seval]
  refine BrW.dec (fun h=>⟨by simp;omega,hc1⟩) (fun h2=>?_)
  simp -dsimp (disch:=first|omega|(simp only[go_sem,seval];try omega))only[go_sem,seval,hg1]
  refine BrW.dec (fun h=>⟨by simp;omega,hc1⟩) (fun h3=>?_)
  simp -dsimp (disch:=first|omega|(simp only[go_sem,seval];try omega))only[go_sem,seval]
  refine BrW.dec (fun h=>⟨by simp;omega,hc1⟩) (fun h4=>?_)
  simp -dsimp (disch:=first|omega|(simp only[go_sem,seval];try omega))only[go_sem,seval,hg1]
  refine⟨?_,hc1⟩
  congr 1
  exact decide_eq_decide.2 (by omega)
 ·rintro v w1 ⟨rfl,hc1⟩
  have hg1:=hc1.keep hg0 (by simp)
  have ho1:=hc1.keep ho0 (by simp)
  have hlo:=Aa ho1
  have hc01:=hc0.trans0 hc1
  by_cases hin:0≤y∧y<g.h∧0≤x∧x<g.w
  ·obtain⟨xn,rfl⟩:=Int.eq_ofNat_of_zero_le hin.2.2.1
   obtain⟨yn,rfl⟩:=Int.eq_ofNat_of_zero_le hin.1
   have hx:xn<g.w:=by omega
   have hy:yn<g.h:=by omega
   have hrl:=hg.row_lt hy
   have hle:=hg.le
   rw[if_pos hin] at hK
   refine BrW.by (fun h=>absurd h (by simp [hin])) (fun _=>?_)
   obtain⟨b',o',rfl,hb',h6,-⟩:=SxC.cel (hs.chg0 hc01) (hg.at_some hx hy)
   have e1:(yn:Int)*(g.w:Int)=((yn*g.w:Nat):Int):=by simp
   have hne:b'≠w.heap.size+1:=by
    have:b'<w.heap.size:=hs.lt hg.ne rfl
    omega
   have e2:((yn*g.w:Nat):Int)+(xn:Int)=((yn*g.w+xn:Nat):Int):=by simp
   simp -dsimp (disch:=first|omega|(simp only[go_sem,seval];try omega))only[go_sem,seval,hg1,e1,e2,h6,ho1]
   refine hK _ _ ⟨rfl,hc01.set _ _ (.inr (by omega))⟩
  ·rw[if_neg hin] at hK
   refine BrW.by (fun _=>?_) (fun h=>absurd h (by simp;omega))
   simp -dsimp (disch:=first|omega|(simp only[go_sem,seval];try omega))only[go_sem,seval,ho1]
   refine hK _ _ ⟨rfl,hc01.set _ _ (.inr (by omega))⟩
theorem XX {w:World} {g f:Gr} (hg:g.ok) (hf:f.ok) {bl br bf bx by_:Nat} {left right X Y:Int} {e:Option TypeId} {a:Option Addr} {cap:Nat} (h1:AI w bl left) (h2:AI w br right)
  (h3:w.heap[bf]?=some (.cells #[.int .i64 f.w,.int .i64 f.h,.slice a f.cs.length cap] 38)) (h4:AI w bx X) (h5:AI w by_ Y) (hs:SxC w e a f.cs)
  (hl:0≤left) (hr:right≤g.w) (hX:-1000000≤X∧X≤1000000) (hY:-1000000≤Y∧Y≤1000000) (top fin:Int) :
  D3 w g top fin (.func (.func 71) #[] #[.pointer (some ⟨bl,0,none⟩),.pointer (some ⟨br,0,none⟩),.pointer (some ⟨bf,0,none⟩),.pointer (some ⟨bx,0,none⟩),.pointer (some ⟨by_,0,none⟩)])
   (fun y=>AD g.w fun x=>if left≤(x:Int)∧(x:Int)<right then(if 0≤(y:Int)-Y∧(y:Int)-Y<f.h∧0≤(x:Int)-X∧(x:Int)-X<f.w then f.at ((x:Int)-X).toNat ((y:Int)-Y).toNat else Cel.none) else g.at x y):=by
 intro y w1 nb pre post _ _ hy hc1 hnb hb hpre
 have hw1:=hg.w1
 have hh1:=hg.h1
 have k1:=hc1.keep h1 (by simp)
 have k2:=hc1.keep h2 (by simp)
 have k3:=hc1.keep h3 (by simp)
 have k4:=hc1.keep h4 (by simp)
 have k5:=hc1.keep h5 (by simp)
 have n1:=Aa h1
 have n2:=Aa h2
 have n3:=Aa h3
 have n4:=Aa h4
 have n5:=Aa h5
 refine Bd.of (us:=[]) (cs:=[_,_,_,_,_]) Uy ?_
 show Calls _ _ #[.int .i64 y,By nb 0 g y,.pointer (some ⟨bl,0,none⟩),.pointer (some ⟨br,0,none⟩),.pointer (some ⟨bf,0,none⟩),.pointer (some ⟨bx,0,none⟩),.pointer (some ⟨by_,0,none⟩)] _ _
 obtain⟨L,rfl⟩:=Int.eq_ofNat_of_zero_le hl
 obtain⟨F,hF⟩:∃F:Nat→Cel,F=fun x:Nat=>(if 0≤(y:Int)-Y∧(y:Int)-Y<f.h∧0≤(x:Int)-X∧(x:Int)-X<f.w then f.at ((x:Int)-X).toNat ((y:Int)-Y).toNat else Cel.none):=⟨_,rfl⟩
 have hFr:(fun x:Nat=>if(L:Int)≤(x:Int)∧(x:Int)<right then(if 0≤(y:Int)-Y∧(y:Int)-Y<f.h∧0≤(x:Int)-X∧(x:Int)-X<f.w then f.at ((x:Int)-X).toNat ((y:Int)-Y).toNat else Cel.none) else g.at x y)=fun x:Nat=>if(L:Int)≤(x:Int)∧(x:Int)<right then F x else g.at x y:=by rw[hF]
 dsimp only
 rw[hFr]
 apply RQ
 intro K hK
 unfold NB
 simp -dsimp (disch:=first|omega|(simp only[go_sem,seval];try omega))only[go_sem,seval,k1,By]
 refine Loop1.st (fun k:Nat=>.int .i64 k) (fun k w'=>L≤k∧Chg [nb] w1 w'∧w'.heap[nb]?=some (.cells (pre++(AD g.w fun x=>if(L:Int)≤(x:Int)∧(x:Int)<right∧x<k then F x else g.at x y).flatMap Cel.cells++post).toArray 43))
  (fun k=>g.w-k) L rfl ⟨by omega,Chg.refl _ _,?_⟩ ?_
 ·rw[hb,hg.row_line hy]
  congr 6
  refine CZ fun i hi=>?_
  rw[if_neg (by omega)]
 ·rintro next k w' hn ⟨i1,i2,i3⟩
  have m1:=i2.keep k1 (by simp;omega)
  have m2:=i2.keep k2 (by simp;omega)
  have m3:=i2.keep k3 (by simp;omega)
  have m4:=i2.keep k4 (by simp;omega)
  have m5:=i2.keep k5 (by simp;omega)
  simp -dsimp (disch:=first|omega|(simp only[go_sem,seval];try omega))only[go_sem,seval,m2]
  refine BrW.dec (fun h5=>?_) (fun h5=>?_)
  ·have hs':SxC w' e a f.cs:=(hs.chg0 hc1).chg i2 (fun b o ha hl hm=>by have:=hs.lt hl ha;simp at hm;omega)
   simp -dsimp (disch:=first|omega|(simp only[go_sem,seval];try omega))only[go_sem,seval,m3,m4,m5]
   refine OpX.call Ue rfl (Calls.ret (Ux hf hs' cap ((k:Int)-X) ((y:Int)-Y)) ?_)
   rintro v w2 ⟨rfl,hc2⟩
   rw[show(if 0≤(y:Int)-Y∧(y:Int)-Y<f.h∧0≤(k:Int)-X∧(k:Int)-X<f.w then f.at ((k:Int)-X).toNat ((y:Int)-Y).toNat else Cel.none)=F k by rw[hF]]
   have i3':=hc2.keep i3 (by simp)
   have hp:=GZ i3' hpre (i:=k) (by omega) (F k) (fun x=>if(L:Int)≤(x:Int)∧(x:Int)<right∧x<k+1 then F x else g.at x y)
    (by rw[if_pos (by omega)]) (fun j hj hne=>by
     have:((L:Int)≤(j:Int)∧(j:Int)<right∧j<k+1)↔((L:Int)≤(j:Int)∧(j:Int)<right∧j<k):=by omega
     simp only[this])
   simp -dsimp (disch:=first|omega|(simp only[go_sem,seval];try omega))only[go_sem,seval,By,hp]
   refine hn (k+1) _ ⟨by omega,(i2.trans0 hc2).set _ _ (by simp),?_⟩ (by omega)
   rw[Ar _ _ _ _ rfl (Aa i3')]
   simp
  ·refine hK _ _ ⟨i2,?_⟩
   rw[i3]
   congr 6
   refine CZ fun i hi=>?_
   have:((L:Int)≤(i:Int)∧(i:Int)<right∧i<k)↔((L:Int)≤(i:Int)∧(i:Int)<right):=by omega
   simp only[this]
theorem Kr {w:World} {g G:Gr} (hg:g.ok) (hG:G.ok) {bg:Nat} {e:Option TypeId} {b o cap:Nat}
  (h5:w.heap[bg]?=some (.cells #[.int .i64 g.w,.int .i64 g.h,.slice (some ⟨b,o,none⟩) g.cs.length cap] 38)) (hs:SxC w e (some ⟨b,o,none⟩) g.cs) (hcap:g.cs.length≤cap) (top fin:Int) (hfin:fin≤g.h) :
  D3 w G top fin (.func (.func 248) #[] #[.pointer (some ⟨bg,0,none⟩)])
   (fun y=>AD G.w fun x=>if x<g.w then g.at x y else G.at x y):=by
 intro y w1 nb pre post _ hfy hy hc1 hnb hb hpre
 have hw1:=hg.w1
 have hW1:=hG.w1
 have hw0:=hg.w0
 have hyg:y<g.h:=by omega
 have k5:=hc1.keep h5 (by simp)
 refine Bd.of (us:=[]) (cs:=[_]) X9 ?_
 show Calls _ _ #[.int .i64 y,By nb 0 G y,.pointer (some ⟨bg,0,none⟩)] _ _
 apply Ui
 intro K hK
 unfold K8
 simp -dsimp (disch:=first|omega|(simp only[go_sem,seval];try omega))only[go_sem,seval,k5]
 refine OpX.call Fu rfl (Calls.ret (EV (w:=w1) hg b o cap hcap y hyg) ?_)
 rintro v w2 ⟨rfl,hc2⟩
 have hb2:=hc2.keep hb (by simp)
 have hs2:SxC w2 e (some ⟨b,o+y*g.w*4,none⟩) (g.row y):=Sx.sub ((hs.chg0 hc1).chg0 hc2) Cel.len (y*g.w) g.w _ (.inr (.inr rfl))
 have hrl:=hg.row_len hyg
 have hRl:=hG.row_len hy
 have hb3:w2.heap[nb]?=some (.cells (pre++((G.row y).take g.w).flatMap Cel.cells++(((G.row y).drop g.w).flatMap Cel.cells++post)).toArray 43):=by
  rw[hb2]
  conv=>lhs;rw[←List.take_append_drop g.w (G.row y)]
  simp only[List.flatMap_append,List.append_assoc]
 have hs3:SxC w2 e (some ⟨b,o+y*g.w*4,none⟩) ((g.row y).take G.w):=by
  have:=hs2.sub Cel.len 0 G.w (some ⟨b,o+y*g.w*4,none⟩) (.inr (.inr (by simp)))
  simpa using this
 refine D9 (new:=((g.row y).take G.w).flatMap Cel.cells) Dz hb3 (by omega) (by rw[Az Cel.len,Az Cel.len];simp;omega) (by rw[Az Cel.len];simp;omega) (CN Cel.ok _) hs3.cell ?_
 refine hK _ _ ⟨(hc2.mono (by simp)).set _ _ (by simp),?_⟩
 rw[Ar _ _ _ _ rfl (Aa hb3)]
 have:(AD G.w fun x=>if x<g.w then g.at x y else G.at x y)=(g.row y).take G.w++(G.row y).drop g.w:=by
  refine(Hb (by simp;omega) fun i hi=>?_).symm
  by_cases h4:i<g.w
  ·rw[List.getElem?_append_left (by simp;omega),List.getElem?_take_of_lt hi,hg.row_get h4 hyg,if_pos h4]
  ·rw[List.getElem?_append_right (by simp;omega),List.getElem?_drop]
   have:g.w+(i-((g.row y).take G.w).length)=i:=by simp;omega
   rw[this,hG.row_get hi hy,if_neg h4]
 dsimp only
 rw[this]
 simp only[List.flatMap_append,List.append_assoc]
theorem Jx {w:World} {g:Gr} (hg:g.ok) (hr:g.right=true) {e e':Option TypeId} {a a':Option Addr} (hs:SxC w e a g.cs) (cap:Nat) (hcap:g.cs.length≤cap) {X Y:Int} {l:List Cel} (hl:SxC w e' a' l) (cap':Nat) (hll:l.length≤100000)
  (hX:-1000000≤X∧X≤1000000) (hY:-9223372036854775808≤Y∧Y≤9223372036854775807) :
  Calls Tryz.prog 35 #[g.val a cap,.int .i64 X,.int .i64 Y,.slice a' l.length cap'] w (Ac fun v w'=>GAt w.heap.size w' v (g.put X Y l)∧Chg [] w w'):=by
 have hh1:=hg.h1
 have hw1:=hg.w1
 apply Um
 intro K hK
 unfold LF
 simp -dsimp (disch:=first|omega|(simp only[go_sem,seval];try omega))only[go_sem,seval,Gr.val]
 refine OpX.gen fun w0 hw0=>?_
 have hc0:Chg [] w w0:=by rw[hw0];exact Iu _ _ _ _ _
 have hz0:w0.heap.size=w.heap.size+4:=by rw[hw0];simp -dsimp (disch:=first|omega|(simp only[go_sem,seval];try omega))only[go_sem,seval]
 have hg0:w0.heap[w.heap.size]?=some (.cells #[.int .i64 g.w,.int .i64 g.h,.slice a g.cs.length cap] 38):=by rw[hw0];simp -dsimp (disch:=first|omega|(simp only[go_sem,seval];try omega))only[go_sem,seval]
 have hx0:AI w0 (w.heap.size+1) X:=by show w0.heap[_]?=_;rw[hw0];simp -dsimp (disch:=first|omega|(simp only[go_sem,seval];try omega))only[go_sem,seval]
 have hk0:w0.heap[w.heap.size+2]?=some (.cells #[.slice a' l.length cap'] 36):=by rw[hw0];simp -dsimp (disch:=first|omega|(simp only[go_sem,seval];try omega))only[go_sem,seval]
 have ho0:w0.heap[w.heap.size+3]?=some (.cells #[.int .i64 0,.int .i64 0,.slice none 0 0] 38):=by rw[hw0];simp -dsimp (disch:=first|omega|(simp only[go_sem,seval];try omega))only[go_sem,seval]
 clear hw0
 refine OpX.call CI rfl (Calls.ret (CK hg (hs.chg0 hc0) cap hcap) ?_)
 rintro v w1 ⟨rfl,hc1⟩
 rw[hr]
 have hg1:=hc1.keep hg0 (by simp)
 have hx1:w1.heap[w.heap.size+1]?=some _:=hc1.keep hx0 (by simp)
 have hk1:=hc1.keep hk0 (by simp)
 simp -dsimp (disch:=first|omega|(simp only[go_sem,seval];try omega))only[go_sem,seval,hg1]
 refine OpX.call DY rfl (Calls.ret (DJ _ Y 1 g.h (by omega) (by omega) hY.1 hY.2 (by omega)) ?_)
 rintro v w2 ⟨rfl,rfl⟩
 simp -dsimp (disch:=first|omega|(simp only[go_sem,seval];try omega))only[go_sem,seval,hg1,hx1,hk1]
 refine OpX.call DY rfl (Calls.ret (DJ _ X l.length g.w (by omega) (by omega) (by omega) (by omega) (by omega)) ?_)
 rintro v w4 ⟨rfl,rfl⟩
 have hlt:=Aa hk1
 simp -dsimp (disch:=first|omega|(simp only[go_sem,seval];try omega))only[go_sem,seval,hg1]
 refine OpX.gen fun w5 hw5=>?_
 have hc5:Chg [] w4 w5:=by rw[hw5];exact BI _ _ _
 have hl5:AI w5 w4.heap.size (AN X l.length g.w).1:=by show w5.heap[_]?=_;rw[hw5];simp -dsimp (disch:=first|omega|(simp only[go_sem,seval];try omega))only[go_sem,seval]
 have hm5:AI w5 (w4.heap.size+1) (AN X l.length g.w).2:=by show w5.heap[_]?=_;rw[hw5];simp -dsimp (disch:=first|omega|(simp only[go_sem,seval];try omega))only[go_sem,seval]
 have hk5:=hc5.keep hk1 (by simp)
 have hx5:AI w5 (w.heap.size+1) X:=hc5.keep hx1 (by simp)
 have hc05:=(hc0.trans0 hc1).trans0 hc5
 clear hw5
 have hb1:=DU (x:=X) (n:=l.length) (size:=g.w) (by omega)
 have hb2:=DU (x:=Y) (n:=1) (size:=g.h) (by omega)
 refine OpX.call DO rfl (Calls.ret (DP hg (hs.chg0 hc05) cap (by omega) (by omega) (Ts hg hl5 hm5 hk5 hx5 (hl.chg0 hc05) hb1.1 hb1.2.2 (fun i h1 h2=>(NR (by omega) (by omega)).1 ⟨h1,h2⟩) hX.1 _ _) (fun y _ _ _=>AX _ _)) ?_)
 rintro v w6 ⟨hga,hc6⟩
 have hc06:=hc05.trans0 hc6
 have ho6:=((hc1.trans0 hc5).trans0 hc6).keep ho0 (by simp)
 have hlo:=Aa ho6
 have hs5:=hc5.size
 have hs12:=hc1.size
 obtain⟨nb,cap',sp,rfl,k1,k2,k3⟩:=hga
 simp -dsimp (disch:=first|omega|(simp only[go_sem,seval];try omega))only[go_sem,seval,Gr.val,ho6]
 refine hK _ _ ⟨⟨nb,cap',sp,rfl,k1,by omega,?_⟩,hc06.set _ _ (.inr (by omega))⟩
 rw[AW _ _ _ _ (by omega)];exact k3
theorem X3 {w:World} {g:Gr} (hg:g.ok) (hr:g.right=true) {e:Option TypeId} {a:Option Addr} (hs:SxC w e a g.cs) (cap:Nat) (hcap:g.cs.length≤cap) {T E N:Int} {c:Cel} (hu:c.usual=true) :
  Calls Tryz.prog 266 #[g.val a cap,.int .i64 T,.int .i64 E,.int .i64 N,c.val] w (Ac fun v w'=>GAt w.heap.size w' v (g.scroll T E N c)∧Chg [] w w'):=by
 have hh1:=hg.h1
 have hw1:=hg.w1
 obtain⟨b,o,_,_,_,_,_,rfl,hb0,_⟩:=hs.at_ hg.ne
 have hb0':=Aa hb0
 clear hb0
 apply YZ
 intro K hK
 unfold JP
 simp -dsimp (disch:=first|omega|(simp only[go_sem,seval];try omega))only[go_sem,seval,Gr.val]
 refine Join1.inl ?_
 simp -dsimp (disch:=first|omega|(simp only[go_sem,seval];try omega))only[go_sem,seval]
 refine OpX.gen fun w0 hw0=>?_
 have hc0:Chg [] w w0:=by rw[hw0];exact Y7 _ _ _ _ _ _ _
 have hz0:w0.heap.size=w.heap.size+6:=by rw[hw0];simp -dsimp (disch:=first|omega|(simp only[go_sem,seval];try omega))only[go_sem,seval]
 have hg0:w0.heap[w.heap.size]?=some (.cells #[.int .i64 g.w,.int .i64 g.h,.slice (some ⟨b,o,none⟩) g.cs.length cap] 38):=by rw[hw0];simp -dsimp (disch:=first|omega|(simp only[go_sem,seval];try omega))only[go_sem,seval]
 have ht0:AI w0 (w.heap.size+1) T:=by show w0.heap[_]?=_;rw[hw0];simp -dsimp (disch:=first|omega|(simp only[go_sem,seval];try omega))only[go_sem,seval]
 have he0:AI w0 (w.heap.size+2) E:=by show w0.heap[_]?=_;rw[hw0];simp -dsimp (disch:=first|omega|(simp only[go_sem,seval];try omega))only[go_sem,seval]
 have hn0:AI w0 (w.heap.size+3) N:=by show w0.heap[_]?=_;rw[hw0];simp -dsimp (disch:=first|omega|(simp only[go_sem,seval];try omega))only[go_sem,seval]
 have hk0:CV w0 (w.heap.size+4) c:=by show w0.heap[_]?=_;rw[hw0];simp -dsimp (disch:=first|omega|(simp only[go_sem,seval];try omega))only[go_sem,seval]
 have ho0:w0.heap[w.heap.size+5]?=some (.cells #[.int .i64 0,.int .i64 0,.slice none 0 0] 38):=by rw[hw0];simp -dsimp (disch:=first|omega|(simp only[go_sem,seval];try omega))only[go_sem,seval]
 clear hw0
 refine OpX.call CI rfl (Calls.ret (CK hg (hs.chg0 hc0) cap hcap) ?_)
 rintro v w1 ⟨rfl,hc1⟩
 rw[hr]
 have hk1:=hc1.keep hk0 (by simp)
 simp -dsimp (disch:=first|omega|(simp only[go_sem,seval];try omega))only[go_sem,seval,hk1]
 refine OpX.call GU rfl (Calls.ret (F2 _ c) ?_)
 rintro v w2 ⟨rfl,hc2⟩
 rw[hu]
 have hc12:=hc1.trans0 hc2
 have hg2:=hc12.keep hg0 (by simp)
 have ht2:w2.heap[w.heap.size+1]?=some _:=hc12.keep ht0 (by simp)
 have he2:w2.heap[w.heap.size+2]?=some _:=hc12.keep he0 (by simp)
 have hn2:w2.heap[w.heap.size+3]?=some _:=hc12.keep hn0 (by simp)
 have hlt:=Aa hn2
 have hsz:=hc12.size
 simp -dsimp (disch:=first|omega|(simp only[go_sem,seval];try omega))only[go_sem,seval,hg2,ht2,he2,hn2]
 have hlk:=Aa (hc12.keep hk0 (by simp))
 have hgk:=Aa hg2
 have hk2:=hc12.keep hk0 (by simp)
 have ho2:=hc12.keep ho0 (by simp)
 have hc02:=hc0.trans0 hc12
 refine OpX.gen fun w5 hw5=>?_
 have hc5:Chg [] w w5:=by rw[hw5];exact(((hc02.set _ _ (.inr (by omega))).set _ _ (.inr (by omega))).set _ _ (.inr (by omega))).drew
 have hg5:w5.heap[w.heap.size]?=some (.cells #[.int .i64 g.w,.int .i64 g.h,.slice (some ⟨b,o,none⟩) g.cs.length cap] 38):=by rw[hw5];simp -dsimp (disch:=first|omega|(simp only[go_sem,seval];try omega))only[go_sem,seval,hg2]
 have ht5:AI w5 (w.heap.size+1) (min (max T 0) g.h):=by show w5.heap[_]?=_;rw[hw5];simp -dsimp (disch:=first|omega|(simp only[go_sem,seval];try omega))only[go_sem,seval]
 have he5:AI w5 (w.heap.size+1+1) (min (max E 0) g.h):=by show w5.heap[_]?=_;rw[hw5];simp -dsimp (disch:=first|omega|(simp only[go_sem,seval];try omega))only[go_sem,seval]
 have hn5:AI w5 (w.heap.size+1+1+1) (min (max N (-g.h)) g.h):=by show w5.heap[_]?=_;rw[hw5];simp -dsimp (disch:=first|omega|(simp only[go_sem,seval];try omega))only[go_sem,seval]
 have hk5:CV w5 (w.heap.size+1+1+1+1) c:=by show w5.heap[_]?=_;rw[hw5];simp -dsimp (disch:=first|omega|(simp only[go_sem,seval];try omega))only[go_sem,seval,hk2]
 have ho5:w5.heap[w.heap.size+5]?=some (.cells #[.int .i64 0,.int .i64 0,.slice none 0 0] 38):=by rw[hw5];simp -dsimp (disch:=first|omega|(simp only[go_sem,seval];try omega))only[go_sem,seval,ho2]
 clear hw5
 have hfl:=hg.scrollF_len (N:=min (max N (-g.h)) g.h) (c:=c) (show 0≤min (max T 0) g.h by omega) (show min (max E 0) g.h≤g.h by omega)
 refine OpX.call DO rfl (Calls.ret (DP hg (hs.chg0 hc5) cap (by omega) (by omega) (Sc hg hn5 ht5 he5 hk5 hg5 (hs.chg0 hc5) hcap (by omega) (by omega) (by omega) _ _) (fun y h1 h2 h3=>hfl y)) ?_)
 rintro v w6 ⟨hga,hc6⟩
 have hc06:=hc5.trans0 hc6
 have ho6:=hc6.keep ho5 (by simp)
 have hs5:=Aa ho5
 have hs6:=hc6.size
 have hlo:=Aa ho6
 obtain⟨nb,cap',sp,rfl,k1,k2,k3⟩:=hga
 simp -dsimp (disch:=first|omega|(simp only[go_sem,seval];try omega))only[go_sem,seval,Gr.val,ho6]
 refine hK _ _ ⟨⟨nb,cap',sp,rfl,k1,by omega,?_⟩,hc06.set _ _ (.inr (by omega))⟩
 rw[AW _ _ _ _ (by omega)];exact k3
theorem VQ {w:World} {g:Gr} (hg:g.ok) (hr:g.right=true) {e:Option TypeId} {a:Option Addr} (hs:SxC w e a g.cs) (cap:Nat) (hcap:g.cs.length≤cap) {X Y N:Int} {c:Cel} (hu:c.usual=true)
  (hX:X≤9223372036854775807) (hY:-9223372036854775808≤Y∧Y≤9223372036854775807) :
  Calls Tryz.prog 256 #[g.val a cap,.int .i64 X,.int .i64 Y,.int .i64 N,c.val] w (Ac fun v w'=>GAt w.heap.size w' v (g.shift X Y N c)∧Chg [] w w'):=by
 have hh1:=hg.h1
 have hw1:=hg.w1
 obtain⟨b,o,_,_,_,_,_,rfl,hb0,_⟩:=hs.at_ hg.ne
 have hb0':=Aa hb0
 clear hb0
 apply aF
 intro K hK
 unfold JB
 simp -dsimp (disch:=first|omega|(simp only[go_sem,seval];try omega))only[go_sem,seval,Gr.val]
 refine Join1.inl ?_
 simp -dsimp (disch:=first|omega|(simp only[go_sem,seval];try omega))only[go_sem,seval]
 refine OpX.gen fun w0 hw0=>?_
 have hc0:Chg [] w w0:=by rw[hw0];exact HZ _ _ _ _ _ _
 have hz0:w0.heap.size=w.heap.size+5:=by rw[hw0];simp -dsimp (disch:=first|omega|(simp only[go_sem,seval];try omega))only[go_sem,seval]
 have hg0:w0.heap[w.heap.size]?=some (.cells #[.int .i64 g.w,.int .i64 g.h,.slice (some ⟨b,o,none⟩) g.cs.length cap] 38):=by rw[hw0];simp -dsimp (disch:=first|omega|(simp only[go_sem,seval];try omega))only[go_sem,seval]
 have hx0:AI w0 (w.heap.size+1) X:=by show w0.heap[_]?=_;rw[hw0];simp -dsimp (disch:=first|omega|(simp only[go_sem,seval];try omega))only[go_sem,seval]
 have hn0:AI w0 (w.heap.size+2) N:=by show w0.heap[_]?=_;rw[hw0];simp -dsimp (disch:=first|omega|(simp only[go_sem,seval];try omega))only[go_sem,seval]
 have hk0:CV w0 (w.heap.size+3) c:=by show w0.heap[_]?=_;rw[hw0];simp -dsimp (disch:=first|omega|(simp only[go_sem,seval];try omega))only[go_sem,seval]
 have ho0:w0.heap[w.heap.size+4]?=some (.cells #[.int .i64 0,.int .i64 0,.slice none 0 0] 38):=by rw[hw0];simp -dsimp (disch:=first|omega|(simp only[go_sem,seval];try omega))only[go_sem,seval]
 clear hw0
 refine OpX.call CI rfl (Calls.ret (CK hg (hs.chg0 hc0) cap hcap) ?_)
 rintro v w1 ⟨rfl,hc1⟩
 rw[hr]
 have hk1:=hc1.keep hk0 (by simp)
 simp -dsimp (disch:=first|omega|(simp only[go_sem,seval];try omega))only[go_sem,seval,hk1]
 refine OpX.call GU rfl (Calls.ret (F2 _ c) ?_)
 rintro v w2 ⟨rfl,hc2⟩
 rw[hu]
 have hc12:=hc1.trans0 hc2
 have hg2:=hc12.keep hg0 (by simp)
 have hx2:w2.heap[w.heap.size+1]?=some _:=hc12.keep hx0 (by simp)
 have hn2:w2.heap[w.heap.size+2]?=some _:=hc12.keep hn0 (by simp)
 have hk2:=hc12.keep hk0 (by simp)
 have ho2:=hc12.keep ho0 (by simp)
 have hlt:=Aa ho2
 have hsz:=hc12.size
 have hc02:=hc0.trans0 hc12
 simp -dsimp (disch:=first|omega|(simp only[go_sem,seval];try omega))only[go_sem,seval,hg2,hx2,hn2]
 refine OpX.gen fun w5 hw5=>?_
 have hc5:Chg [] w w5:=by rw[hw5];exact(((hc02.set _ _ (.inr (by omega))).set _ _ (.inr (by omega)))).drew
 have hg5:w5.heap[w.heap.size]?=some (.cells #[.int .i64 g.w,.int .i64 g.h,.slice (some ⟨b,o,none⟩) g.cs.length cap] 38):=by rw[hw5];simp -dsimp (disch:=first|omega|(simp only[go_sem,seval];try omega))only[go_sem,seval,hg2]
 have hx5:AI w5 (w.heap.size+1) (max X 0):=by show w5.heap[_]?=_;rw[hw5];simp -dsimp (disch:=first|omega|(simp only[go_sem,seval];try omega))only[go_sem,seval]
 have hn5:AI w5 (w.heap.size+1+1) (min (max N (-g.w)) g.w):=by show w5.heap[_]?=_;rw[hw5];simp -dsimp (disch:=first|omega|(simp only[go_sem,seval];try omega))only[go_sem,seval]
 have hk5:CV w5 (w.heap.size+1+1+1) c:=by show w5.heap[_]?=_;rw[hw5];simp -dsimp (disch:=first|omega|(simp only[go_sem,seval];try omega))only[go_sem,seval,hk2]
 have ho5:w5.heap[w.heap.size+4]?=some (.cells #[.int .i64 0,.int .i64 0,.slice none 0 0] 38):=by rw[hw5];simp -dsimp (disch:=first|omega|(simp only[go_sem,seval];try omega))only[go_sem,seval,ho2]
 clear hw5
 refine OpX.call DY rfl (Calls.ret (DJ _ Y 1 g.h (by omega) (by omega) hY.1 hY.2 (by omega)) ?_)
 rintro v w7 ⟨rfl,rfl⟩
 have hb2:=DU (x:=Y) (n:=1) (size:=g.h) (by omega)
 simp -dsimp (disch:=first|omega|(simp only[go_sem,seval];try omega))only[go_sem,seval,hg5]
 refine OpX.call DO rfl (Calls.ret (DP hg (hs.chg0 hc5) cap (by omega) (by omega) (Ze hg hn5 hx5 hk5 hg5 (hs.chg0 hc5) hcap (by omega) (by omega) _ _) (fun y h1 h2 h3=>AX _ _)) ?_)
 rintro v w6 ⟨hga,hc6⟩
 have hc06:=hc5.trans0 hc6
 have ho6:=hc6.keep ho5 (by simp)
 have hs5:=Aa ho5
 have hs6:=hc6.size
 have hlo:=Aa ho6
 obtain⟨nb,cap',sp,rfl,k1,k2,k3⟩:=hga
 simp -dsimp (disch:=first|omega|(simp only[go_sem,seval];try omega))only[go_sem,seval,Gr.val,ho6]
 refine hK _ _ ⟨⟨nb,cap',sp,rfl,k1,by omega,?_⟩,hc06.set _ _ (.inr (by omega))⟩
 rw[AW _ _ _ _ (by omega)];exact k3
theorem VE {w:World} {g f:Gr} (hg:g.ok) (hr:g.right=true) (hf:f.ok) (hrf:f.right=true) {e e':Option TypeId} {a a':Option Addr} (hs:SxC w e a g.cs) (cap:Nat) (hcap:g.cs.length≤cap) (hsf:SxC w e' a' f.cs) (cap':Nat) (hcap':f.cs.length≤cap') {X Y:Int}
  (hX:-1000000≤X∧X≤1000000) (hY:-1000000≤Y∧Y≤1000000) :
  Calls Tryz.prog 31 #[g.val a cap,f.val a' cap',.int .i64 X,.int .i64 Y] w (Ac fun v w'=>GAt w.heap.size w' v (g.blit f X Y)∧Chg [] w w'):=by
 have hh1:=hg.h1
 have hw1:=hg.w1
 have hfh1:=hf.h1
 have hfw1:=hf.w1
 apply Rq
 intro K hK
 unfold OF
 simp -dsimp (disch:=first|omega|(simp only[go_sem,seval];try omega))only[go_sem,seval,Gr.val]
 refine Join1.inl ?_
 simp -dsimp (disch:=first|omega|(simp only[go_sem,seval];try omega))only[go_sem,seval]
 refine OpX.gen fun w0 hw0=>?_
 have hc0:Chg [] w w0:=by rw[hw0];exact HZ _ _ _ _ _ _
 have hz0:w0.heap.size=w.heap.size+5:=by rw[hw0];simp -dsimp (disch:=first|omega|(simp only[go_sem,seval];try omega))only[go_sem,seval]
 have hg0:w0.heap[w.heap.size]?=some (.cells #[.int .i64 g.w,.int .i64 g.h,.slice a g.cs.length cap] 38):=by rw[hw0];simp -dsimp (disch:=first|omega|(simp only[go_sem,seval];try omega))only[go_sem,seval]
 have hf0:w0.heap[w.heap.size+1]?=some (.cells #[.int .i64 f.w,.int .i64 f.h,.slice a' f.cs.length cap'] 38):=by rw[hw0];simp -dsimp (disch:=first|omega|(simp only[go_sem,seval];try omega))only[go_sem,seval]
 have hx0:AI w0 (w.heap.size+2) X:=by show w0.heap[_]?=_;rw[hw0];simp -dsimp (disch:=first|omega|(simp only[go_sem,seval];try omega))only[go_sem,seval]
 have hy0:AI w0 (w.heap.size+3) Y:=by show w0.heap[_]?=_;rw[hw0];simp -dsimp (disch:=first|omega|(simp only[go_sem,seval];try omega))only[go_sem,seval]
 have ho0:w0.heap[w.heap.size+4]?=some (.cells #[.int .i64 0,.int .i64 0,.slice none 0 0] 38):=by rw[hw0];simp -dsimp (disch:=first|omega|(simp only[go_sem,seval];try omega))only[go_sem,seval]
 clear hw0
 refine OpX.call CI rfl (Calls.ret (CK hg (hs.chg0 hc0) cap hcap) ?_)
 rintro v w1 ⟨rfl,hc1⟩
 rw[hr]
 have hf1:=hc1.keep hf0 (by simp)
 simp -dsimp (disch:=first|omega|(simp only[go_sem,seval];try omega))only[go_sem,seval,hf1]
 refine OpX.call CI rfl (Calls.ret (CK hf ((hsf.chg0 hc0).chg0 hc1) cap' hcap') ?_)
 rintro v w2 ⟨rfl,hc2⟩
 rw[hrf]
 have hc12:=hc1.trans0 hc2
 have hg2:=hc12.keep hg0 (by simp)
 have hf2:=hc12.keep hf0 (by simp)
 have hx2:w2.heap[w.heap.size+2]?=some _:=hc12.keep hx0 (by simp)
 have hy2:w2.heap[w.heap.size+3]?=some _:=hc12.keep hy0 (by simp)
 have ho2:=hc12.keep ho0 (by simp)
 have hlt:=Aa ho2
 have hsz:=hc12.size
 have hc02:=hc0.trans0 hc12
 simp -dsimp (disch:=first|omega|(simp only[go_sem,seval];try omega))only[go_sem,seval,hg2,hf2,hx2,hy2]
 refine OpX.call DY rfl (Calls.ret (DJ _ Y f.h g.h (by omega) (by omega) (by omega) (by omega) (by omega)) ?_)
 rintro v w3 ⟨rfl,rfl⟩
 simp -dsimp (disch:=first|omega|(simp only[go_sem,seval];try omega))only[go_sem,seval,hg2,hf2,hx2,hy2]
 refine OpX.call DY rfl (Calls.ret (DJ _ X f.w g.w (by omega) (by omega) (by omega) (by omega) (by omega)) ?_)
 rintro v w4 ⟨rfl,rfl⟩
 simp -dsimp (disch:=first|omega|(simp only[go_sem,seval];try omega))only[go_sem,seval,hg2]
 refine OpX.gen fun w5 hw5=>?_
 have hc5:Chg [] w4 w5:=by rw[hw5];exact BI _ _ _
 have hl5:AI w5 w4.heap.size (AN X f.w g.w).1:=by show w5.heap[_]?=_;rw[hw5];simp -dsimp (disch:=first|omega|(simp only[go_sem,seval];try omega))only[go_sem,seval]
 have hm5:AI w5 (w4.heap.size+1) (AN X f.w g.w).2:=by show w5.heap[_]?=_;rw[hw5];simp -dsimp (disch:=first|omega|(simp only[go_sem,seval];try omega))only[go_sem,seval]
 have hf5:=hc5.keep hf2 (by simp)
 have hx5:AI w5 (w.heap.size+2) X:=hc5.keep hx2 (by simp)
 have hy5:AI w5 (w.heap.size+3) Y:=hc5.keep hy2 (by simp)
 have hc05:=hc02.trans0 hc5
 have hsz5:=hc5.size
 clear hw5
 have hb1:=DU (x:=X) (n:=f.w) (size:=g.w) (by omega)
 have hb2:=DU (x:=Y) (n:=f.h) (size:=g.h) (by omega)
 refine OpX.call DO rfl (Calls.ret (DP hg (hs.chg0 hc05) cap (by omega) (by omega) (XX hg hf hl5 hm5 hf5 hx5 hy5 (hsf.chg0 hc05) hb1.1 hb1.2.2 hX hY _ _) (fun y _ _ _=>AX _ _)) ?_)
 rintro v w6 ⟨hga,hc6⟩
 have hc06:=hc05.trans0 hc6
 have ho6:=((hc12.trans0 hc5).trans0 hc6).keep ho0 (by simp)
 have hs6:=hc6.size
 have hlo:=Aa ho6
 obtain⟨nb,cap',sp,rfl,k1,k2,k3⟩:=hga
 simp -dsimp (disch:=first|omega|(simp only[go_sem,seval];try omega))only[go_sem,seval,Gr.val,ho6]
 refine hK _ _ ⟨⟨nb,cap',sp,rfl,k1,by omega,?_⟩,hc06.set _ _ (.inr (by omega))⟩
 rw[AW _ _ _ _ (by omega)];exact k3
theorem M9 {w:World} {g:Gr} (hg:g.ok) (hr:g.right=true) {e:Option TypeId} {a:Option Addr} (hs:SxC w e a g.cs) (cap:Nat) (hcap:g.cs.length≤cap) {x y:Nat} {c:Cel} (hu:c.usual=true) (x0:0<x) (x1:x≤200) (y0:0<y) (y1:y≤60) :
  Calls Tryz.prog 207 #[g.val a cap,.int .i64 x,.int .i64 y,c.val] w (Ac fun v w'=>GAt w.heap.size w' v (g.resize x y c)∧Chg [] w w'):=by
 have hh1:=hg.h1
 have hw1:=hg.w1
 obtain⟨b,o,_,_,_,_,_,rfl,hb0,_⟩:=hs.at_ hg.ne
 have hb0':=Aa hb0
 clear hb0
 have hft:Cl x y=true:=by unfold Cl;apply decide_eq_true;omega
 apply Ww
 intro K hK
 unfold JW
 simp -dsimp (disch:=first|omega|(simp only[go_sem,seval];try omega))only[go_sem,seval,Gr.val]
 refine Join1.inl ?_
 simp -dsimp (disch:=first|omega|(simp only[go_sem,seval];try omega))only[go_sem,seval]
 refine OpX.gen fun w0 hw0=>?_
 have hc0:Chg [] w w0:=by rw[hw0];exact Fw _ _ _ _
 have hz0:w0.heap.size=w.heap.size+3:=by rw[hw0];simp -dsimp (disch:=first|omega|(simp only[go_sem,seval];try omega))only[go_sem,seval]
 have hg0:w0.heap[w.heap.size]?=some (.cells #[.int .i64 g.w,.int .i64 g.h,.slice (some ⟨b,o,none⟩) g.cs.length cap] 38):=by rw[hw0];simp -dsimp (disch:=first|omega|(simp only[go_sem,seval];try omega))only[go_sem,seval]
 have hk0:CV w0 (w.heap.size+1) c:=by show w0.heap[_]?=_;rw[hw0];simp -dsimp (disch:=first|omega|(simp only[go_sem,seval];try omega))only[go_sem,seval]
 have ho0:w0.heap[w.heap.size+2]?=some (.cells #[.int .i64 0,.int .i64 0,.slice none 0 0] 38):=by rw[hw0];simp -dsimp (disch:=first|omega|(simp only[go_sem,seval];try omega))only[go_sem,seval]
 clear hw0
 refine OpX.call CI rfl (Calls.ret (CK hg (hs.chg0 hc0) cap hcap) ?_)
 rintro v w1 ⟨rfl,hc1⟩
 rw[hr]
 have hk1:=hc1.keep hk0 (by simp)
 simp -dsimp (disch:=first|omega|(simp only[go_sem,seval];try omega))only[go_sem,seval,hk1]
 refine OpX.call GU rfl (Calls.ret (F2 _ c) ?_)
 rintro v w2 ⟨rfl,hc2⟩
 rw[hu]
 simp -dsimp (disch:=first|omega|(simp only[go_sem,seval];try omega))only[go_sem,seval]
 refine OpX.call I7 rfl (Calls.ret (Hp _ x y) ?_)
 rintro v w3 ⟨rfl,rfl⟩
 have hc12:=hc1.trans0 hc2
 have hg2:=hc12.keep hg0 (by simp)
 have hk2:=hc12.keep hk0 (by simp)
 have ho2:=hc12.keep ho0 (by simp)
 have hlt:=Aa ho2
 have hsz:=hc12.size
 have hc02:=hc0.trans0 hc12
 simp -dsimp (disch:=first|omega|(simp only[go_sem,seval];try omega))only[go_sem,seval,hft]
 refine Join0.cut (fun w'=>Chg [] w w'∧∃cs,GAt (w.heap.size+3) w' (.agg cs) (g.resize x y c)∧w'.heap[w.heap.size+2]?=some (.cells cs 38)) ?_ ?_
 ·have hP:=Gr.plain_ok x0 x1 y0 y1 c
  simp -dsimp (disch:=first|omega|(simp only[go_sem,seval];try omega))only[go_sem,seval,hg2,hk2]
  refine⟨?_,?_⟩
  ·refine OpX.call HT rfl (Calls.ret (IE _ x y c x0 x1 y0 y1) ?_)
   rintro v w5 ⟨hga,hc5⟩
   obtain⟨nb,cap5,rfl,hcap5,hnb5,hnl5,hs5⟩:=hga.sx
   have hg5:=hc5.keep hg2 (by simp)
   have ho5:=hc5.keep ho2 (by simp)
   have hc05:=hc02.drew.trans0 hc5
   have hsz5:w3.heap.size≤w5.heap.size:=hc5.size
   have hz5:=Aa ho5
   simp -dsimp (disch:=first|omega|(simp only[go_sem,seval];try omega))only[go_sem,seval,hg5]
   refine OpX.call DO rfl (Calls.ret (DP hP hs5 cap5 (by omega) (by omega) (Kr hg hP hg5 (hs.chg0 hc05) hcap _ _ (by omega)) (fun y _ _ _=>AX _ _)) ?_)
   rintro v w6 ⟨⟨nb6,cap6,sp,rfl,k1,k2,k3⟩,hc6⟩
   have ho6:=hc6.keep ho5 (by simp)
   have hlo6:=Aa ho6
   simp -dsimp (disch:=first|omega|(simp only[go_sem,seval];try omega))only[go_sem,seval,Gr.val,ho6]
   refine⟨(hc05.trans0 hc6).set _ _ (.inr (by omega)),_,⟨nb6,cap6,sp,rfl,k1,by omega,?_⟩,rfl⟩
   rw[AW _ _ _ _ (by omega)];exact k3
  ·refine OpX.call HT rfl (Calls.ret (IE _ x y c x0 x1 y0 y1) ?_)
   rintro v w5 ⟨hga,hc5⟩
   obtain⟨nb,cap5,rfl,hcap5,hnb5,hnl5,hs5⟩:=hga.sx
   have hg5:=hc5.keep hg2 (by simp)
   have ho5:=hc5.keep ho2 (by simp)
   have hc05:=hc02.drew.trans0 hc5
   have hsz5:w3.heap.size≤w5.heap.size:=hc5.size
   have hz5:=Aa ho5
   simp -dsimp (disch:=first|omega|(simp only[go_sem,seval];try omega))only[go_sem,seval,hg5]
   refine OpX.call DO rfl (Calls.ret (DP hP hs5 cap5 (by omega) (by omega) (Kr hg hP hg5 (hs.chg0 hc05) hcap _ _ (by omega)) (fun y _ _ _=>AX _ _)) ?_)
   rintro v w6 ⟨⟨nb6,cap6,sp,rfl,k1,k2,k3⟩,hc6⟩
   have ho6:=hc6.keep ho5 (by simp)
   have hlo6:=Aa ho6
   simp -dsimp (disch:=first|omega|(simp only[go_sem,seval];try omega))only[go_sem,seval,Gr.val,ho6]
   refine⟨(hc05.trans0 hc6).set _ _ (.inr (by omega)),_,⟨nb6,cap6,sp,rfl,k1,by omega,?_⟩,rfl⟩
   rw[AW _ _ _ _ (by omega)];exact k3
 ·rintro w4 ⟨hc4,cs,⟨nb,cap4,sp,hcs,k1,k2,k3⟩,hr4⟩
  have hlo4:=Aa hr4
  obtain rfl:cs=_:=Value.agg.inj hcs
  simp -dsimp (disch:=first|omega|(simp only[go_sem,seval];try omega))only[go_sem,seval,hr4]
  exact hK _ _ ⟨⟨nb,cap4,sp,rfl,k1,by omega,k3⟩,hc4⟩
def Cd (b:Bool):Int:=bif b then 1 else 0
@[go_sem] theorem cw:Cd true=1:=rfl
@[go_sem] theorem gx:Cd false=0:=rfl
theorem Fe (b:Bool):0≤Cd b∧Cd b<2:=by cases b<;>decide
structure Scm where
 S:Scr
 b0:Nat
 c0:Nat
 p0:List Value
 b1:Nat
 c1:Nat
 p1:List Value
 gv:Value
 rows:List Rw
def Scm.end (M:Scm):List Value:=M.S.tabs.map Value.bool++[.bool M.S.wraps,.bool M.S.waits,.bool M.S.shown,M.gv]
def Scm.cells (M:Scm):List Value :=
 (.int .i64 M.S.w:Value)::(.int .i64 M.S.h:Value)::(.int .i64 M.S.g0.w:Value)::(.int .i64 M.S.g0.h:Value)::(.slice (some ⟨M.b0,0,none⟩) M.S.g0.cs.length M.c0:Value)::(.int .i64 M.S.g1.w:Value)::(.int .i64 M.S.g1.h:Value)::(.slice (some ⟨M.b1,0,none⟩) M.S.g1.cs.length M.c1:Value)::(.int .i64 M.S.s0.x:Value)::(.int .i64 M.S.s0.y:Value)::(.int .i32 M.S.s0.pen.r:Value)::(.int .u8 M.S.s0.pen.fg.toNat:Value)::(.int .u8 M.S.s0.pen.bg.toNat:Value)::(.int .u8 M.S.s0.pen.a.toNat:Value)::(.int .i64 M.S.s1.x:Value)::(.int .i64 M.S.s1.y:Value)::(.int .i32 M.S.s1.pen.r:Value)::(.int .u8 M.S.s1.pen.fg.toNat:Value)::(.int .u8 M.S.s1.pen.bg.toNat:Value)::(.int .u8 M.S.s1.pen.a.toNat:Value)::(.int .i64 (Cd M.S.alt):Value)::(.int .i64 M.S.now.x:Value)::(.int .i64 M.S.now.y:Value)::(.int .i32 M.S.now.pen.r:Value)::(.int .u8 M.S.now.pen.fg.toNat:Value)::(.int .u8 M.S.now.pen.bg.toNat:Value)::(.int .u8 M.S.now.pen.a.toNat:Value)::(.int .i64 M.S.top:Value)::(.int .i64 M.S.fin:Value)::M.end
def Scm.obj (M:Scm):Obj:=.cells M.cells.toArray 267
theorem Scm.end_len (M:Scm) (h:M.S.tabs.length=200):M.end.length=204:=by simp [Scm.end,h]
theorem Scm.cells_len (M:Scm) (h:M.S.tabs.length=200):M.cells.length=233:=by simp [Scm.cells,M.end_len h]
@[go_sem] theorem Scm.r0 (M:Scm):Aw (some M.obj) 0=some (.int .i64 M.S.w):=rfl
@[go_sem] theorem Scm.r1 (M:Scm):Aw (some M.obj) 1=some (.int .i64 M.S.h):=rfl
@[go_sem] theorem Scm.r4 (M:Scm):Aw (some M.obj) 4=some (.slice (some ⟨M.b0,0,none⟩) M.S.g0.cs.length M.c0):=rfl
@[go_sem] theorem Scm.r7 (M:Scm):Aw (some M.obj) 7=some (.slice (some ⟨M.b1,0,none⟩) M.S.g1.cs.length M.c1):=rfl
@[go_sem] theorem Scm.r8 (M:Scm):Aw (some M.obj) 8=some (.int .i64 M.S.s0.x):=rfl
@[go_sem] theorem Scm.r9 (M:Scm):Aw (some M.obj) 9=some (.int .i64 M.S.s0.y):=rfl
@[go_sem] theorem Scm.r14 (M:Scm):Aw (some M.obj) 14=some (.int .i64 M.S.s1.x):=rfl
@[go_sem] theorem Scm.r15 (M:Scm):Aw (some M.obj) 15=some (.int .i64 M.S.s1.y):=rfl
@[go_sem] theorem Scm.r20 (M:Scm):Aw (some M.obj) 20=some (.int .i64 (Cd M.S.alt)):=rfl
@[go_sem] theorem Scm.r21 (M:Scm):Aw (some M.obj) 21=some (.int .i64 M.S.now.x):=rfl
@[go_sem] theorem Scm.r22 (M:Scm):Aw (some M.obj) 22=some (.int .i64 M.S.now.y):=rfl
@[go_sem] theorem Scm.r25 (M:Scm):Aw (some M.obj) 25=some (.int .u8 M.S.now.pen.bg.toNat):=rfl
@[go_sem] theorem Scm.r27 (M:Scm):Aw (some M.obj) 27=some (.int .i64 M.S.top):=rfl
@[go_sem] theorem Scm.r28 (M:Scm):Aw (some M.obj) 28=some (.int .i64 M.S.fin):=rfl
theorem Scm.rTail (M:Scm) (i:Nat):Aw (some M.obj) (29+i)=M.end[i]?:=by
 show M.cells.toArray[29+i]?=_
 rw[List.getElem?_toArray,Nat.add_comm]
 rfl
@[go_sem] theorem Scm.r229 (M:Scm) (h:M.S.tabs.length=200):Aw (some M.obj) 229=some (.bool M.S.wraps):=by
 rw[show 229=29+200 from rfl,M.rTail,Scm.end,List.getElem?_append_right (by simp [h])];simp [h]
@[go_sem] theorem Scm.r230 (M:Scm) (h:M.S.tabs.length=200):Aw (some M.obj) 230=some (.bool M.S.waits):=by
 rw[show 230=29+201 from rfl,M.rTail,Scm.end,List.getElem?_append_right (by simp [h])];simp [h]
@[go_sem] theorem Scm.r231 (M:Scm) (h:M.S.tabs.length=200):Aw (some M.obj) 231=some (.bool M.S.shown):=by
 rw[show 231=29+202 from rfl,M.rTail,Scm.end,List.getElem?_append_right (by simp [h])];simp [h]
@[go_sem] theorem Scm.r232 (M:Scm) (h:M.S.tabs.length=200):Aw (some M.obj) 232=some (M.gv):=by
 rw[show 232=29+203 from rfl,M.rTail,Scm.end,List.getElem?_append_right (by simp [h])];simp [h]
@[go_sem] theorem Scm.rTab (M:Scm) (i:Nat) (h:M.S.tabs.length=200) (hi:i<200):Aw (some M.obj) (29+i)=some (.bool (M.S.tabs.getD i false)):=by
 rw[M.rTail,Scm.end,List.getElem?_append_left (by simp;omega),List.getElem?_map,List.getD_eq_getElem?_getD,List.getElem?_eq_getElem (by omega)]
 rfl
@[go_sem] theorem Scm.a2 (M:Scm):AS (some M.obj) 2 3=some #[.int .i64 M.S.g0.w,.int .i64 M.S.g0.h,.slice (some ⟨M.b0,0,none⟩) M.S.g0.cs.length M.c0]:=by
 refine Du (l:=[.int .i64 M.S.g0.w,.int .i64 M.S.g0.h,.slice (some ⟨M.b0,0,none⟩) M.S.g0.cs.length M.c0]) rfl (by omega) fun j hj=>?_
 match j,hj with
 | 0,_=>rfl
 | 1,_=>rfl
 | 2,_=>rfl
@[go_sem] theorem Scm.a5 (M:Scm):AS (some M.obj) 5 3=some #[.int .i64 M.S.g1.w,.int .i64 M.S.g1.h,.slice (some ⟨M.b1,0,none⟩) M.S.g1.cs.length M.c1]:=by
 refine Du (l:=[.int .i64 M.S.g1.w,.int .i64 M.S.g1.h,.slice (some ⟨M.b1,0,none⟩) M.S.g1.cs.length M.c1]) rfl (by omega) fun j hj=>?_
 match j,hj with
 | 0,_=>rfl
 | 1,_=>rfl
 | 2,_=>rfl
@[go_sem] theorem Scm.a8 (M:Scm):AS (some M.obj) 8 6=some #[.int .i64 M.S.s0.x,.int .i64 M.S.s0.y,.int .i32 M.S.s0.pen.r,.int .u8 M.S.s0.pen.fg.toNat,.int .u8 M.S.s0.pen.bg.toNat,.int .u8 M.S.s0.pen.a.toNat]:=by
 refine Du (l:=[.int .i64 M.S.s0.x,.int .i64 M.S.s0.y,.int .i32 M.S.s0.pen.r,.int .u8 M.S.s0.pen.fg.toNat,.int .u8 M.S.s0.pen.bg.toNat,.int .u8 M.S.s0.pen.a.toNat]) rfl (by omega) fun j hj=>?_
 match j,hj with
 | 0,_=>rfl
 | 1,_=>rfl
 | 2,_=>rfl
 | 3,_=>rfl
 | 4,_=>rfl
 | 5,_=>rfl
@[go_sem] theorem Scm.a14 (M:Scm):AS (some M.obj) 14 6=some #[.int .i64 M.S.s1.x,.int .i64 M.S.s1.y,.int .i32 M.S.s1.pen.r,.int .u8 M.S.s1.pen.fg.toNat,.int .u8 M.S.s1.pen.bg.toNat,.int .u8 M.S.s1.pen.a.toNat]:=by
 refine Du (l:=[.int .i64 M.S.s1.x,.int .i64 M.S.s1.y,.int .i32 M.S.s1.pen.r,.int .u8 M.S.s1.pen.fg.toNat,.int .u8 M.S.s1.pen.bg.toNat,.int .u8 M.S.s1.pen.a.toNat]) rfl (by omega) fun j hj=>?_
 match j,hj with
 | 0,_=>rfl
 | 1,_=>rfl
 | 2,_=>rfl
 | 3,_=>rfl
 | 4,_=>rfl
 | 5,_=>rfl
@[go_sem] theorem Scm.a21 (M:Scm):AS (some M.obj) 21 6=some #[.int .i64 M.S.now.x,.int .i64 M.S.now.y,.int .i32 M.S.now.pen.r,.int .u8 M.S.now.pen.fg.toNat,.int .u8 M.S.now.pen.bg.toNat,.int .u8 M.S.now.pen.a.toNat]:=by
 refine Du (l:=[.int .i64 M.S.now.x,.int .i64 M.S.now.y,.int .i32 M.S.now.pen.r,.int .u8 M.S.now.pen.fg.toNat,.int .u8 M.S.now.pen.bg.toNat,.int .u8 M.S.now.pen.a.toNat]) rfl (by omega) fun j hj=>?_
 match j,hj with
 | 0,_=>rfl
 | 1,_=>rfl
 | 2,_=>rfl
 | 3,_=>rfl
 | 4,_=>rfl
 | 5,_=>rfl
@[go_sem] theorem Scm.a23 (M:Scm):AS (some M.obj) 23 4=some #[.int .i32 M.S.now.pen.r,.int .u8 M.S.now.pen.fg.toNat,.int .u8 M.S.now.pen.bg.toNat,.int .u8 M.S.now.pen.a.toNat]:=by
 refine Du (l:=[.int .i32 M.S.now.pen.r,.int .u8 M.S.now.pen.fg.toNat,.int .u8 M.S.now.pen.bg.toNat,.int .u8 M.S.now.pen.a.toNat]) rfl (by omega) fun j hj=>?_
 match j,hj with
 | 0,_=>rfl
 | 1,_=>rfl
 | 2,_=>rfl
 | 3,_=>rfl
theorem Scm.put (M M':Scm) (o:Nat) (vs:List Value) (h:M.S.tabs.length=200) (ho:o+vs.length≤233) (he:M.cells.take o++vs++M.cells.drop (o+vs.length)=M'.cells):Ax (some M.obj) o vs=some M'.obj:=by
 unfold Scm.obj
 rw[Fk,if_pos (by simp [M.cells_len h];omega)]
 rw[PK,he]
@[go_sem] theorem Scm.wX (M:Scm) (x:Nat) (h:M.S.tabs.length=200):Ax (some M.obj) 21 [.int .i64 (x:Int)]=some ({ M with S:={ M.S with now:={ M.S.now with x:=x } } }:Scm).obj:=M.put _ 21 _ h (by simp) rfl
@[go_sem] theorem Scm.wX0 (M:Scm) (h:M.S.tabs.length=200):Ax (some M.obj) 21 [.int .i64 0]=some ({ M with S:={ M.S with now:={ M.S.now with x:=0 } } }:Scm).obj:=M.put _ 21 _ h (by simp) rfl
@[go_sem] theorem Scm.wY (M:Scm) (y:Nat) (h:M.S.tabs.length=200):Ax (some M.obj) 22 [.int .i64 (y:Int)]=some ({ M with S:={ M.S with now:={ M.S.now with y:=y } } }:Scm).obj:=M.put _ 22 _ h (by simp) rfl
@[go_sem] theorem Scm.wNow (M:Scm) (x y:Nat) (r:Int) (f b a:BitVec 8) (h:M.S.tabs.length=200):Ax (some M.obj) 21 [.int .i64 (x:Int),.int .i64 (y:Int),.int .i32 r,.int .u8 (f.toNat:Int),.int .u8 (b.toNat:Int),.int .u8 (a.toNat:Int)]=some ({ M with S:={ M.S with now:=⟨x,y,⟨r,f,b,a⟩⟩ } }:Scm).obj:=M.put _ 21 _ h (by simp) rfl
@[go_sem] theorem Scm.wS0 (M:Scm) (x y:Nat) (r:Int) (f b a:BitVec 8) (h:M.S.tabs.length=200):Ax (some M.obj) 8 [.int .i64 (x:Int),.int .i64 (y:Int),.int .i32 r,.int .u8 (f.toNat:Int),.int .u8 (b.toNat:Int),.int .u8 (a.toNat:Int)]=some ({ M with S:={ M.S with s0:=⟨x,y,⟨r,f,b,a⟩⟩ } }:Scm).obj:=M.put _ 8 _ h (by simp) rfl
@[go_sem] theorem Scm.wS1 (M:Scm) (x y:Nat) (r:Int) (f b a:BitVec 8) (h:M.S.tabs.length=200):Ax (some M.obj) 14 [.int .i64 (x:Int),.int .i64 (y:Int),.int .i32 r,.int .u8 (f.toNat:Int),.int .u8 (b.toNat:Int),.int .u8 (a.toNat:Int)]=some ({ M with S:={ M.S with s1:=⟨x,y,⟨r,f,b,a⟩⟩ } }:Scm).obj:=M.put _ 14 _ h (by simp) rfl
@[go_sem] theorem Scm.wPen (M:Scm) (r:Int) (f b a:BitVec 8) (h:M.S.tabs.length=200):Ax (some M.obj) 23 [.int .i32 r,.int .u8 (f.toNat:Int),.int .u8 (b.toNat:Int),.int .u8 (a.toNat:Int)]=some ({ M with S:={ M.S with now:={ M.S.now with pen:=⟨r,f,b,a⟩ } } }:Scm).obj:=M.put _ 23 _ h (by simp) rfl
@[go_sem] theorem Scm.wAlt0 (M:Scm) (h:M.S.tabs.length=200):Ax (some M.obj) 20 [.int .i64 0]=some ({ M with S:={ M.S with alt:=false } }:Scm).obj:=M.put _ 20 _ h (by simp) rfl
@[go_sem] theorem Scm.wAlt1 (M:Scm) (h:M.S.tabs.length=200):Ax (some M.obj) 20 [.int .i64 1]=some ({ M with S:={ M.S with alt:=true } }:Scm).obj:=M.put _ 20 _ h (by simp) rfl
@[go_sem] theorem Scm.wTop (M:Scm) (n:Nat) (h:M.S.tabs.length=200):Ax (some M.obj) 27 [.int .i64 (n:Int)]=some ({ M with S:={ M.S with top:=n } }:Scm).obj:=M.put _ 27 _ h (by simp) rfl
@[go_sem] theorem Scm.wTop0 (M:Scm) (h:M.S.tabs.length=200):Ax (some M.obj) 27 [.int .i64 0]=some ({ M with S:={ M.S with top:=0 } }:Scm).obj:=M.put _ 27 _ h (by simp) rfl
@[go_sem] theorem Scm.wFin (M:Scm) (n:Nat) (h:M.S.tabs.length=200):Ax (some M.obj) 28 [.int .i64 (n:Int)]=some ({ M with S:={ M.S with fin:=n } }:Scm).obj:=M.put _ 28 _ h (by simp) rfl
@[go_sem] theorem Scm.wW (M:Scm) (n:Nat) (h:M.S.tabs.length=200):Ax (some M.obj) 0 [.int .i64 (n:Int)]=some ({ M with S:={ M.S with w:=n } }:Scm).obj:=M.put _ 0 _ h (by simp) rfl
@[go_sem] theorem Scm.wH (M:Scm) (n:Nat) (h:M.S.tabs.length=200):Ax (some M.obj) 1 [.int .i64 (n:Int)]=some ({ M with S:={ M.S with h:=n } }:Scm).obj:=M.put _ 1 _ h (by simp) rfl
@[go_sem] theorem Scm.wS0x (M:Scm) (n:Nat) (h:M.S.tabs.length=200):Ax (some M.obj) 8 [.int .i64 (n:Int)]=some ({ M with S:={ M.S with s0:={ M.S.s0 with x:=n } } }:Scm).obj:=M.put _ 8 _ h (by simp) rfl
@[go_sem] theorem Scm.wS0y (M:Scm) (n:Nat) (h:M.S.tabs.length=200):Ax (some M.obj) 9 [.int .i64 (n:Int)]=some ({ M with S:={ M.S with s0:={ M.S.s0 with y:=n } } }:Scm).obj:=M.put _ 9 _ h (by simp) rfl
@[go_sem] theorem Scm.wS1x (M:Scm) (n:Nat) (h:M.S.tabs.length=200):Ax (some M.obj) 14 [.int .i64 (n:Int)]=some ({ M with S:={ M.S with s1:={ M.S.s1 with x:=n } } }:Scm).obj:=M.put _ 14 _ h (by simp) rfl
@[go_sem] theorem Scm.wS1y (M:Scm) (n:Nat) (h:M.S.tabs.length=200):Ax (some M.obj) 15 [.int .i64 (n:Int)]=some ({ M with S:={ M.S with s1:={ M.S.s1 with y:=n } } }:Scm).obj:=M.put _ 15 _ h (by simp) rfl
theorem Scm.wG0 (M:Scm) (G:Gr) (b c:Nat) (p:List Value) (h:M.S.tabs.length=200):Ax (some M.obj) 2 [.int .i64 G.w,.int .i64 G.h,.slice (some ⟨b,0,none⟩) G.cs.length c]=some ({ M with S:={ M.S with g0:=G },b0:=b,c0:=c,p0:=p }:Scm).obj:=M.put _ 2 _ h (by simp) rfl
theorem Scm.wG1 (M:Scm) (G:Gr) (b c:Nat) (p:List Value) (h:M.S.tabs.length=200):Ax (some M.obj) 5 [.int .i64 G.w,.int .i64 G.h,.slice (some ⟨b,0,none⟩) G.cs.length c]=some ({ M with S:={ M.S with g1:=G },b1:=b,c1:=c,p1:=p }:Scm).obj:=M.put _ 5 _ h (by simp) rfl
theorem Scm.putTail (M M':Scm) (i:Nat) (v:Value) (h:M.S.tabs.length=200) (hi:i<204) (he:M.cells.take 29=M'.cells.take 29) (ht:M.end.set i v=M'.end):Ax (some M.obj) (29+i) [v]=some M'.obj:=by
 refine M.put M' _ _ h (by simp;omega) ?_
 have e1:M.cells=M.cells.take 29++M.end:=rfl
 have e2:M'.cells=M'.cells.take 29++M'.end:=rfl
 have hl:(M.cells.take 29).length=29:=by simp [M.cells_len h]
 have hE:=M.end_len h
 rw[e1,e2,←he,←ht]
 rw[List.take_append,List.drop_append,hl]
 rw[List.take_of_length_le (by rw[hl];omega),List.drop_eq_nil_of_le (by rw[hl];simp;omega)]
 rw[show 29+i-29=i by omega,show 29+i+[v].length-29=i+1 by simp;omega]
 rw[List.set_eq_take_append_cons_drop,if_pos (by omega)]
 simp
@[go_sem] theorem Scm.wTab (M:Scm) (i:Nat) (b:Bool) (h:M.S.tabs.length=200) (hi:i<200):Ax (some M.obj) (29+i) [.bool b]=some ({ M with S:={ M.S with tabs:=M.S.tabs.set i b } }:Scm).obj :=
 M.putTail _ i _ h (by omega) rfl (by simp only[Scm.end];rw[List.set_append_left _ _ (by simp;omega),List.map_set])
@[go_sem] theorem Scm.wwraps (M:Scm) (b:Bool) (h:M.S.tabs.length=200):Ax (some M.obj) 229 [.bool b]=some ({ M with S:={ M.S with wraps:=b } }:Scm).obj :=
 M.putTail _ 200 _ h (by omega) rfl (by simp only[Scm.end];rw[List.set_append_right _ _ (by simp [h])];simp [h])
@[go_sem] theorem Scm.wwaits (M:Scm) (b:Bool) (h:M.S.tabs.length=200):Ax (some M.obj) 230 [.bool b]=some ({ M with S:={ M.S with waits:=b } }:Scm).obj :=
 M.putTail _ 201 _ h (by omega) rfl (by simp only[Scm.end];rw[List.set_append_right _ _ (by simp [h])];simp [h])
@[go_sem] theorem Scm.wshown (M:Scm) (b:Bool) (h:M.S.tabs.length=200):Ax (some M.obj) 231 [.bool b]=some ({ M with S:={ M.S with shown:=b } }:Scm).obj :=
 M.putTail _ 202 _ h (by omega) rfl (by simp only[Scm.end];rw[List.set_append_right _ _ (by simp [h])];simp [h])
theorem Scm.wGv (M:Scm) (v:Value) (l:List Rw) (g:List (List Cel)) (h:M.S.tabs.length=200):Ax (some M.obj) 232 [v]=some ({ M with S:={ M.S with gone:=g },gv:=v,rows:=l }:Scm).obj :=
 M.putTail _ 203 _ h (by omega) rfl (by simp only[Scm.end];rw[List.set_append_right _ _ (by simp [h])];simp [h])
def Scm.cb (M:Scm):Nat:=bif M.S.alt then M.b1 else M.b0
def Scm.cc (M:Scm):Nat:=bif M.S.alt then M.c1 else M.c0
def Scm.cp (M:Scm):List Value:=bif M.S.alt then M.p1 else M.p0
def Scm.setCur (M:Scm) (G:Gr) (b c:Nat) (p:List Value):Scm :=
 bif M.S.alt then { M with S:={ M.S with g1:=G },b1:=b,c1:=c,p1:=p } else { M with S:={ M.S with g0:=G },b0:=b,c0:=c,p0:=p }
theorem Scm.setCur_S (M:Scm) (G:Gr) (b c:Nat) (p:List Value):(M.setCur G b c p).S=M.S.setCur G:=by
 unfold Scm.setCur Scr.setCur
 rcases Bool.eq_false_or_eq_true M.S.alt with h|h<;>simp only[h,cond_true,cond_false]
@[go_sem] theorem Scm.aCur (M:Scm):AS (some M.obj) (2+(Cd M.S.alt).toNat*3) 3=some #[.int .i64 M.S.cur.w,.int .i64 M.S.cur.h,.slice (some ⟨M.cb,0,none⟩) M.S.cur.cs.length M.cc]:=by
 unfold Scr.cur Scm.cb Scm.cc
 cases M.S.alt
 ·exact M.a2
 ·exact M.a5
@[go_sem] theorem Scm.rCur (M:Scm):Aw (some M.obj) (2+(Cd M.S.alt).toNat*3+2)=some (.slice (some ⟨M.cb,0,none⟩) M.S.cur.cs.length M.cc):=by
 unfold Scr.cur Scm.cb Scm.cc
 cases M.S.alt
 ·exact M.r4
 ·exact M.r7
theorem Scm.wCur (M:Scm) (G:Gr) (b c:Nat) (p:List Value) (h:M.S.tabs.length=200):Ax (some M.obj) (2+(Cd M.S.alt).toNat*3) [.int .i64 G.w,.int .i64 G.h,.slice (some ⟨b,0,none⟩) G.cs.length c]=some (M.setCur G b c p).obj:=by
 unfold Scm.setCur
 rcases Bool.eq_false_or_eq_true M.S.alt with ha|ha<;>rw[ha]
 ·exact M.wG1 G b c p h
 ·exact M.wG0 G b c p h
end Go.Proofs.YtelplojmbjnplaaGreat
