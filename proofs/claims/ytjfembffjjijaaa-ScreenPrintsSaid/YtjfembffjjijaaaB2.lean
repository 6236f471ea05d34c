/- Helpers of this claim, part 2: engine, translated functions, contracts, plain laws. -/
import Derived.Test.YtjfembffjjijaaaB1
import Derived.Laws.StructEq
set_option linter.unusedSimpArgs false
set_option linter.unusedVariables false
namespace Go.Proofs.Ytjfembffjjijaaa
open Lyc Go
set_option maxRecDepth 100000
def screen_New (p0 p1 : Value) (K : Value → World → Prop) : World → Prop :=
  xC 23 [.const p0, .const p1] [3, 3] 48 fun t9 =>
  xA 48 fun t5 =>
  xS 48 t5 t9 <|
  xL 48 t5 fun t10 =>
  xC 24 [.const t10] [48] 4 fun t11 =>
  xN 4 t11 fun t12 =>
  xW t12
  (K (.pointer none)) <|
  OpX Try.prog (.build 65 #[(0, .const p0), (1, .const p1)]) 65 fun t15 =>
  OpX Try.prog (.box 65 (.const t15)) 28 fun t16 =>
  xC 25 [.const t16] [28] 0 fun _ =>
  K t16
theorem screen_New_link (p0 p1 : Value) : Lk 10 #[p0, p1] (screen_New p0 p1) := lk [p0, p1] [] Try.func10 (by kernel_rfl) fun _ _ => by kernel_rfl
theorem screen_New_b : Bodied Try.prog 10 := bd Try.func10 (by kernel_rfl)
def screen_Screen_Do (p0 p1 : Value) (K : Value → World → Prop) : World → Prop :=
  xC 26 [.const p0] [28] 4 fun t7 =>
  xW t7
  (K (.tuple #[])) <|
  xU p1 31 fun t9 =>
  Loop1 (.int .i64 0) fun t10 next1 =>
  xO .lss 3 t10 t9 fun t11 =>
  xW t11
  (Join0 (fun k2 =>
  xI 31 p1 t10 fun t12 =>
  xL 35 t12 fun t13 =>
  xA 35 fun t5 =>
  xS 35 t5 t13 <|
  xF 35 t5 0 fun t14 =>
  xL 3 t14 fun t15 =>
  xO .eql 3 t15 (.int .i64 1) fun t17 =>
  xW t17
  (xF 35 t5 1 fun t19 =>
  xL 21 t19 fun t20 =>
  xC 27 [.const p0, .const t20] [28, 21] 0 fun _ =>
  k2) <|
  xO .eql 3 t15 (.int .i64 2) fun t23 =>
  xW t23
  (xF 35 t5 1 fun t25 =>
  xL 21 t25 fun t26 =>
  xC 28 [.const p0, .const t26] [28, 21] 0 fun _ =>
  k2) <|
  xO .eql 3 t15 (.int .i64 3) fun t29 =>
  xW t29
  (xF 35 t5 3 fun t30 =>
  xL 5 t30 fun t31 =>
  xO .eql 5 t31 (.int .u8 0) fun t32 =>
  xW t32
  (xF 35 t5 1 fun t34 =>
  xL 21 t34 fun t35 =>
  xC 29 [.const p0, .const t35] [28, 21] 0 fun _ =>
  k2) <|
  k2) <|
  xO .eql 3 t15 (.int .i64 4) fun t38 =>
  xW t38
  (xL 35 t5 fun t40 =>
  xC 30 [.const p0, .const t40] [28, 35] 0 fun _ =>
  k2) <|
  k2) <|
  xO .add 3 t10 (.int .i64 1) fun t42 =>
  next1 t42) <|
  K (.tuple #[])
theorem screen_Screen_Do_link (p0 p1 : Value) : Lk 11 #[p0, p1] (screen_Screen_Do p0 p1) := lk [p0, p1] [(9, [10]), (16, [])] Try.func11 (by kernel_rfl) fun _ _ => by kernel_rfl
theorem screen_Screen_Do_b : Bodied Try.prog 11 := bd Try.func11 (by kernel_rfl)
def screen_Screen_Cursor (p0 : Value) (K : Value → World → Prop) : World → Prop :=
  xC 26 [.const p0] [28] 4 fun t6 =>
  xW t6
  (K (.tuple #[(.int .i64 0), (.int .i64 0), (.bool false)])) <|
  DrewW <|
  xP (.nilCheck (.const p0)) 0 fun t8 =>
  qF 65 t8 5 fun t9 =>
  qF 61 t9 0 fun t10 =>
  qL 3 t10 fun t11 =>
  xP (.nilCheck (.const p0)) 0 fun t13 =>
  qF 65 t13 5 fun t14 =>
  qF 61 t14 1 fun t15 =>
  qL 3 t15 fun t16 =>
  xP (.nilCheck (.const p0)) 0 fun t18 =>
  qF 65 t18 11 fun t19 =>
  qL 4 t19 fun t20 =>
  K (.tuple #[t11, t16, t20])
theorem screen_Screen_Cursor_link (p0 : Value) : Lk 13 #[p0] (screen_Screen_Cursor p0) := lk [p0] [] Try.func13 (by kernel_rfl) fun _ _ => by kernel_rfl
theorem screen_Screen_Cursor_b : Bodied Try.prog 13 := bd Try.func13 (by kernel_rfl)
def screen_Screen_Pen (p0 : Value) (K : Value → World → Prop) : World → Prop :=
  xA 39 fun t2 =>
  xC 26 [.const p0] [28] 4 fun t4 =>
  xW t4
  (OpX Try.prog (.build 39 #[]) 39 fun t5 =>
  xS 39 t2 t5 <|
  xD 39 t2 fun t2_1 =>
  K t2_1) <|
  OpX Try.prog (.nilCheck (.const p0)) 0 fun t7 =>
  xF 65 t7 5 fun t8 =>
  xF 61 t8 2 fun t9 =>
  xL 39 t9 fun t10 =>
  xS 39 t2 t10 <|
  xD 39 t2 fun t2_2 =>
  K t2_2
theorem screen_Screen_Pen_link (p0 : Value) : Lk 14 #[p0] (screen_Screen_Pen p0) := lk [p0] [] Try.func14 (by kernel_rfl) fun _ _ => by kernel_rfl
theorem screen_Screen_Pen_b : Bodied Try.prog 14 := bd Try.func14 (by kernel_rfl)
def screen_Screen_Gone (p0 : Value) (K : Value → World → Prop) : World → Prop :=
  xC 26 [.const p0] [28] 4 fun t5 =>
  xW t5
  (K (.slice none 0 0)) <|
  OpX Try.prog (.nilCheck (.const p0)) 0 fun t7 =>
  xF 65 t7 12 fun t8 =>
  xL 43 t8 fun t9 =>
  OpX Try.prog (.nilCheck (.const p0)) 0 fun t11 =>
  xF 65 t11 12 fun t12 =>
  xS 43 t12 (.slice none 0 0) <|
  K t9
theorem screen_Screen_Gone_link (p0 : Value) : Lk 15 #[p0] (screen_Screen_Gone p0) := lk [p0] [] Try.func15 (by kernel_rfl) fun _ _ => by kernel_rfl
theorem screen_Screen_Gone_b : Bodied Try.prog 15 := bd Try.func15 (by kernel_rfl)
def screen_Screen_Grid (p0 : Value) (K : Value → World → Prop) : World → Prop :=
  xA 48 fun t2 =>
  xC 26 [.const p0] [28] 4 fun t5 =>
  xW t5
  (OpX Try.prog (.build 48 #[]) 48 fun t6 =>
  xS 48 t2 t6 <|
  xD 48 t2 fun t2_1 =>
  K t2_1) <|
  DrewW <|
  xP (.nilCheck (.const p0)) 0 fun t9 =>
  qF 65 t9 4 fun t10 =>
  qL 3 t10 fun t11 =>
  xP (.nilCheck (.const p0)) 0 fun t12 =>
  qF 65 t12 2 fun t13 =>
  xP (.indexAddr 59 (.const t13) (.const t11)) 0 fun t14 =>
  qL 48 t14 fun t15 =>
  xA 48 fun t3 =>
  xT (qZ 48 t14 t15) <|
  xT (qZ 3 t10 t11) <|
  xS 48 t3 t15 <|
  xF 48 t3 2 fun t16 =>
  xL 45 t16 fun t17 =>
  xC 33 [.const t17] [45] 45 fun t18 =>
  xF 48 t3 2 fun t19 =>
  xS 45 t19 t18 <|
  xL 48 t3 fun t20 =>
  xS 48 t2 t20 <|
  xD 48 t2 fun t2_2 =>
  K t2_2
theorem screen_Screen_Grid_link (p0 : Value) : Lk 17 #[p0] (screen_Screen_Grid p0) := lk [p0] [] Try.func17 (by kernel_rfl) fun _ _ => by kernel_rfl
theorem screen_Screen_Grid_b : Bodied Try.prog 17 := bd Try.func17 (by kernel_rfl)
def screen_Screen_Resize (p0 p1 p2 : Value) (K : Value → World → Prop) : World → Prop :=
  Join1 (fun k1 =>
  xC 26 [.const p0] [28] 4 fun t9 =>
  xW t9
  (k1 (.bool true)) <|
  xC 23 [.const p1, .const p2] [3, 3] 48 fun t13 =>
  xC 24 [.const t13] [48] 4 fun t14 =>
  xN 4 t14 fun t15 =>
  k1 t15) fun t16 =>
  xW t16
  (K (.bool false)) <|
  OpX Try.prog (.nilCheck (.const p0)) 0 fun t21 =>
  xF 65 t21 0 fun t22 =>
  xS 3 t22 p1 <|
  OpX Try.prog (.nilCheck (.const p0)) 0 fun t23 =>
  xF 65 t23 1 fun t24 =>
  xS 3 t24 p2 <|
  OpX Try.prog (.nilCheck (.const p0)) 0 fun t28 =>
  xF 65 t28 6 fun t29 =>
  xS 3 t29 (.int .i64 0) <|
  OpX Try.prog (.nilCheck (.const p0)) 0 fun t30 =>
  xF 65 t30 7 fun t31 =>
  xS 3 t31 p2 <|
  Loop1 (.int .i64 0) fun t32 next2 =>
  xO .lss 3 t32 (.int .i64 2) fun t33 =>
  xW t33
  (DrewW <|
  xP (.nilCheck (.const p0)) 0 fun t39 =>
  qF 65 t39 2 fun t40 =>
  xP (.indexAddr 59 (.const t40) (.const t32)) 0 fun t41 =>
  qL 48 t41 fun t42 =>
  xP (.nilCheck (.const p0)) 0 fun t47 =>
  qF 65 t47 2 fun t48 =>
  xC 35 [] [] 39 fun t45 =>
  xT (qZ 48 t41 t42) <|
  xC 34 [.const t42, .const p1, .const p2, .const t45] [48, 3, 3, 39] 48 fun t46 =>
  xP (.indexAddr 59 (.const t48) (.const t32)) 0 fun t49 =>
  xS 48 t49 t46 <|
  DrewW <|
  xP (.nilCheck (.const p0)) 0 fun t58 =>
  qF 65 t58 3 fun t59 =>
  xP (.indexAddr 62 (.const t59) (.const t32)) 0 fun t60 =>
  qF 61 t60 0 fun t61 =>
  qL 3 t61 fun t62 =>
  xP (.nilCheck (.const p0)) 0 fun t65 =>
  qF 65 t65 3 fun t66 =>
  xP (.indexAddr 62 (.const t66) (.const t32)) 0 fun t67 =>
  qF 61 t67 1 fun t68 =>
  qL 3 t68 fun t69 =>
  xP (.nilCheck (.const p0)) 0 fun t73 =>
  qF 65 t73 3 fun t74 =>
  xP (.nilCheck (.const p0)) 0 fun t77 =>
  qF 65 t77 3 fun t78 =>
  xC 36 [.const p0, .const t62, .const t69] [28, 3, 3] 26 fun t70 =>
  xP (.extract (.const t70) 0) 3 fun t71 =>
  xP (.extract (.const t70) 1) 3 fun t72 =>
  xP (.indexAddr 62 (.const t74) (.const t32)) 0 fun t75 =>
  qF 61 t75 0 fun t76 =>
  xS 3 t76 t71 <|
  xP (.indexAddr 62 (.const t78) (.const t32)) 0 fun t79 =>
  qF 61 t79 1 fun t80 =>
  xS 3 t80 t72 <|
  xO .add 3 t32 (.int .i64 1) fun t81 =>
  next2 t81) <|
  DrewW <|
  xP (.nilCheck (.const p0)) 0 fun t84 =>
  qF 65 t84 5 fun t85 =>
  qF 61 t85 0 fun t86 =>
  qL 3 t86 fun t87 =>
  xP (.nilCheck (.const p0)) 0 fun t89 =>
  qF 65 t89 5 fun t90 =>
  qF 61 t90 1 fun t91 =>
  qL 3 t91 fun t92 =>
  xC 37 [.const p0, .const t87, .const t92] [28, 3, 3] 0 fun _ =>
  OpX Try.prog (.nilCheck (.const p0)) 0 fun t95 =>
  xF 65 t95 10 fun t96 =>
  xS 4 t96 (.bool false) <|
  K (.bool true)
theorem screen_Screen_Resize_link (p0 p1 p2 : Value) : Lk 18 #[p0, p1, p2] (screen_Screen_Resize p0 p1 p2) := lk [p0, p1, p2] [(4, [16]), (18, [32])] Try.func18 (by kernel_rfl) fun _ _ => by kernel_rfl
theorem screen_Screen_Resize_b : Bodied Try.prog 18 := bd Try.func18 (by kernel_rfl)
def screen_Screen_Alt (p0 : Value) (K : Value → World → Prop) : World → Prop :=
  Join1 (fun k1 =>
  xC 26 [.const p0] [28] 4 fun t4 =>
  xN 4 t4 fun t5 =>
  xW t5
  (OpX Try.prog (.nilCheck (.const p0)) 0 fun t8 =>
  xF 65 t8 4 fun t9 =>
  xL 3 t9 fun t10 =>
  xO .eql 3 t10 (.int .i64 1) fun t11 =>
  k1 t11) <|
  k1 (.bool false)) fun t2 =>
  K t2
theorem screen_Screen_Alt_link (p0 : Value) : Lk 21 #[p0] (screen_Screen_Alt p0) := lk [p0] [(3, [2])] Try.func21 (by kernel_rfl) fun _ _ => by kernel_rfl
theorem screen_Screen_Alt_b : Bodied Try.prog 21 := bd Try.func21 (by kernel_rfl)
def screen_Screen_renew (p0 : Value) (K : Value → World → Prop) : World → Prop :=
  DrewW <|
  xP (.nilCheck (.const p0)) 0 fun t6 =>
  qF 65 t6 0 fun t7 =>
  qL 3 t7 fun t8 =>
  xP (.nilCheck (.const p0)) 0 fun t10 =>
  qF 65 t10 1 fun t11 =>
  qL 3 t11 fun t12 =>
  xP (.nilCheck (.const p0)) 0 fun t14 =>
  qF 65 t14 1 fun t15 =>
  qL 3 t15 fun t16 =>
  xP (.nilCheck (.const p0)) 0 fun t18 =>
  qF 65 t18 12 fun t19 =>
  qL 43 t19 fun t20 =>
  OpX Try.prog (.build 65 #[(0, .const t8), (1, .const t12), (7, .const t16), (9, .const (.bool true)), (11, .const (.bool true)), (12, .const t20)]) 65 fun t21 =>
  xP (.nilCheck (.const p0)) 0 fun t22 =>
  xS 65 t22 t21 <|
  Loop1 (.int .i64 0) fun t23 next1 =>
  xO .lss 3 t23 (.int .i64 2) fun t24 =>
  xW t24
  (DrewW <|
  xP (.nilCheck (.const p0)) 0 fun t29 =>
  qF 65 t29 0 fun t30 =>
  qL 3 t30 fun t31 =>
  xP (.nilCheck (.const p0)) 0 fun t33 =>
  qF 65 t33 1 fun t34 =>
  qL 3 t34 fun t35 =>
  xP (.nilCheck (.const p0)) 0 fun t37 =>
  qF 65 t37 2 fun t38 =>
  xC 23 [.const t31, .const t35] [3, 3] 48 fun t36 =>
  xP (.indexAddr 59 (.const t38) (.const t23)) 0 fun t39 =>
  xS 48 t39 t36 <|
  xO .add 3 t23 (.int .i64 1) fun t40 =>
  next1 t40) <|
  Loop1 (.int .i64 8) fun t3 next2 =>
  xO .lss 3 t3 (.int .i64 200) fun t42 =>
  xW t42
  (OpX Try.prog (.nilCheck (.const p0)) 0 fun t47 =>
  xF 65 t47 8 fun t48 =>
  xI 63 t48 t3 fun t49 =>
  xS 4 t49 (.bool true) <|
  xO .add 3 t3 (.int .i64 8) fun t44 =>
  next2 t44) <|
  K (.tuple #[])
theorem screen_Screen_renew_link (p0 : Value) : Lk 25 #[p0] (screen_Screen_renew p0) := lk [p0] [(6, [23]), (22, [3])] Try.func25 (by kernel_rfl) fun _ _ => by kernel_rfl
theorem screen_Screen_renew_b : Bodied Try.prog 25 := bd Try.func25 (by kernel_rfl)
def screen_Screen_none (p0 : Value) (K : Value → World → Prop) : World → Prop :=
  Join1 (fun k1 =>
  xO .eql 28 p0 (.pointer none) fun t4 =>
  xW t4
  (k1 (.bool true)) <|
  OpX Try.prog (.nilCheck (.const p0)) 0 fun t7 =>
  xF 65 t7 0 fun t8 =>
  xL 3 t8 fun t9 =>
  xO .eql 3 t9 (.int .i64 0) fun t10 =>
  k1 t10) fun t2 =>
  K t2
theorem screen_Screen_none_link (p0 : Value) : Lk 26 #[p0] (screen_Screen_none p0) := lk [p0] [(3, [2])] Try.func26 (by kernel_rfl) fun _ _ => by kernel_rfl
theorem screen_Screen_none_b : Bodied Try.prog 26 := bd Try.func26 (by kernel_rfl)
def screen_Screen_print (p0 p1 : Value) (K : Value → World → Prop) : World → Prop :=
  xB 28 p0 fun t2 =>
  xB 21 p1 fun t3 =>
  xL 21 t3 fun t5 =>
  xC 46 [.const t5] [21] 3 fun t6 =>
  Join1 (fun k1 =>
  xO .eql 3 t6 (.int .i64 0) fun t8 =>
  xW t8
  (k1 (.bool true)) <|
  xL 28 t2 fun t11 =>
  OpX Try.prog (.nilCheck (.const t11)) 0 fun t12 =>
  xF 65 t12 0 fun t13 =>
  xL 3 t13 fun t14 =>
  xO .gtr 3 t6 t14 fun t15 =>
  k1 t15) fun t16 =>
  xW t16
  (K (.tuple #[])) <|
  Join0 (fun k2 =>
  xL 28 t2 fun t17 =>
  OpX Try.prog (.nilCheck (.const t17)) 0 fun t18 =>
  xF 65 t18 10 fun t19 =>
  xL 4 t19 fun t20 =>
  xW t20
  (xL 28 t2 fun t21 =>
  OpX Try.prog (.nilCheck (.const t21)) 0 fun t22 =>
  xF 65 t22 5 fun t23 =>
  xF 61 t23 0 fun t24 =>
  xS 3 t24 (.int .i64 0) <|
  xL 28 t2 fun t25 =>
  xC 47 [.const t25] [28] 0 fun _ =>
  k2) <|
  k2) <|
  Join0 (fun k3 =>
  DrewW <|
  qL 28 t2 fun t27 =>
  xP (.nilCheck (.const t27)) 0 fun t28 =>
  qF 65 t28 5 fun t29 =>
  qF 61 t29 0 fun t30 =>
  qL 3 t30 fun t31 =>
  qP .add 3 t31 t6 fun t33 =>
  qL 28 t2 fun t34 =>
  xP (.nilCheck (.const t34)) 0 fun t35 =>
  qF 65 t35 0 fun t36 =>
  qL 3 t36 fun t37 =>
  qP .gtr 3 t33 t37 fun t38 =>
  xW t38
  (xL 28 t2 fun t39 =>
  OpX Try.prog (.nilCheck (.const t39)) 0 fun t40 =>
  xF 65 t40 9 fun t41 =>
  xL 4 t41 fun t42 =>
  xW t42
  (xL 28 t2 fun t43 =>
  OpX Try.prog (.nilCheck (.const t43)) 0 fun t44 =>
  xF 65 t44 5 fun t45 =>
  xF 61 t45 0 fun t46 =>
  xS 3 t46 (.int .i64 0) <|
  xL 28 t2 fun t47 =>
  xC 47 [.const t47] [28] 0 fun _ =>
  k3) <|
  DrewW <|
  qL 28 t2 fun t49 =>
  qL 28 t2 fun t50 =>
  xP (.nilCheck (.const t50)) 0 fun t51 =>
  qF 65 t51 0 fun t52 =>
  qL 3 t52 fun t53 =>
  qP .sub 3 t53 t6 fun t55 =>
  xP (.nilCheck (.const t49)) 0 fun t56 =>
  qF 65 t56 5 fun t57 =>
  qF 61 t57 0 fun t58 =>
  xS 3 t58 t55 <|
  k3) <|
  k3) <|
  xL 28 t2 fun t59 =>
  OpX Try.prog (.makeFunc (.func 49) #[] #[.const t2, .const t3]) 87 fun t60 =>
  xC 48 [.const t59, .const t60] [28, 87] 0 fun _ =>
  xL 28 t2 fun t62 =>
  OpX Try.prog (.nilCheck (.const t62)) 0 fun t63 =>
  xF 65 t63 5 fun t64 =>
  xF 61 t64 0 fun t65 =>
  xL 3 t65 fun t66 =>
  xO .add 3 t66 t6 fun t68 =>
  OpX Try.prog (.nilCheck (.const t62)) 0 fun t69 =>
  xF 65 t69 5 fun t70 =>
  xF 61 t70 0 fun t71 =>
  xS 3 t71 t68 <|
  xL 28 t2 fun t72 =>
  OpX Try.prog (.nilCheck (.const t72)) 0 fun t73 =>
  xF 65 t73 10 fun t74 =>
  xS 4 t74 (.bool false) <|
  DrewW <|
  qL 28 t2 fun t75 =>
  xP (.nilCheck (.const t75)) 0 fun t76 =>
  qF 65 t76 5 fun t77 =>
  qF 61 t77 0 fun t78 =>
  qL 3 t78 fun t79 =>
  qL 28 t2 fun t80 =>
  xP (.nilCheck (.const t80)) 0 fun t81 =>
  qF 65 t81 0 fun t82 =>
  qL 3 t82 fun t83 =>
  qR .eql 3 t79 t83 fun t84 =>
  xW t84
  (DrewW <|
  qL 28 t2 fun t85 =>
  qL 28 t2 fun t86 =>
  xP (.nilCheck (.const t86)) 0 fun t87 =>
  qF 65 t87 0 fun t88 =>
  qL 3 t88 fun t89 =>
  qP .sub 3 t89 (.int .i64 1) fun t90 =>
  xP (.nilCheck (.const t85)) 0 fun t91 =>
  qF 65 t91 5 fun t92 =>
  qF 61 t92 0 fun t93 =>
  xS 3 t93 t90 <|
  DrewW <|
  qL 28 t2 fun t94 =>
  qL 28 t2 fun t95 =>
  xP (.nilCheck (.const t95)) 0 fun t96 =>
  qF 65 t96 9 fun t97 =>
  qL 4 t97 fun t98 =>
  xP (.nilCheck (.const t94)) 0 fun t99 =>
  qF 65 t99 10 fun t100 =>
  xS 4 t100 t98 <|
  K (.tuple #[])) <|
  K (.tuple #[])
theorem screen_Screen_print_link (p0 p1 : Value) : Lk 27 #[p0, p1] (screen_Screen_print p0 p1) := lk [p0, p1] [(6, [16]), (10, []), (18, [])] Try.func27 (by kernel_rfl) fun _ _ => by kernel_rfl
theorem screen_Screen_print_b : Bodied Try.prog 27 := bd Try.func27 (by kernel_rfl)
def screen_Screen_ctl (p0 p1 : Value) (K : Value → World → Prop) : World → Prop :=
  Join0 (fun k1 =>
  xO .eql 21 p1 (.int .i32 8) fun t7 =>
  xW t7
  (OpX Try.prog (.nilCheck (.const p0)) 0 fun t10 =>
  xF 65 t10 5 fun t11 =>
  xF 61 t11 0 fun t12 =>
  xL 3 t12 fun t13 =>
  xO .sub 3 t13 (.int .i64 1) fun t14 =>
  OpX Try.prog (.call { callee := .builtin .max, args := #[.const t14, .const (.int .i64 0)], argTypes := #[3, 3] }) 3 fun t15 =>
  OpX Try.prog (.nilCheck (.const p0)) 0 fun t16 =>
  xF 65 t16 5 fun t17 =>
  xF 61 t17 0 fun t18 =>
  xS 3 t18 t15 <|
  k1) <|
  xO .eql 21 p1 (.int .i32 9) fun t20 =>
  xW t20
  (OpX Try.prog (.nilCheck (.const p0)) 0 fun t22 =>
  xF 65 t22 5 fun t23 =>
  xF 61 t23 0 fun t24 =>
  xL 3 t24 fun t25 =>
  xO .add 3 t25 (.int .i64 1) fun t26 =>
  Loop1 t26 fun t4 next2 =>
  Join1 (fun k3 =>
  OpX Try.prog (.nilCheck (.const p0)) 0 fun t29 =>
  xF 65 t29 0 fun t30 =>
  xL 3 t30 fun t31 =>
  xO .lss 3 t4 t31 fun t32 =>
  xW t32
  (OpX Try.prog (.nilCheck (.const p0)) 0 fun t36 =>
  xF 65 t36 8 fun t37 =>
  xI 63 t37 t4 fun t38 =>
  xL 4 t38 fun t39 =>
  xN 4 t39 fun t40 =>
  k3 t40) <|
  k3 (.bool false)) fun t41 =>
  xW t41
  (xO .add 3 t4 (.int .i64 1) fun t43 =>
  next2 t43) <|
  OpX Try.prog (.nilCheck (.const p0)) 0 fun t47 =>
  xF 65 t47 0 fun t48 =>
  xL 3 t48 fun t49 =>
  xO .sub 3 t49 (.int .i64 1) fun t50 =>
  OpX Try.prog (.call { callee := .builtin .min, args := #[.const t4, .const t50], argTypes := #[3, 3] }) 3 fun t51 =>
  OpX Try.prog (.nilCheck (.const p0)) 0 fun t52 =>
  xF 65 t52 5 fun t53 =>
  xF 61 t53 0 fun t54 =>
  xS 3 t54 t51 <|
  k1) <|
  Join1 (fun k4 =>
  xO .eql 21 p1 (.int .i32 10) fun t56 =>
  xW t56
  (k4 (.bool true)) <|
  xO .eql 21 p1 (.int .i32 11) fun t57 =>
  xW t57
  (k4 (.bool true)) <|
  xO .eql 21 p1 (.int .i32 12) fun t58 =>
  k4 t58) fun t55 =>
  xW t55
  (xC 47 [.const p0] [28] 0 fun _ =>
  k1) <|
  xO .eql 21 p1 (.int .i32 13) fun t62 =>
  xW t62
  (OpX Try.prog (.nilCheck (.const p0)) 0 fun t64 =>
  xF 65 t64 5 fun t65 =>
  xF 61 t65 0 fun t66 =>
  xS 3 t66 (.int .i64 0) <|
  k1) <|
  K (.tuple #[])) <|
  OpX Try.prog (.nilCheck (.const p0)) 0 fun t68 =>
  xF 65 t68 10 fun t69 =>
  xS 4 t69 (.bool false) <|
  K (.tuple #[])
theorem screen_Screen_ctl_link (p0 p1 : Value) : Lk 28 #[p0, p1] (screen_Screen_ctl p0 p1) := lk [p0, p1] [(0, []), (15, [4]), (18, [41]), (25, [55])] Try.func28 (by kernel_rfl) fun _ _ => by kernel_rfl
theorem screen_Screen_ctl_b : Bodied Try.prog 28 := bd Try.func28 (by kernel_rfl)
def screen_Screen_esc (p0 p1 : Value) (K : Value → World → Prop) : World → Prop :=
  Join0 (fun k1 =>
  Join0 (fun k2 =>
  xO .eql 21 p1 (.int .i32 55) fun t6 =>
  xW t6
  (xC 52 [.const p0] [28] 0 fun _ =>
  K (.tuple #[])) <|
  xO .eql 21 p1 (.int .i32 72) fun t8 =>
  xW t8
  (DrewW <|
  xP (.nilCheck (.const p0)) 0 fun t23 =>
  qF 65 t23 5 fun t24 =>
  qF 61 t24 0 fun t25 =>
  qL 3 t25 fun t26 =>
  xP (.nilCheck (.const p0)) 0 fun t27 =>
  qF 65 t27 8 fun t28 =>
  xP (.indexAddr 63 (.const t28) (.const t26)) 0 fun t29 =>
  xS 4 t29 (.bool true) <|
  K (.tuple #[])) <|
  xO .eql 21 p1 (.int .i32 69) fun t10 =>
  xW t10
  (OpX Try.prog (.nilCheck (.const p0)) 0 fun t31 =>
  xF 65 t31 5 fun t32 =>
  xF 61 t32 0 fun t33 =>
  xS 3 t33 (.int .i64 0) <|
  k2) <|
  xO .eql 21 p1 (.int .i32 68) fun t12 =>
  xW t12
  (k2) <|
  xO .eql 21 p1 (.int .i32 77) fun t14 =>
  xW t14
  (xC 53 [.const p0] [28] 0 fun _ =>
  k1) <|
  xO .eql 21 p1 (.int .i32 56) fun t16 =>
  xW t16
  (xC 54 [.const p0] [28] 0 fun _ =>
  k1) <|
  xO .eql 21 p1 (.int .i32 99) fun t18 =>
  xW t18
  (xC 25 [.const p0] [28] 0 fun _ =>
  k1) <|
  K (.tuple #[])) <|
  xC 47 [.const p0] [28] 0 fun _ =>
  k1) <|
  OpX Try.prog (.nilCheck (.const p0)) 0 fun t43 =>
  xF 65 t43 10 fun t44 =>
  xS 4 t44 (.bool false) <|
  K (.tuple #[])
theorem screen_Screen_esc_link (p0 p1 : Value) : Lk 29 #[p0, p1] (screen_Screen_esc p0 p1) := lk [p0, p1] [(3, []), (13, [])] Try.func29 (by kernel_rfl) fun _ _ => by kernel_rfl
theorem screen_Screen_esc_b : Bodied Try.prog 29 := bd Try.func29 (by kernel_rfl)
def screen_Screen_csi (p0 p1 : Value) (K : Value → World → Prop) : World → Prop :=
  xB 35 p1 fun t3 =>
  Join1 (fun k1 =>
  xF 35 t3 2 fun t7 =>
  xL 5 t7 fun t8 =>
  xO .eql 5 t8 (.int .u8 63) fun t9 =>
  xW t9
  (xF 35 t3 3 fun t11 =>
  xL 5 t11 fun t12 =>
  xO .eql 5 t12 (.int .u8 0) fun t13 =>
  xW t13
  (xF 35 t3 1 fun t16 =>
  xL 21 t16 fun t17 =>
  xO .eql 21 t17 (.int .i32 104) fun t18 =>
  xW t18
  (k1 (.bool true)) <|
  xF 35 t3 1 fun t20 =>
  xL 21 t20 fun t21 =>
  xO .eql 21 t21 (.int .i32 108) fun t22 =>
  k1 t22) <|
  k1 (.bool false)) <|
  k1 (.bool false)) fun t6 =>
  xW t6
  (xF 35 t3 5 fun t25 =>
  xF 35 t3 4 fun t26 =>
  xL 3 t26 fun t27 =>
  OpX Try.prog (.call { callee := .builtin .max, args := #[.const t27, .const (.int .i64 0)], argTypes := #[3, 3] }) 3 fun t28 =>
  OpX Try.prog (.call { callee := .builtin .min, args := #[.const t28, .const (.int .i64 8)], argTypes := #[3, 3] }) 3 fun t29 =>
  OpX Try.prog (.slice 33 (.const t25) none (some (.const t29)) none) 42 fun t30 =>
  xU t30 42 fun t31 =>
  Loop1 (.int .i64 0) fun t32 next2 =>
  xO .lss 3 t32 t31 fun t33 =>
  xW t33
  (xI 42 t30 t32 fun t34 =>
  xL 3 t34 fun t35 =>
  xF 35 t3 1 fun t38 =>
  xL 21 t38 fun t39 =>
  xO .eql 21 t39 (.int .i32 104) fun t40 =>
  xC 55 [.const p0, .const t35, .const t40] [28, 3, 4] 0 fun _ =>
  xO .add 3 t32 (.int .i64 1) fun t42 =>
  next2 t42) <|
  K (.tuple #[])) <|
  Join1 (fun k3 =>
  xF 35 t3 2 fun t44 =>
  xL 5 t44 fun t45 =>
  xO .neq 5 t45 (.int .u8 0) fun t46 =>
  xW t46
  (k3 (.bool true)) <|
  xF 35 t3 3 fun t48 =>
  xL 5 t48 fun t49 =>
  xO .neq 5 t49 (.int .u8 0) fun t50 =>
  k3 t50) fun t43 =>
  xW t43
  (K (.tuple #[])) <|
  xL 35 t3 fun t54 =>
  xC 56 [.const p0, .const t54] [28, 35] 4 fun t55 =>
  xW t55
  (K (.tuple #[])) <|
  Join1 (fun k4 =>
  xL 35 t3 fun t58 =>
  xC 57 [.const p0, .const t58] [28, 35] 4 fun t59 =>
  xW t59
  (k4 (.bool true)) <|
  xL 35 t3 fun t62 =>
  xC 58 [.const p0, .const t62] [28, 35] 4 fun t63 =>
  k4 t63) fun t56 =>
  xW t56
  (OpX Try.prog (.nilCheck (.const p0)) 0 fun t66 =>
  xF 65 t66 10 fun t67 =>
  xS 4 t67 (.bool false) <|
  K (.tuple #[])) <|
  K (.tuple #[])
theorem screen_Screen_csi_link (p0 p1 : Value) : Lk 30 #[p0, p1] (screen_Screen_csi p0 p1) := lk [p0, p1] [(4, [6]), (9, [32]), (23, [43]), (31, [56])] Try.func30 (by kernel_rfl) fun _ _ => by kernel_rfl
theorem screen_Screen_csi_b : Bodied Try.prog 30 := bd Try.func30 (by kernel_rfl)
def screen_Screen_within (p0 p1 p2 : Value) (K : Value → World → Prop) : World → Prop :=
  DrewW <|
  xP (.call { callee := .builtin .max, args := #[.const p1, .const (.int .i64 0)], argTypes := #[3, 3] }) 3 fun t9 =>
  xP (.nilCheck (.const p0)) 0 fun t11 =>
  qF 65 t11 0 fun t12 =>
  qL 3 t12 fun t13 =>
  qP .sub 3 t13 (.int .i64 1) fun t14 =>
  xP (.call { callee := .builtin .min, args := #[.const t9, .const t14], argTypes := #[3, 3] }) 3 fun t15 =>
  xP (.call { callee := .builtin .max, args := #[.const p2, .const (.int .i64 0)], argTypes := #[3, 3] }) 3 fun t17 =>
  xP (.nilCheck (.const p0)) 0 fun t19 =>
  qF 65 t19 1 fun t20 =>
  qL 3 t20 fun t21 =>
  qP .sub 3 t21 (.int .i64 1) fun t22 =>
  xP (.call { callee := .builtin .min, args := #[.const t17, .const t22], argTypes := #[3, 3] }) 3 fun t23 =>
  K (.tuple #[t15, t23])
theorem screen_Screen_within_link (p0 p1 p2 : Value) : Lk 36 #[p0, p1, p2] (screen_Screen_within p0 p1 p2) := lk [p0, p1, p2] [] Try.func36 (by kernel_rfl) fun _ _ => by kernel_rfl
theorem screen_Screen_within_b : Bodied Try.prog 36 := bd Try.func36 (by kernel_rfl)
def screen_Screen_move (p0 p1 p2 : Value) (K : Value → World → Prop) : World → Prop :=
  xC 36 [.const p0, .const p1, .const p2] [28, 3, 3] 26 fun t12 =>
  xE t12 0 3 fun t13 =>
  xE t12 1 3 fun t14 =>
  OpX Try.prog (.nilCheck (.const p0)) 0 fun t15 =>
  xF 65 t15 5 fun t16 =>
  xF 61 t16 0 fun t17 =>
  xS 3 t17 t13 <|
  OpX Try.prog (.nilCheck (.const p0)) 0 fun t18 =>
  xF 65 t18 5 fun t19 =>
  xF 61 t19 1 fun t20 =>
  xS 3 t20 t14 <|
  K (.tuple #[])
theorem screen_Screen_move_link (p0 p1 p2 : Value) : Lk 37 #[p0, p1, p2] (screen_Screen_move p0 p1 p2) := lk [p0, p1, p2] [] Try.func37 (by kernel_rfl) fun _ _ => by kernel_rfl
theorem screen_Screen_move_b : Bodied Try.prog 37 := bd Try.func37 (by kernel_rfl)
def screen_Screen_below (p0 : Value) (K : Value → World → Prop) : World → Prop :=
  DrewW <|
  xP (.nilCheck (.const p0)) 0 fun t4 =>
  qF 65 t4 5 fun t5 =>
  qF 61 t5 1 fun t6 =>
  qL 3 t6 fun t7 =>
  xP (.nilCheck (.const p0)) 0 fun t9 =>
  qF 65 t9 7 fun t10 =>
  qL 3 t10 fun t11 =>
  qP .sub 3 t11 (.int .i64 1) fun t12 =>
  qR .eql 3 t7 t12 fun t13 =>
  xW t13
  (xC 70 [.const p0, .const (.int .i64 1)] [28, 3] 0 fun _ =>
  K (.tuple #[])) <|
  DrewW <|
  xP (.nilCheck (.const p0)) 0 fun t18 =>
  qF 65 t18 5 fun t19 =>
  qF 61 t19 1 fun t20 =>
  qL 3 t20 fun t21 =>
  xP (.nilCheck (.const p0)) 0 fun t23 =>
  qF 65 t23 1 fun t24 =>
  qL 3 t24 fun t25 =>
  qP .sub 3 t25 (.int .i64 1) fun t26 =>
  qP .lss 3 t21 t26 fun t27 =>
  xW t27
  (OpX Try.prog (.nilCheck (.const p0)) 0 fun t29 =>
  xF 65 t29 5 fun t30 =>
  xF 61 t30 1 fun t31 =>
  xL 3 t31 fun t32 =>
  xO .add 3 t32 (.int .i64 1) fun t33 =>
  OpX Try.prog (.nilCheck (.const p0)) 0 fun t34 =>
  xF 65 t34 5 fun t35 =>
  xF 61 t35 1 fun t36 =>
  xS 3 t36 t33 <|
  K (.tuple #[])) <|
  K (.tuple #[])
theorem screen_Screen_below_link (p0 : Value) : Lk 47 #[p0] (screen_Screen_below p0) := lk [p0] [] Try.func47 (by kernel_rfl) fun _ _ => by kernel_rfl
theorem screen_Screen_below_b : Bodied Try.prog 47 := bd Try.func47 (by kernel_rfl)
def screen_Screen_line (p0 p1 : Value) (K : Value → World → Prop) : World → Prop :=
  DrewW <|
  xP (.nilCheck (.const p0)) 0 fun t8 =>
  qF 65 t8 5 fun t9 =>
  qF 61 t9 1 fun t10 =>
  qL 3 t10 fun t11 =>
  xP (.nilCheck (.const p0)) 0 fun t13 =>
  qF 65 t13 0 fun t14 =>
  qL 3 t14 fun t15 =>
  qP .mul 3 t11 t15 fun t16 =>
  DrewW <|
  xP (.nilCheck (.const p0)) 0 fun t19 =>
  qF 65 t19 4 fun t20 =>
  qL 3 t20 fun t21 =>
  xP (.nilCheck (.const p0)) 0 fun t22 =>
  qF 65 t22 2 fun t23 =>
  xP (.indexAddr 59 (.const t23) (.const t21)) 0 fun t24 =>
  qF 48 t24 2 fun t25 =>
  qL 45 t25 fun t26 =>
  xP (.nilCheck (.const p0)) 0 fun t30 =>
  qF 65 t30 0 fun t31 =>
  qL 3 t31 fun t32 =>
  qP .add 3 t16 t32 fun t33 =>
  xP (.nilCheck (.const p0)) 0 fun t36 =>
  qF 65 t36 0 fun t37 =>
  qL 3 t37 fun t38 =>
  qP .add 3 t16 t38 fun t39 =>
  xP (.slice 45 (.const t26) (some (.const t16)) (some (.const t33)) (some (.const t39))) 45 fun t40 =>
  OpX Try.prog (.nilCheck (.const p0)) 0 fun t43 =>
  xF 65 t43 0 fun t44 =>
  xL 3 t44 fun t45 =>
  OpX Try.prog (.build 48 #[(0, .const t45), (1, .const (.int .i64 1)), (2, .const t40)]) 48 fun t47 =>
  OpX Try.prog (.call { callee := .value (.const p1), args := #[.const t47], argTypes := #[48] }) 48 fun t48 =>
  xA 48 fun t6 =>
  xS 48 t6 t48 <|
  xF 48 t6 2 fun t50 =>
  xL 45 t50 fun t51 =>
  OpX Try.prog (.call { callee := .builtin .copy, args := #[.const t40, .const t51], argTypes := #[45, 45] }) 3 fun _ =>
  K (.tuple #[])
theorem screen_Screen_line_link (p0 p1 : Value) : Lk 48 #[p0, p1] (screen_Screen_line p0 p1) := lk [p0, p1] [] Try.func48 (by kernel_rfl) fun _ _ => by kernel_rfl
theorem screen_Screen_line_b : Bodied Try.prog 48 := bd Try.func48 (by kernel_rfl)
def screen_Screen_print_1 (p0 p1 p2 : Value) (K : Value → World → Prop) : World → Prop :=
  xB 48 p0 fun t3 =>
  xA 48 fun t4 =>
  DrewW <|
  qL 48 t3 fun t5 =>
  qL 28 p1 fun t6 =>
  xP (.nilCheck (.const t6)) 0 fun t7 =>
  qF 65 t7 5 fun t8 =>
  qF 61 t8 0 fun t9 =>
  qL 3 t9 fun t10 =>
  qL 21 p2 fun t11 =>
  qL 28 p1 fun t12 =>
  xP (.nilCheck (.const t12)) 0 fun t13 =>
  qF 65 t13 5 fun t14 =>
  qF 61 t14 2 fun t15 =>
  qL 39 t15 fun t16 =>
  xC 51 [.const t11, .const t16] [21, 39] 45 fun t17 =>
  xT (qZ 3 t9 t10) <|
  xT (qZ 28 p1 t6) <|
  xT (qZ 48 t3 t5) <|
  xC 50 [.const t5, .const t10, .const (.int .i64 0), .const t17] [48, 3, 3, 45] 48 fun t18 =>
  xS 48 t4 t18 <|
  xD 48 t4 fun t4_1 =>
  K t4_1
theorem screen_Screen_print_1_link (p0 p1 p2 : Value) : Lk 49 #[p0, p1, p2] (screen_Screen_print_1 p0 p1 p2) := lk [p0, p1, p2] [] Try.func49 (by kernel_rfl) fun _ _ => by kernel_rfl
theorem screen_Screen_print_1_b : Bodied Try.prog 49 := bd Try.func49 (by kernel_rfl)
def screen_Screen_save (p0 : Value) (K : Value → World → Prop) : World → Prop :=
  DrewW <|
  xP (.nilCheck (.const p0)) 0 fun t4 =>
  qF 65 t4 4 fun t5 =>
  qL 3 t5 fun t6 =>
  xP (.nilCheck (.const p0)) 0 fun t8 =>
  qF 65 t8 5 fun t9 =>
  qL 61 t9 fun t10 =>
  xP (.nilCheck (.const p0)) 0 fun t11 =>
  qF 65 t11 3 fun t12 =>
  xP (.indexAddr 62 (.const t12) (.const t6)) 0 fun t13 =>
  xS 61 t13 t10 <|
  K (.tuple #[])
theorem screen_Screen_save_link (p0 : Value) : Lk 52 #[p0] (screen_Screen_save p0) := lk [p0] [] Try.func52 (by kernel_rfl) fun _ _ => by kernel_rfl
theorem screen_Screen_save_b : Bodied Try.prog 52 := bd Try.func52 (by kernel_rfl)
def screen_Screen_above (p0 : Value) (K : Value → World → Prop) : World → Prop :=
  DrewW <|
  xP (.nilCheck (.const p0)) 0 fun t4 =>
  qF 65 t4 5 fun t5 =>
  qF 61 t5 1 fun t6 =>
  qL 3 t6 fun t7 =>
  xP (.nilCheck (.const p0)) 0 fun t9 =>
  qF 65 t9 6 fun t10 =>
  qL 3 t10 fun t11 =>
  qR .eql 3 t7 t11 fun t12 =>
  xW t12
  (OpX Try.prog (.nilCheck (.const p0)) 0 fun t15 =>
  xF 65 t15 6 fun t16 =>
  xL 3 t16 fun t17 =>
  xC 74 [.const p0, .const t17, .const (.int .i64 (-1))] [28, 3, 3] 0 fun _ =>
  K (.tuple #[])) <|
  OpX Try.prog (.nilCheck (.const p0)) 0 fun t21 =>
  xF 65 t21 5 fun t22 =>
  xF 61 t22 1 fun t23 =>
  xL 3 t23 fun t24 =>
  xO .gtr 3 t24 (.int .i64 0) fun t25 =>
  xW t25
  (OpX Try.prog (.nilCheck (.const p0)) 0 fun t27 =>
  xF 65 t27 5 fun t28 =>
  xF 61 t28 1 fun t29 =>
  xL 3 t29 fun t30 =>
  xO .sub 3 t30 (.int .i64 1) fun t31 =>
  OpX Try.prog (.nilCheck (.const p0)) 0 fun t32 =>
  xF 65 t32 5 fun t33 =>
  xF 61 t33 1 fun t34 =>
  xS 3 t34 t31 <|
  K (.tuple #[])) <|
  K (.tuple #[])
theorem screen_Screen_above_link (p0 : Value) : Lk 53 #[p0] (screen_Screen_above p0) := lk [p0] [] Try.func53 (by kernel_rfl) fun _ _ => by kernel_rfl
theorem screen_Screen_above_b : Bodied Try.prog 53 := bd Try.func53 (by kernel_rfl)
def screen_Screen_restore (p0 : Value) (K : Value → World → Prop) : World → Prop :=
  DrewW <|
  xP (.nilCheck (.const p0)) 0 fun t5 =>
  qF 65 t5 4 fun t6 =>
  qL 3 t6 fun t7 =>
  xP (.nilCheck (.const p0)) 0 fun t8 =>
  qF 65 t8 3 fun t9 =>
  xP (.indexAddr 62 (.const t9) (.const t7)) 0 fun t10 =>
  qL 61 t10 fun t11 =>
  xP (.nilCheck (.const p0)) 0 fun t12 =>
  qF 65 t12 5 fun t13 =>
  xS 61 t13 t11 <|
  OpX Try.prog (.nilCheck (.const p0)) 0 fun t15 =>
  xF 65 t15 10 fun t16 =>
  xS 4 t16 (.bool false) <|
  K (.tuple #[])
theorem screen_Screen_restore_link (p0 : Value) : Lk 54 #[p0] (screen_Screen_restore p0) := lk [p0] [] Try.func54 (by kernel_rfl) fun _ _ => by kernel_rfl
theorem screen_Screen_restore_b : Bodied Try.prog 54 := bd Try.func54 (by kernel_rfl)
def screen_Screen_mode (p0 p1 p2 : Value) (K : Value → World → Prop) : World → Prop :=
  xO .eql 3 p1 (.int .i64 7) fun t8 =>
  xW t8
  (OpX Try.prog (.nilCheck (.const p0)) 0 fun t11 =>
  xF 65 t11 9 fun t12 =>
  xS 4 t12 p2 <|
  Join0 (fun k1 =>
  OpX Try.prog (.nilCheck (.const p0)) 0 fun t15 =>
  xF 65 t15 10 fun t16 =>
  xL 4 t16 fun t17 =>
  xW t17
  (OpX Try.prog (.nilCheck (.const p0)) 0 fun t21 =>
  xF 65 t21 10 fun t22 =>
  xS 4 t22 p2 <|
  k1) <|
  OpX Try.prog (.nilCheck (.const p0)) 0 fun t21_1 =>
  xF 65 t21_1 10 fun t22_1 =>
  xS 4 t22_1 (.bool false) <|
  k1) <|
  K (.tuple #[])) <|
  xO .eql 3 p1 (.int .i64 25) fun t24 =>
  xW t24
  (OpX Try.prog (.nilCheck (.const p0)) 0 fun t27 =>
  xF 65 t27 11 fun t28 =>
  xS 4 t28 p2 <|
  K (.tuple #[])) <|
  Join1 (fun k2 =>
  xO .eql 3 p1 (.int .i64 47) fun t30 =>
  xW t30
  (k2 (.bool true)) <|
  xO .eql 3 p1 (.int .i64 1047) fun t31 =>
  xW t31
  (k2 (.bool true)) <|
  xO .eql 3 p1 (.int .i64 1049) fun t32 =>
  k2 t32) fun t29 =>
  xW t29
  (Join1 (fun k3 =>
  xW p2
  (OpX Try.prog (.nilCheck (.const p0)) 0 fun t37 =>
  xF 65 t37 4 fun t38 =>
  xL 3 t38 fun t39 =>
  xO .eql 3 t39 (.int .i64 0) fun t40 =>
  k3 t40) <|
  k3 (.bool false)) fun t33 =>
  xW t33
  (xC 52 [.const p0] [28] 0 fun _ =>
  OpX Try.prog (.nilCheck (.const p0)) 0 fun t45 =>
  xF 65 t45 4 fun t46 =>
  xS 3 t46 (.int .i64 1) <|
  DrewW <|
  xP (.nilCheck (.const p0)) 0 fun t49 =>
  qF 65 t49 0 fun t50 =>
  qL 3 t50 fun t51 =>
  xP (.nilCheck (.const p0)) 0 fun t53 =>
  qF 65 t53 1 fun t54 =>
  qL 3 t54 fun t55 =>
  xP (.nilCheck (.const p0)) 0 fun t57 =>
  qF 65 t57 2 fun t58 =>
  xC 23 [.const t51, .const t55] [3, 3] 48 fun t56 =>
  xP (.indexAddr 59 (.const t58) (.const (.int .i64 1))) 0 fun t59 =>
  xS 48 t59 t56 <|
  OpX Try.prog (.nilCheck (.const p0)) 0 fun t61 =>
  xF 65 t61 10 fun t62 =>
  xS 4 t62 (.bool false) <|
  K (.tuple #[])) <|
  Join1 (fun k4 =>
  xN 4 p2 fun t65 =>
  xW t65
  (OpX Try.prog (.nilCheck (.const p0)) 0 fun t68 =>
  xF 65 t68 4 fun t69 =>
  xL 3 t69 fun t70 =>
  xO .eql 3 t70 (.int .i64 1) fun t71 =>
  k4 t71) <|
  k4 (.bool false)) fun t63 =>
  xW t63
  (OpX Try.prog (.nilCheck (.const p0)) 0 fun t74 =>
  xF 65 t74 4 fun t75 =>
  xS 3 t75 (.int .i64 0) <|
  xC 54 [.const p0] [28] 0 fun _ =>
  K (.tuple #[])) <|
  K (.tuple #[])) <|
  K (.tuple #[])
theorem screen_Screen_mode_link (p0 p1 p2 : Value) : Lk 55 #[p0, p1, p2] (screen_Screen_mode p0 p1 p2) := lk [p0, p1, p2] [(8, []), (13, [29]), (26, [33]), (36, [63])] Try.func55 (by kernel_rfl) fun _ _ => by kernel_rfl
theorem screen_Screen_mode_b : Bodied Try.prog 55 := bd Try.func55 (by kernel_rfl)
def screen_Screen_set (p0 p1 : Value) (K : Value → World → Prop) : World → Prop :=
  xB 35 p1 fun t3 =>
  Join0 (fun k1 =>
  xF 35 t3 1 fun t5 =>
  xL 21 t5 fun t6 =>
  xO .eql 21 t6 (.int .i32 109) fun t8 =>
  xW t8
  (DrewW <|
  xP (.nilCheck (.const p0)) 0 fun t11 =>
  qF 65 t11 5 fun t12 =>
  qF 61 t12 2 fun t13 =>
  qL 39 t13 fun t14 =>
  qL 35 t3 fun t15 =>
  xC 75 [.const t14, .const t15] [39, 35] 39 fun t16 =>
  xP (.nilCheck (.const p0)) 0 fun t17 =>
  qF 65 t17 5 fun t18 =>
  qF 61 t18 2 fun t19 =>
  xS 39 t19 t16 <|
  k1) <|
  xO .eql 21 t6 (.int .i32 103) fun t21 =>
  xW t21
  (xL 35 t3 fun t22 =>
  xC 76 [.const t22, .const (.int .i64 0), .const (.int .i64 0)] [35, 3, 3] 3 fun t23 =>
  xO .eql 3 t23 (.int .i64 0) fun t25 =>
  xW t25
  (DrewW <|
  xP (.nilCheck (.const p0)) 0 fun t28 =>
  qF 65 t28 5 fun t29 =>
  qF 61 t29 0 fun t30 =>
  qL 3 t30 fun t31 =>
  xP (.nilCheck (.const p0)) 0 fun t32 =>
  qF 65 t32 8 fun t33 =>
  xP (.indexAddr 63 (.const t33) (.const t31)) 0 fun t34 =>
  xS 4 t34 (.bool false) <|
  k1) <|
  xO .eql 3 t23 (.int .i64 3) fun t36 =>
  xW t36
  (OpX Try.prog (.build 63 #[]) 63 fun t38 =>
  OpX Try.prog (.nilCheck (.const p0)) 0 fun t39 =>
  xF 65 t39 8 fun t40 =>
  xS 63 t40 t38 <|
  k1) <|
  k1) <|
  xO .eql 21 t6 (.int .i32 115) fun t42 =>
  xW t42
  (xC 52 [.const p0] [28] 0 fun _ =>
  k1) <|
  K (.bool false)) <|
  K (.bool true)
theorem screen_Screen_set_link (p0 p1 : Value) : Lk 56 #[p0, p1] (screen_Screen_set p0 p1) := lk [p0, p1] [(2, [])] Try.func56 (by kernel_rfl) fun _ _ => by kernel_rfl
theorem screen_Screen_set_b : Bodied Try.prog 56 := bd Try.func56 (by kernel_rfl)
def screen_Screen_moved (p0 p1 : Value) (K : Value → World → Prop) : World → Prop :=
  xB 35 p1 fun t3 =>
  xL 35 t3 fun t8 =>
  xC 76 [.const t8, .const (.int .i64 0), .const (.int .i64 1)] [35, 3, 3] 3 fun t9 =>
  OpX Try.prog (.call { callee := .builtin .min, args := #[.const t9, .const (.int .i64 9999)], argTypes := #[3, 3] }) 3 fun t10 =>
  xF 35 t3 1 fun t11 =>
  xL 21 t11 fun t12 =>
  Join0 (fun k1 =>
  Join0 (fun k2 =>
  Join0 (fun k3 =>
  xO .eql 21 t12 (.int .i32 70) fun t14 =>
  xW t14
  (OpX Try.prog (.nilCheck (.const p0)) 0 fun t36 =>
  xF 65 t36 5 fun t37 =>
  xF 61 t37 0 fun t38 =>
  xS 3 t38 (.int .i64 0) <|
  k3) <|
  xO .eql 21 t12 (.int .i32 65) fun t16 =>
  xW t16
  (k3) <|
  xO .eql 21 t12 (.int .i32 69) fun t18 =>
  xW t18
  (OpX Try.prog (.nilCheck (.const p0)) 0 fun t67 =>
  xF 65 t67 5 fun t68 =>
  xF 61 t68 0 fun t69 =>
  xS 3 t69 (.int .i64 0) <|
  k2) <|
  xO .eql 21 t12 (.int .i32 66) fun t20 =>
  xW t20
  (k2) <|
  xO .eql 21 t12 (.int .i32 67) fun t22 =>
  xW t22
  (DrewW <|
  xP (.nilCheck (.const p0)) 0 fun t106 =>
  qF 65 t106 5 fun t107 =>
  qF 61 t107 0 fun t108 =>
  qL 3 t108 fun t109 =>
  qP .add 3 t109 t10 fun t111 =>
  xP (.nilCheck (.const p0)) 0 fun t113 =>
  qF 65 t113 5 fun t114 =>
  qF 61 t114 1 fun t115 =>
  qL 3 t115 fun t116 =>
  xC 37 [.const p0, .const t111, .const t116] [28, 3, 3] 0 fun _ =>
  k1) <|
  xO .eql 21 t12 (.int .i32 68) fun t24 =>
  xW t24
  (DrewW <|
  xP (.nilCheck (.const p0)) 0 fun t120 =>
  qF 65 t120 5 fun t121 =>
  qF 61 t121 0 fun t122 =>
  qL 3 t122 fun t123 =>
  qP .sub 3 t123 t10 fun t125 =>
  xP (.nilCheck (.const p0)) 0 fun t127 =>
  qF 65 t127 5 fun t128 =>
  qF 61 t128 1 fun t129 =>
  qL 3 t129 fun t130 =>
  xC 37 [.const p0, .const t125, .const t130] [28, 3, 3] 0 fun _ =>
  k1) <|
  Join1 (fun k4 =>
  xO .eql 21 t12 (.int .i32 71) fun t26 =>
  xW t26
  (k4 (.bool true)) <|
  xO .eql 21 t12 (.int .i32 96) fun t27 =>
  k4 t27) fun t25 =>
  xW t25
  (xO .sub 3 t10 (.int .i64 1) fun t134 =>
  OpX Try.prog (.nilCheck (.const p0)) 0 fun t136 =>
  xF 65 t136 5 fun t137 =>
  xF 61 t137 1 fun t138 =>
  xL 3 t138 fun t139 =>
  xC 37 [.const p0, .const t134, .const t139] [28, 3, 3] 0 fun _ =>
  k1) <|
  xO .eql 21 t12 (.int .i32 100) fun t29 =>
  xW t29
  (OpX Try.prog (.nilCheck (.const p0)) 0 fun t143 =>
  xF 65 t143 5 fun t144 =>
  xF 61 t144 0 fun t145 =>
  xL 3 t145 fun t146 =>
  xO .sub 3 t10 (.int .i64 1) fun t148 =>
  xC 37 [.const p0, .const t146, .const t148] [28, 3, 3] 0 fun _ =>
  k1) <|
  Join1 (fun k5 =>
  xO .eql 21 t12 (.int .i32 72) fun t31 =>
  xW t31
  (k5 (.bool true)) <|
  xO .eql 21 t12 (.int .i32 102) fun t32 =>
  k5 t32) fun t30 =>
  xW t30
  (xL 35 t3 fun t151 =>
  xC 76 [.const t151, .const (.int .i64 1), .const (.int .i64 1)] [35, 3, 3] 3 fun t152 =>
  xO .sub 3 t152 (.int .i64 1) fun t153 =>
  xO .sub 3 t10 (.int .i64 1) fun t155 =>
  xC 37 [.const p0, .const t153, .const t155] [28, 3, 3] 0 fun _ =>
  k1) <|
  xO .eql 21 t12 (.int .i32 117) fun t34 =>
  xW t34
  (xC 54 [.const p0] [28] 0 fun _ =>
  k1) <|
  K (.bool false)) <|
  Join1 (fun k6 =>
  DrewW <|
  xP (.nilCheck (.const p0)) 0 fun t40 =>
  qF 65 t40 5 fun t41 =>
  qF 61 t41 1 fun t42 =>
  qL 3 t42 fun t43 =>
  xP (.nilCheck (.const p0)) 0 fun t45 =>
  qF 65 t45 6 fun t46 =>
  qL 3 t46 fun t47 =>
  qP .geq 3 t43 t47 fun t48 =>
  xW t48
  (OpX Try.prog (.nilCheck (.const p0)) 0 fun t50 =>
  xF 65 t50 6 fun t51 =>
  xL 3 t51 fun t52 =>
  k6 t52) <|
  k6 (.int .i64 0)) fun t6 =>
  OpX Try.prog (.nilCheck (.const p0)) 0 fun t55 =>
  xF 65 t55 5 fun t56 =>
  xF 61 t56 1 fun t57 =>
  xL 3 t57 fun t58 =>
  xO .sub 3 t58 t10 fun t60 =>
  OpX Try.prog (.call { callee := .builtin .max, args := #[.const t60, .const t6], argTypes := #[3, 3] }) 3 fun t62 =>
  OpX Try.prog (.nilCheck (.const p0)) 0 fun t63 =>
  xF 65 t63 5 fun t64 =>
  xF 61 t64 1 fun t65 =>
  xS 3 t65 t62 <|
  k1) <|
  OpX Try.prog (.nilCheck (.const p0)) 0 fun t71 =>
  xF 65 t71 1 fun t72 =>
  xL 3 t72 fun t73 =>
  xO .sub 3 t73 (.int .i64 1) fun t74 =>
  Join1 (fun k7 =>
  DrewW <|
  xP (.nilCheck (.const p0)) 0 fun t76 =>
  qF 65 t76 5 fun t77 =>
  qF 61 t77 1 fun t78 =>
  qL 3 t78 fun t79 =>
  xP (.nilCheck (.const p0)) 0 fun t81 =>
  qF 65 t81 7 fun t82 =>
  qL 3 t82 fun t83 =>
  qP .sub 3 t83 (.int .i64 1) fun t84 =>
  qP .leq 3 t79 t84 fun t85 =>
  xW t85
  (OpX Try.prog (.nilCheck (.const p0)) 0 fun t87 =>
  xF 65 t87 7 fun t88 =>
  xL 3 t88 fun t89 =>
  xO .sub 3 t89 (.int .i64 1) fun t90 =>
  k7 t90) <|
  k7 t74) fun t7 =>
  OpX Try.prog (.nilCheck (.const p0)) 0 fun t93 =>
  xF 65 t93 5 fun t94 =>
  xF 61 t94 1 fun t95 =>
  xL 3 t95 fun t96 =>
  xO .add 3 t96 t10 fun t98 =>
  OpX Try.prog (.call { callee := .builtin .min, args := #[.const t98, .const t7], argTypes := #[3, 3] }) 3 fun t100 =>
  OpX Try.prog (.nilCheck (.const p0)) 0 fun t101 =>
  xF 65 t101 5 fun t102 =>
  xF 61 t102 1 fun t103 =>
  xS 3 t103 t100 <|
  k1) <|
  K (.bool true)
theorem screen_Screen_moved_link (p0 p1 : Value) : Lk 57 #[p0, p1] (screen_Screen_moved p0 p1) := lk [p0, p1] [(7, []), (23, []), (27, []), (68, [25]), (84, [30]), (103, [6]), (115, [7])] Try.func57 (by kernel_rfl) fun _ _ => by kernel_rfl
theorem screen_Screen_moved_b : Bodied Try.prog 57 := bd Try.func57 (by kernel_rfl)
def screen_Screen_changed (p0 p1 : Value) (K : Value → World → Prop) : World → Prop :=
  xB 28 p0 fun t2 =>
  xB 35 p1 fun t3 =>
  xL 35 t3 fun t8 =>
  xC 76 [.const t8, .const (.int .i64 0), .const (.int .i64 1)] [35, 3, 3] 3 fun t9 =>
  OpX Try.prog (.call { callee := .builtin .min, args := #[.const t9, .const (.int .i64 9999)], argTypes := #[3, 3] }) 3 fun t10 =>
  xA 3 fun t5 =>
  xS 3 t5 t10 <|
  DrewW <|
  qL 28 t2 fun t11 =>
  xP (.nilCheck (.const t11)) 0 fun t12 =>
  qF 65 t12 5 fun t13 =>
  qF 61 t13 0 fun t14 =>
  qL 3 t14 fun t15 =>
  qL 28 t2 fun t16 =>
  xP (.nilCheck (.const t16)) 0 fun t17 =>
  qF 65 t17 5 fun t18 =>
  qF 61 t18 1 fun t19 =>
  qL 3 t19 fun t20 =>
  xA 3 fun t6 =>
  xT (qZ 3 t19 t20) <|
  xT (qZ 28 t2 t16) <|
  xT (qZ 3 t14 t15) <|
  xT (qZ 28 t2 t11) <|
  xS 3 t6 t15 <|
  xT (qZ 3 t19 t20) <|
  xT (qZ 28 t2 t16) <|
  xF 35 t3 1 fun t21 =>
  xL 21 t21 fun t22 =>
  Join0 (fun k1 =>
  Join0 (fun k2 =>
  Join0 (fun k3 =>
  Join0 (fun k4 =>
  xO .eql 21 t22 (.int .i32 74) fun t24 =>
  xW t24
  (xL 35 t3 fun t43 =>
  xC 76 [.const t43, .const (.int .i64 0), .const (.int .i64 0)] [35, 3, 3] 3 fun t44 =>
  xO .eql 3 t44 (.int .i64 0) fun t46 =>
  xW t46
  (DrewW <|
  qL 28 t2 fun t47 =>
  qP .add 3 t20 (.int .i64 1) fun t49 =>
  qL 28 t2 fun t50 =>
  xP (.nilCheck (.const t50)) 0 fun t51 =>
  qF 65 t51 1 fun t52 =>
  qL 3 t52 fun t53 =>
  xC 77 [.const t47, .const t49, .const t53] [28, 3, 3] 0 fun _ =>
  k4) <|
  xO .eql 3 t44 (.int .i64 1) fun t56 =>
  xW t56
  (xL 28 t2 fun t57 =>
  xC 77 [.const t57, .const (.int .i64 0), .const t20] [28, 3, 3] 0 fun _ =>
  k4) <|
  xO .eql 3 t44 (.int .i64 2) fun t61 =>
  xW t61
  (DrewW <|
  qL 28 t2 fun t62 =>
  qL 28 t2 fun t63 =>
  xP (.nilCheck (.const t63)) 0 fun t64 =>
  qF 65 t64 1 fun t65 =>
  qL 3 t65 fun t66 =>
  xC 77 [.const t62, .const (.int .i64 0), .const t66] [28, 3, 3] 0 fun _ =>
  k4) <|
  k4) <|
  xO .eql 21 t22 (.int .i32 75) fun t26 =>
  xW t26
  (k4) <|
  xO .eql 21 t22 (.int .i32 77) fun t28 =>
  xW t28
  (xL 3 t5 fun t93 =>
  OpX Try.prog (.unOp .neg 3 (.const t93)) 3 fun t94 =>
  xS 3 t5 t94 <|
  k3) <|
  xO .eql 21 t22 (.int .i32 76) fun t30 =>
  xW t30
  (k3) <|
  xO .eql 21 t22 (.int .i32 80) fun t32 =>
  xW t32
  (xL 3 t5 fun t118 =>
  OpX Try.prog (.unOp .neg 3 (.const t118)) 3 fun t119 =>
  xS 3 t5 t119 <|
  k2) <|
  xO .eql 21 t22 (.int .i32 64) fun t34 =>
  xW t34
  (k2) <|
  xO .eql 21 t22 (.int .i32 88) fun t36 =>
  xW t36
  (xL 28 t2 fun t123 =>
  xL 3 t6 fun t124 =>
  xL 3 t5 fun t125 =>
  xC 78 [.const t123, .const t124, .const t125] [28, 3, 3] 0 fun _ =>
  k1) <|
  xO .eql 21 t22 (.int .i32 83) fun t38 =>
  xW t38
  (xL 28 t2 fun t127 =>
  xL 3 t5 fun t128 =>
  xC 70 [.const t127, .const t128] [28, 3] 0 fun _ =>
  k1) <|
  xO .eql 21 t22 (.int .i32 84) fun t40 =>
  xW t40
  (DrewW <|
  qL 28 t2 fun t130 =>
  qL 28 t2 fun t131 =>
  xP (.nilCheck (.const t131)) 0 fun t132 =>
  qF 65 t132 6 fun t133 =>
  qL 3 t133 fun t134 =>
  qL 3 t5 fun t135 =>
  xP (.unOp .neg 3 (.const t135)) 3 fun t136 =>
  xC 74 [.const t130, .const t134, .const t136] [28, 3, 3] 0 fun _ =>
  k1) <|
  xO .eql 21 t22 (.int .i32 114) fun t42 =>
  xW t42
  (DrewW <|
  qL 28 t2 fun t138 =>
  qL 3 t5 fun t139 =>
  qP .sub 3 t139 (.int .i64 1) fun t140 =>
  qL 35 t3 fun t141 =>
  xC 76 [.const t141, .const (.int .i64 1), .const (.int .i64 0)] [35, 3, 3] 3 fun t142 =>
  xT (qZ 3 t5 t139) <|
  xT (qZ 28 t2 t138) <|
  xC 82 [.const t138, .const t140, .const t142] [28, 3, 3] 0 fun _ =>
  k1) <|
  K (.bool false)) <|
  xL 35 t3 fun t68 =>
  xC 76 [.const t68, .const (.int .i64 0), .const (.int .i64 0)] [35, 3, 3] 3 fun t69 =>
  xO .eql 3 t69 (.int .i64 0) fun t71 =>
  xW t71
  (DrewW <|
  qL 28 t2 fun t72 =>
  qL 3 t6 fun t73 =>
  qL 28 t2 fun t74 =>
  xP (.nilCheck (.const t74)) 0 fun t75 =>
  qF 65 t75 0 fun t76 =>
  qL 3 t76 fun t77 =>
  xC 78 [.const t72, .const t73, .const t77] [28, 3, 3] 0 fun _ =>
  k1) <|
  xO .eql 3 t69 (.int .i64 1) fun t80 =>
  xW t80
  (xL 28 t2 fun t81 =>
  xL 3 t6 fun t82 =>
  xO .add 3 t82 (.int .i64 1) fun t83 =>
  xC 78 [.const t81, .const (.int .i64 0), .const t83] [28, 3, 3] 0 fun _ =>
  k1) <|
  xO .eql 3 t69 (.int .i64 2) fun t86 =>
  xW t86
  (DrewW <|
  qL 28 t2 fun t87 =>
  qL 28 t2 fun t88 =>
  xP (.nilCheck (.const t88)) 0 fun t89 =>
  qF 65 t89 0 fun t90 =>
  qL 3 t90 fun t91 =>
  xC 78 [.const t87, .const (.int .i64 0), .const t91] [28, 3, 3] 0 fun _ =>
  k1) <|
  k1) <|
  Join1 (fun k5 =>
  xL 28 t2 fun t96 =>
  OpX Try.prog (.nilCheck (.const t96)) 0 fun t97 =>
  xF 65 t97 6 fun t98 =>
  xL 3 t98 fun t99 =>
  xO .geq 3 t20 t99 fun t100 =>
  xW t100
  (xL 28 t2 fun t103 =>
  OpX Try.prog (.nilCheck (.const t103)) 0 fun t104 =>
  xF 65 t104 7 fun t105 =>
  xL 3 t105 fun t106 =>
  xO .lss 3 t20 t106 fun t107 =>
  k5 t107) <|
  k5 (.bool false)) fun t108 =>
  xW t108
  (xL 28 t2 fun t109 =>
  xL 3 t5 fun t111 =>
  OpX Try.prog (.unOp .neg 3 (.const t111)) 3 fun t112 =>
  xC 74 [.const t109, .const t20, .const t112] [28, 3, 3] 0 fun _ =>
  xL 28 t2 fun t114 =>
  OpX Try.prog (.nilCheck (.const t114)) 0 fun t115 =>
  xF 65 t115 5 fun t116 =>
  xF 61 t116 0 fun t117 =>
  xS 3 t117 (.int .i64 0) <|
  k1) <|
  k1) <|
  xL 28 t2 fun t120 =>
  OpX Try.prog (.makeFunc (.func 79) #[] #[.const t6, .const t5, .const t2]) 87 fun t121 =>
  xC 48 [.const t120, .const t121] [28, 87] 0 fun _ =>
  k1) <|
  K (.bool true)
theorem screen_Screen_changed_link (p0 p1 : Value) : Lk 58 #[p0, p1] (screen_Screen_changed p0 p1) := lk [p0, p1] [(9, []), (21, []), (25, []), (29, []), (130, [108])] Try.func58 (by kernel_rfl) fun _ _ => by kernel_rfl
theorem screen_Screen_changed_b : Bodied Try.prog 58 := bd Try.func58 (by kernel_rfl)
def screen_Screen_up (p0 p1 : Value) (K : Value → World → Prop) : World → Prop :=
  Join0 (fun k1 =>
  Join1 (fun k2 =>
  OpX Try.prog (.nilCheck (.const p0)) 0 fun t6 =>
  xF 65 t6 6 fun t7 =>
  xL 3 t7 fun t8 =>
  xO .eql 3 t8 (.int .i64 0) fun t9 =>
  xW t9
  (OpX Try.prog (.nilCheck (.const p0)) 0 fun t12 =>
  xF 65 t12 4 fun t13 =>
  xL 3 t13 fun t14 =>
  xO .eql 3 t14 (.int .i64 0) fun t15 =>
  k2 t15) <|
  k2 (.bool false)) fun t16 =>
  xW t16
  (OpX Try.prog (.nilCheck (.const p0)) 0 fun t19 =>
  xF 65 t19 7 fun t20 =>
  xL 3 t20 fun t21 =>
  OpX Try.prog (.call { callee := .builtin .min, args := #[.const p1, .const t21], argTypes := #[3, 3] }) 3 fun t22 =>
  Loop1 (.int .i64 0) fun t23 next3 =>
  xO .lss 3 t23 t22 fun t24 =>
  xW t24
  (DrewW <|
  xP (.nilCheck (.const p0)) 0 fun t28 =>
  qF 65 t28 12 fun t29 =>
  qL 43 t29 fun t30 =>
  xP (.nilCheck (.const p0)) 0 fun t32 =>
  qF 65 t32 2 fun t33 =>
  xP (.indexAddr 59 (.const t33) (.const (.int .i64 0))) 0 fun t34 =>
  qL 48 t34 fun t35 =>
  xC 89 [.const t35, .const t23] [48, 3] 45 fun t37 =>
  xT (qZ 43 t29 t30) <|
  OpX Try.prog (.buildSlice 43 1 #[(0, .const t37)]) 43 fun t38 =>
  xT (qZ 43 t29 t30) <|
  OpX Try.prog (.call { callee := .builtin .append, args := #[.const t30, .const t38], argTypes := #[43, 43] }) 43 fun t39 =>
  xP (.nilCheck (.const p0)) 0 fun t40 =>
  qF 65 t40 12 fun t41 =>
  xS 43 t41 t39 <|
  xO .add 3 t23 (.int .i64 1) fun t42 =>
  next3 t42) <|
  DrewW <|
  xP (.nilCheck (.const p0)) 0 fun t45 =>
  qF 65 t45 12 fun t46 =>
  qL 43 t46 fun t47 =>
  xP (.nilCheck (.const p0)) 0 fun t49 =>
  qF 65 t49 12 fun t50 =>
  qL 43 t50 fun t51 =>
  xR (.call { callee := .builtin .len, args := #[.const t51], argTypes := #[43] }) 3 fun t52 =>
  qP .sub 3 t52 (.int .i64 500) fun t53 =>
  xP (.call { callee := .builtin .max, args := #[.const t53, .const (.int .i64 0)], argTypes := #[3, 3] }) 3 fun t54 =>
  xC 90 [.const t47, .const (.int .i64 0), .const t54] [43, 3, 3] 43 fun t55 =>
  xP (.nilCheck (.const p0)) 0 fun t56 =>
  qF 65 t56 12 fun t57 =>
  xS 43 t57 t55 <|
  k1) <|
  k1) <|
  OpX Try.prog (.nilCheck (.const p0)) 0 fun t60 =>
  xF 65 t60 6 fun t61 =>
  xL 3 t61 fun t62 =>
  xC 74 [.const p0, .const t62, .const p1] [28, 3, 3] 0 fun _ =>
  K (.tuple #[])
theorem screen_Screen_up_link (p0 p1 : Value) : Lk 70 #[p0, p1] (screen_Screen_up p0 p1) := lk [p0, p1] [(0, []), (2, [16]), (8, [23])] Try.func70 (by kernel_rfl) fun _ _ => by kernel_rfl
theorem screen_Screen_up_b : Bodied Try.prog 70 := bd Try.func70 (by kernel_rfl)
def screen_Screen_scroll (p0 p1 p2 : Value) (K : Value → World → Prop) : World → Prop :=
  DrewW <|
  xP (.nilCheck (.const p0)) 0 fun t9 =>
  qF 65 t9 4 fun t10 =>
  qL 3 t10 fun t11 =>
  xP (.nilCheck (.const p0)) 0 fun t12 =>
  qF 65 t12 2 fun t13 =>
  xP (.indexAddr 59 (.const t13) (.const t11)) 0 fun t14 =>
  DrewW <|
  xP (.nilCheck (.const t14)) 0 fun t17 =>
  qL 48 t17 fun t18 =>
  xP (.nilCheck (.const p0)) 0 fun t21 =>
  qF 65 t21 7 fun t22 =>
  qL 3 t22 fun t23 =>
  xC 81 [.const p0] [28] 39 fun t26 =>
  xT (qZ 3 t22 t23) <|
  xT (qZ 48 t17 t18) <|
  xC 91 [.const t18, .const p1, .const t23, .const p2, .const t26] [48, 3, 3, 3, 39] 48 fun t27 =>
  xP (.nilCheck (.const t14)) 0 fun t28 =>
  xS 48 t28 t27 <|
  K (.tuple #[])
theorem screen_Screen_scroll_link (p0 p1 p2 : Value) : Lk 74 #[p0, p1, p2] (screen_Screen_scroll p0 p1 p2) := lk [p0, p1, p2] [] Try.func74 (by kernel_rfl) fun _ _ => by kernel_rfl
theorem screen_Screen_scroll_b : Bodied Try.prog 74 := bd Try.func74 (by kernel_rfl)
def screen_Screen_clear (p0 p1 p2 : Value) (K : Value → World → Prop) : World → Prop :=
  DrewW <|
  xP (.nilCheck (.const p0)) 0 fun t9 =>
  qF 65 t9 4 fun t10 =>
  qL 3 t10 fun t11 =>
  xP (.nilCheck (.const p0)) 0 fun t12 =>
  qF 65 t12 2 fun t13 =>
  xP (.indexAddr 59 (.const t13) (.const t11)) 0 fun t14 =>
  DrewW <|
  Join0 (fun k1 =>
  xP (.nilCheck (.const t14)) 0 fun t17 =>
  qL 48 t17 fun t18 =>
  xP (.nilCheck (.const p0)) 0 fun t21 =>
  qF 65 t21 0 fun t22 =>
  qL 3 t22 fun t23 =>
  xT (OpX Try.prog (.build 121 #[(1, .const p1), (2, .const t23), (3, .const p2)]) 121 fun t25 =>
  xT (qZ 48 t17 t18) <|
  xC 81 [.const p0] [28] 39 fun t27 =>
  xT (qZ 48 t17 t18) <|
  xC 95 [.const t18, .const t25, .const t27] [48, 121, 39] 48 fun t28 =>
  xP (.nilCheck (.const t14)) 0 fun t29 =>
  xS 48 t29 t28 <|
  k1) <|
  xC 81 [.const p0] [28] 39 fun t27_1 =>
  xT (qZ 3 t22 t23) <|
  xT (qZ 48 t17 t18) <|
  OpX Try.prog (.build 121 #[(1, .const p1), (2, .const t23), (3, .const p2)]) 121 fun t25_1 =>
  xT (qZ 48 t17 t18) <|
  xC 95 [.const t18, .const t25_1, .const t27_1] [48, 121, 39] 48 fun t28_1 =>
  xP (.nilCheck (.const t14)) 0 fun t29_1 =>
  xS 48 t29_1 t28_1 <|
  k1) <|
  K (.tuple #[])
theorem screen_Screen_clear_link (p0 p1 p2 : Value) : Lk 77 #[p0, p1, p2] (screen_Screen_clear p0 p1 p2) := lk [p0, p1, p2] [(2, [])] Try.func77 (by kernel_rfl) fun _ _ => by kernel_rfl
theorem screen_Screen_clear_b : Bodied Try.prog 77 := bd Try.func77 (by kernel_rfl)
def screen_Screen_erase (p0 p1 p2 : Value) (K : Value → World → Prop) : World → Prop :=
  xB 28 p0 fun t3 =>
  xB 3 p1 fun t4 =>
  xB 3 p2 fun t5 =>
  xL 28 t3 fun t6 =>
  OpX Try.prog (.makeFunc (.func 96) #[] #[.const t4, .const t5, .const t3]) 87 fun t7 =>
  xC 48 [.const t6, .const t7] [28, 87] 0 fun _ =>
  K (.tuple #[])
theorem screen_Screen_erase_link (p0 p1 p2 : Value) : Lk 78 #[p0, p1, p2] (screen_Screen_erase p0 p1 p2) := lk [p0, p1, p2] [] Try.func78 (by kernel_rfl) fun _ _ => by kernel_rfl
theorem screen_Screen_erase_b : Bodied Try.prog 78 := bd Try.func78 (by kernel_rfl)
def screen_Screen_changed_1 (p0 p1 p2 p3 : Value) (K : Value → World → Prop) : World → Prop :=
  xB 48 p0 fun t4 =>
  xA 48 fun t5 =>
  DrewW <|
  qL 48 t4 fun t6 =>
  qL 3 p1 fun t7 =>
  qL 3 p2 fun t8 =>
  qL 28 p3 fun t9 =>
  xC 81 [.const t9] [28] 39 fun t10 =>
  xT (qZ 3 p2 t8) <|
  xT (qZ 3 p1 t7) <|
  xT (qZ 48 t4 t6) <|
  xC 80 [.const t6, .const t7, .const (.int .i64 0), .const t8, .const t10] [48, 3, 3, 3, 39] 48 fun t11 =>
  xS 48 t5 t11 <|
  xD 48 t5 fun t5_1 =>
  K t5_1
theorem screen_Screen_changed_1_link (p0 p1 p2 p3 : Value) : Lk 79 #[p0, p1, p2, p3] (screen_Screen_changed_1 p0 p1 p2 p3) := lk [p0, p1, p2, p3] [] Try.func79 (by kernel_rfl) fun _ _ => by kernel_rfl
theorem screen_Screen_changed_1_b : Bodied Try.prog 79 := bd Try.func79 (by kernel_rfl)
def screen_Screen_free (p0 : Value) (K : Value → World → Prop) : World → Prop :=
  xA 39 fun t2 =>
  xC 35 [] [] 39 fun t4 =>
  xA 39 fun t3 =>
  xS 39 t3 t4 <|
  OpX Try.prog (.nilCheck (.const p0)) 0 fun t6 =>
  xF 65 t6 5 fun t7 =>
  xF 61 t7 2 fun t8 =>
  xF 39 t8 2 fun t9 =>
  xL 5 t9 fun t10 =>
  xF 39 t3 2 fun t11 =>
  xS 5 t11 t10 <|
  xL 39 t3 fun t12 =>
  xS 39 t2 t12 <|
  xD 39 t2 fun t2_1 =>
  K t2_1
theorem screen_Screen_free_link (p0 : Value) : Lk 81 #[p0] (screen_Screen_free p0) := lk [p0] [] Try.func81 (by kernel_rfl) fun _ _ => by kernel_rfl
theorem screen_Screen_free_b : Bodied Try.prog 81 := bd Try.func81 (by kernel_rfl)
def screen_Screen_region (p0 p1 p2 : Value) (K : Value → World → Prop) : World → Prop :=
  Join1 (fun k1 =>
  Join1 (fun k2 =>
  xO .eql 3 p2 (.int .i64 0) fun t7 =>
  xW t7
  (k2 (.bool true)) <|
  OpX Try.prog (.nilCheck (.const p0)) 0 fun t11 =>
  xF 65 t11 1 fun t12 =>
  xL 3 t12 fun t13 =>
  xO .gtr 3 p2 t13 fun t14 =>
  k2 t14) fun t15 =>
  xW t15
  (OpX Try.prog (.nilCheck (.const p0)) 0 fun t17 =>
  xF 65 t17 1 fun t18 =>
  xL 3 t18 fun t19 =>
  k1 t19) <|
  k1 p2) fun t2 =>
  xO .sub 3 t2 (.int .i64 1) fun t22 =>
  xO .lss 3 p1 t22 fun t23 =>
  xW t23
  (OpX Try.prog (.nilCheck (.const p0)) 0 fun t28 =>
  xF 65 t28 6 fun t29 =>
  xS 3 t29 p1 <|
  OpX Try.prog (.nilCheck (.const p0)) 0 fun t30 =>
  xF 65 t30 7 fun t31 =>
  xS 3 t31 t2 <|
  xC 37 [.const p0, .const (.int .i64 0), .const (.int .i64 0)] [28, 3, 3] 0 fun _ =>
  K (.tuple #[])) <|
  K (.tuple #[])
theorem screen_Screen_region_link (p0 p1 p2 : Value) : Lk 82 #[p0, p1, p2] (screen_Screen_region p0 p1 p2) := lk [p0, p1, p2] [(0, [2]), (2, [15])] Try.func82 (by kernel_rfl) fun _ _ => by kernel_rfl
theorem screen_Screen_region_b : Bodied Try.prog 82 := bd Try.func82 (by kernel_rfl)
def screen_Screen_erase_1 (p0 p1 p2 p3 : Value) (K : Value → World → Prop) : World → Prop :=
  xB 48 p0 fun t4 =>
  xA 48 fun t5 =>
  DrewW <|
  Join0 (fun k1 =>
  qL 48 t4 fun t6 =>
  qL 3 p1 fun t7 =>
  qL 3 p2 fun t8 =>
  qL 28 p3 fun t10 =>
  xT (OpX Try.prog (.build 121 #[(0, .const t7), (2, .const t8), (3, .const (.int .i64 1))]) 121 fun t9 =>
  xT (qZ 28 p3 t10) <|
  xT (qZ 48 t4 t6) <|
  xC 81 [.const t10] [28] 39 fun t11 =>
  xT (qZ 48 t4 t6) <|
  xC 95 [.const t6, .const t9, .const t11] [48, 121, 39] 48 fun t12 =>
  xS 48 t5 t12 <|
  k1) <|
  xC 81 [.const t10] [28] 39 fun t11_1 =>
  xT (qZ 3 p2 t8) <|
  xT (qZ 3 p1 t7) <|
  xT (qZ 48 t4 t6) <|
  OpX Try.prog (.build 121 #[(0, .const t7), (2, .const t8), (3, .const (.int .i64 1))]) 121 fun t9_1 =>
  xT (qZ 48 t4 t6) <|
  xC 95 [.const t6, .const t9_1, .const t11_1] [48, 121, 39] 48 fun t12_1 =>
  xS 48 t5 t12_1 <|
  k1) <|
  xD 48 t5 fun t5_1 =>
  K t5_1
theorem screen_Screen_erase_1_link (p0 p1 p2 p3 : Value) : Lk 96 #[p0, p1, p2, p3] (screen_Screen_erase_1 p0 p1 p2 p3) := lk [p0, p1, p2, p3] [(3, [])] Try.func96 (by kernel_rfl) fun _ _ => by kernel_rfl
theorem screen_Screen_erase_1_b : Bodied Try.prog 96 := bd Try.func96 (by kernel_rfl)
def pen_Apply (p0 p1 : Value) (K : Value → World → Prop) : World → Prop :=
  xB 39 p0 fun t2 =>
  xB 35 p1 fun t3 =>
  xA 39 fun t4 =>
  Join1 (fun k1 =>
  xF 35 t3 0 fun t10 =>
  xL 3 t10 fun t11 =>
  xO .neq 3 t11 (.int .i64 4) fun t12 =>
  xW t12
  (k1 (.bool true)) <|
  xF 35 t3 1 fun t14 =>
  xL 21 t14 fun t15 =>
  xO .neq 21 t15 (.int .i32 109) fun t16 =>
  xW t16
  (k1 (.bool true)) <|
  xF 35 t3 2 fun t19 =>
  xL 5 t19 fun t20 =>
  xO .neq 5 t20 (.int .u8 0) fun t21 =>
  xW t21
  (k1 (.bool true)) <|
  xF 35 t3 3 fun t24 =>
  xL 5 t24 fun t25 =>
  xO .neq 5 t25 (.int .u8 0) fun t26 =>
  k1 t26) fun t27 =>
  xW t27
  (xL 39 t2 fun t28 =>
  xS 39 t4 t28 <|
  xD 39 t4 fun t4_1 =>
  K t4_1) <|
  xF 35 t3 5 fun t29 =>
  xF 35 t3 4 fun t30 =>
  xL 3 t30 fun t31 =>
  OpX Try.prog (.call { callee := .builtin .max, args := #[.const t31, .const (.int .i64 0)], argTypes := #[3, 3] }) 3 fun t32 =>
  OpX Try.prog (.call { callee := .builtin .min, args := #[.const t32, .const (.int .i64 8)], argTypes := #[3, 3] }) 3 fun t33 =>
  OpX Try.prog (.slice 33 (.const t29) none (some (.const t33)) none) 42 fun t34 =>
  xA 42 fun t5 =>
  xS 42 t5 t34 <|
  Join0 (fun k2 =>
  xL 42 t5 fun t35 =>
  xU t35 42 fun t36 =>
  xO .eql 3 t36 (.int .i64 0) fun t37 =>
  xW t37
  (OpX Try.prog (.buildSlice 42 1 #[(0, .const (.int .i64 0))]) 42 fun t38 =>
  xS 42 t5 t38 <|
  k2) <|
  k2) <|
  OpX Try.prog (.makeFunc (.func 92) #[] #[.const t5]) 115 fun t39 =>
  Loop0 fun next3 =>
  xL 42 t5 fun t40 =>
  xU t40 42 fun t41 =>
  xO .gtr 3 t41 (.int .i64 0) fun t42 =>
  xW t42
  (OpX Try.prog (.call { callee := .value (.const t39), args := #[.const (.int .i64 1)], argTypes := #[3] }) 42 fun t44 =>
  xI 42 t44 (.int .i64 0) fun t45 =>
  xL 3 t45 fun t46 =>
  Join1 (fun k4 =>
  xO .eql 3 t46 (.int .i64 38) fun t52 =>
  xW t52
  (k4 (.bool true)) <|
  xO .eql 3 t46 (.int .i64 48) fun t53 =>
  k4 t53) fun t51 =>
  xW t51
  (xC 93 [.const t39] [115] 116 fun t56 =>
  xE t56 0 5 fun t57 =>
  xE t56 1 4 fun t58 =>
  Join1 (fun k5 =>
  xW t58
  (xO .eql 3 t46 (.int .i64 38) fun t63 =>
  k5 t63) <|
  k5 (.bool false)) fun t59 =>
  xW t59
  (xF 39 t2 1 fun t66 =>
  xS 5 t66 t57 <|
  next3) <|
  xW t58
  (xF 39 t2 2 fun t70 =>
  xS 5 t70 t57 <|
  next3) <|
  next3) <|
  xL 39 t2 fun t48 =>
  xC 94 [.const t48, .const t46] [39, 3] 39 fun t50 =>
  xS 39 t2 t50 <|
  next3) <|
  xL 39 t2 fun t71 =>
  xS 39 t4 t71 <|
  xD 39 t4 fun t4_2 =>
  K t4_2
theorem pen_Apply_link (p0 p1 : Value) : Lk 75 #[p0, p1] (pen_Apply p0 p1) := lk [p0, p1] [(4, [27]), (12, []), (22, []), (35, [51]), (46, [59])] Try.func75 (by kernel_rfl) fun _ _ => by kernel_rfl
theorem pen_Apply_b : Bodied Try.prog 75 := bd Try.func75 (by kernel_rfl)
def pen_Apply_1 (p0 p1 : Value) (K : Value → World → Prop) : World → Prop :=
  xL 42 p1 fun t6 =>
  xU t6 42 fun t7 =>
  OpX Try.prog (.call { callee := .builtin .min, args := #[.const p0, .const t7], argTypes := #[3, 3] }) 3 fun t8 =>
  xL 42 p1 fun t9 =>
  OpX Try.prog (.slice 42 (.const t9) none (some (.const t8)) (some (.const t8))) 42 fun t12 =>
  xL 42 p1 fun t13 =>
  OpX Try.prog (.slice 42 (.const t13) (some (.const t8)) none none) 42 fun t15 =>
  xS 42 p1 t15 <|
  K t12
theorem pen_Apply_1_link (p0 p1 : Value) : Lk 92 #[p0, p1] (pen_Apply_1 p0 p1) := lk [p0, p1] [] Try.func92 (by kernel_rfl) fun _ _ => by kernel_rfl
theorem pen_Apply_1_b : Bodied Try.prog 92 := bd Try.func92 (by kernel_rfl)
def pen_chosen (p0 : Value) (K : Value → World → Prop) : World → Prop :=
  OpX Try.prog (.call { callee := .value (.const p0), args := #[.const (.int .i64 1)], argTypes := #[3] }) 42 fun t9 =>
  Join0 (fun k1 =>
  Join1 (fun k2 =>
  xU t9 42 fun t11 =>
  xO .eql 3 t11 (.int .i64 1) fun t12 =>
  xW t12
  (xI 42 t9 (.int .i64 0) fun t15 =>
  xL 3 t15 fun t16 =>
  xO .eql 3 t16 (.int .i64 5) fun t17 =>
  k2 t17) <|
  k2 (.bool false)) fun t18 =>
  xW t18
  (OpX Try.prog (.call { callee := .value (.const p0), args := #[.const (.int .i64 1)], argTypes := #[3] }) 42 fun t20 =>
  xU t20 42 fun t22 =>
  xO .eql 3 t22 (.int .i64 1) fun t23 =>
  xW t23
  (xI 42 t20 (.int .i64 0) fun t25 =>
  xL 3 t25 fun t26 =>
  Join1 (fun k3 =>
  xO .lss 3 t26 (.int .i64 0) fun t28 =>
  xW t28
  (k3 (.bool true)) <|
  xO .gtr 3 t26 (.int .i64 255) fun t31 =>
  k3 t31) fun t32 =>
  xW t32
  (K (.tuple #[(.int .u8 0), (.bool false)])) <|
  xC 103 [.const t26] [3] 5 fun t34 =>
  K (.tuple #[t34, (.bool true)])) <|
  k1) <|
  k1) <|
  Join0 (fun k4 =>
  Join1 (fun k5 =>
  xU t9 42 fun t36 =>
  xO .eql 3 t36 (.int .i64 1) fun t37 =>
  xW t37
  (xI 42 t9 (.int .i64 0) fun t40 =>
  xL 3 t40 fun t41 =>
  xO .eql 3 t41 (.int .i64 2) fun t42 =>
  k5 t42) <|
  k5 (.bool false)) fun t43 =>
  xW t43
  (OpX Try.prog (.call { callee := .value (.const p0), args := #[.const (.int .i64 3)], argTypes := #[3] }) 42 fun t45 =>
  xU t45 42 fun t47 =>
  xO .eql 3 t47 (.int .i64 3) fun t48 =>
  xW t48
  (DrewW <|
  xP (.indexAddr 42 (.const t45) (.const (.int .i64 0))) 0 fun t50 =>
  qL 3 t50 fun t51 =>
  xP (.indexAddr 42 (.const t45) (.const (.int .i64 1))) 0 fun t53 =>
  qL 3 t53 fun t54 =>
  xP (.indexAddr 42 (.const t45) (.const (.int .i64 2))) 0 fun t56 =>
  qL 3 t56 fun t57 =>
  xC 104 [.const t51, .const t54, .const t57] [3, 3, 3] 5 fun t58 =>
  K (.tuple #[t58, (.bool true)])) <|
  k4) <|
  k4) <|
  OpX Try.prog (.call { callee := .value (.const p0), args := #[.const (.int .i64 8)], argTypes := #[3] }) 42 fun _ =>
  K (.tuple #[(.int .u8 0), (.bool false)])
theorem pen_chosen_link (p0 : Value) : Lk 93 #[p0] (pen_chosen p0) := lk [p0] [(4, []), (6, [18]), (17, [32]), (28, []), (30, [43])] Try.func93 (by kernel_rfl) fun _ _ => by kernel_rfl
theorem pen_chosen_b : Bodied Try.prog 93 := bd Try.func93 (by kernel_rfl)
def pen_obey (p0 p1 : Value) (K : Value → World → Prop) : World → Prop :=
  xB 39 p0 fun t2 =>
  xA 39 fun t4 =>
  xC 105 [] [] 131 fun t6 =>
  xA 131 fun t5 =>
  xS 131 t5 t6 <|
  Join0 (fun k1 =>
  xO .eql 3 p1 (.int .i64 0) fun t9 =>
  xW t9
  (xF 39 t2 1 fun t10 =>
  xS 5 t10 (.int .u8 0) <|
  xF 39 t2 2 fun t11 =>
  xS 5 t11 (.int .u8 0) <|
  xF 39 t2 3 fun t12 =>
  xS 5 t12 (.int .u8 0) <|
  k1) <|
  Join1 (fun k2 =>
  xO .gtr 3 p1 (.int .i64 0) fun t15 =>
  xW t15
  (xO .lss 3 p1 (.int .i64 8) fun t18 =>
  k2 t18) <|
  k2 (.bool false)) fun t13 =>
  xW t13
  (DrewW <|
  qF 39 t2 3 fun t20 =>
  qL 5 t20 fun t21 =>
  xP (.indexAddr 131 (.const t5) (.const p1)) 0 fun t23 =>
  qL 5 t23 fun t24 =>
  qP .or 5 t21 t24 fun t25 =>
  qF 39 t2 3 fun t26 =>
  xS 5 t26 t25 <|
  k1) <|
  xO .eql 3 p1 (.int .i64 22) fun t29 =>
  xW t29
  (xF 39 t2 3 fun t30 =>
  xL 5 t30 fun t31 =>
  xO .andNot 5 t31 (.int .u8 3) fun t32 =>
  xF 39 t2 3 fun t33 =>
  xS 5 t33 t32 <|
  k1) <|
  Join1 (fun k3 =>
  xO .geq 3 p1 (.int .i64 23) fun t36 =>
  xW t36
  (xO .leq 3 p1 (.int .i64 27) fun t39 =>
  k3 t39) <|
  k3 (.bool false)) fun t34 =>
  xW t34
  (DrewW <|
  qF 39 t2 3 fun t41 =>
  qL 5 t41 fun t42 =>
  qP .sub 3 p1 (.int .i64 20) fun t44 =>
  xP (.indexAddr 131 (.const t5) (.const t44)) 0 fun t45 =>
  qL 5 t45 fun t46 =>
  qP .andNot 5 t42 t46 fun t47 =>
  qF 39 t2 3 fun t48 =>
  xS 5 t48 t47 <|
  k1) <|
  Join1 (fun k4 =>
  xO .geq 3 p1 (.int .i64 30) fun t51 =>
  xW t51
  (xO .leq 3 p1 (.int .i64 37) fun t54 =>
  k4 t54) <|
  k4 (.bool false)) fun t49 =>
  xW t49
  (xO .sub 3 p1 (.int .i64 30) fun t57 =>
  xC 103 [.const t57] [3] 5 fun t58 =>
  xF 39 t2 1 fun t59 =>
  xS 5 t59 t58 <|
  k1) <|
  xO .eql 3 p1 (.int .i64 39) fun t62 =>
  xW t62
  (xF 39 t2 1 fun t63 =>
  xS 5 t63 (.int .u8 0) <|
  k1) <|
  Join1 (fun k5 =>
  xO .geq 3 p1 (.int .i64 40) fun t66 =>
  xW t66
  (xO .leq 3 p1 (.int .i64 47) fun t69 =>
  k5 t69) <|
  k5 (.bool false)) fun t64 =>
  xW t64
  (xO .sub 3 p1 (.int .i64 40) fun t72 =>
  xC 103 [.const t72] [3] 5 fun t73 =>
  xF 39 t2 2 fun t74 =>
  xS 5 t74 t73 <|
  k1) <|
  xO .eql 3 p1 (.int .i64 49) fun t77 =>
  xW t77
  (xF 39 t2 2 fun t78 =>
  xS 5 t78 (.int .u8 0) <|
  k1) <|
  Join1 (fun k6 =>
  xO .geq 3 p1 (.int .i64 90) fun t81 =>
  xW t81
  (xO .leq 3 p1 (.int .i64 97) fun t84 =>
  k6 t84) <|
  k6 (.bool false)) fun t79 =>
  xW t79
  (xO .sub 3 p1 (.int .i64 82) fun t87 =>
  xC 103 [.const t87] [3] 5 fun t88 =>
  xF 39 t2 1 fun t89 =>
  xS 5 t89 t88 <|
  k1) <|
  Join1 (fun k7 =>
  xO .geq 3 p1 (.int .i64 100) fun t92 =>
  xW t92
  (xO .leq 3 p1 (.int .i64 107) fun t95 =>
  k7 t95) <|
  k7 (.bool false)) fun t90 =>
  xW t90
  (xO .sub 3 p1 (.int .i64 92) fun t98 =>
  xC 103 [.const t98] [3] 5 fun t99 =>
  xF 39 t2 2 fun t100 =>
  xS 5 t100 t99 <|
  k1) <|
  k1) <|
  xL 39 t2 fun t101 =>
  xS 39 t4 t101 <|
  xD 39 t4 fun t4_1 =>
  K t4_1
theorem pen_obey_link (p0 p1 : Value) : Lk 94 #[p0, p1] (pen_obey p0 p1) := lk [p0, p1] [(4, []), (11, [13]), (19, [34]), (23, [49]), (31, [64]), (39, [79]), (43, [90])] Try.func94 (by kernel_rfl) fun _ _ => by kernel_rfl
theorem pen_obey_b : Bodied Try.prog 94 := bd Try.func94 (by kernel_rfl)
def pen_colour (p0 : Value) (K : Value → World → Prop) : World → Prop :=
  OpX Try.prog (.call { callee := .builtin .max, args := #[.const p0, .const (.int .i64 1)], argTypes := #[3, 3] }) 3 fun t4 =>
  OpX Try.prog (.convert 3 5 (.const t4)) 5 fun t5 =>
  K t5
theorem pen_colour_link (p0 : Value) : Lk 103 #[p0] (pen_colour p0) := lk [p0] [] Try.func103 (by kernel_rfl) fun _ _ => by kernel_rfl
theorem pen_colour_b : Bodied Try.prog 103 := bd Try.func103 (by kernel_rfl)
def pen_Colour (p0 p1 p2 : Value) (K : Value → World → Prop) : World → Prop :=
  OpX Try.prog (.call { callee := .value (.const (.func (.func 107) #[] #[])), args := #[.const p0], argTypes := #[3] }) 3 fun t10 =>
  xO .mul 3 (.int .i64 36) t10 fun t11 =>
  xO .add 3 (.int .i64 16) t11 fun t12 =>
  OpX Try.prog (.call { callee := .value (.const (.func (.func 107) #[] #[])), args := #[.const p1], argTypes := #[3] }) 3 fun t15 =>
  xO .mul 3 (.int .i64 6) t15 fun t16 =>
  xO .add 3 t12 t16 fun t17 =>
  OpX Try.prog (.call { callee := .value (.const (.func (.func 107) #[] #[])), args := #[.const p2], argTypes := #[3] }) 3 fun t20 =>
  xO .add 3 t17 t20 fun t21 =>
  OpX Try.prog (.convert 3 5 (.const t21)) 5 fun t22 =>
  K t22
theorem pen_Colour_link (p0 p1 p2 : Value) : Lk 104 #[p0, p1, p2] (pen_Colour p0 p1 p2) := lk [p0, p1, p2] [] Try.func104 (by kernel_rfl) fun _ _ => by kernel_rfl
theorem pen_Colour_b : Bodied Try.prog 104 := bd Try.func104 (by kernel_rfl)
def pen_ways (K : Value → World → Prop) : World → Prop :=
  xA 131 fun t0 =>
  OpX Try.prog (.build 131 #[(0, .const (.int .u8 0)), (1, .const (.int .u8 1)), (2, .const (.int .u8 2)), (3, .const (.int .u8 4)), (4, .const (.int .u8 8)), (5, .const (.int .u8 16)), (6, .const (.int .u8 0)), (7, .const (.int .u8 32))]) 131 fun t1 =>
  xS 131 t0 t1 <|
  xD 131 t0 fun t0_1 =>
  K t0_1
theorem pen_ways_link : Lk 105 #[] (pen_ways) := lk [] [] Try.func105 (by kernel_rfl) fun _ _ => by kernel_rfl
theorem pen_ways_b : Bodied Try.prog 105 := bd Try.func105 (by kernel_rfl)
def pen_Colour_1 (p0 : Value) (K : Value → World → Prop) : World → Prop :=
  OpX Try.prog (.call { callee := .builtin .max, args := #[.const p0, .const (.int .i64 0)], argTypes := #[3, 3] }) 3 fun t4 =>
  OpX Try.prog (.call { callee := .builtin .min, args := #[.const t4, .const (.int .i64 255)], argTypes := #[3, 3] }) 3 fun t5 =>
  xO .quo 3 t5 (.int .i64 43) fun t6 =>
  K t6
theorem pen_Colour_1_link (p0 : Value) : Lk 107 #[p0] (pen_Colour_1 p0) := lk [p0] [] Try.func107 (by kernel_rfl) fun _ _ => by kernel_rfl
theorem pen_Colour_1_b : Bodied Try.prog 107 := bd Try.func107 (by kernel_rfl)
def escape_Num (p0 p1 p2 : Value) (K : Value → World → Prop) : World → Prop :=
  xB 35 p0 fun t3 =>
  Join1 (fun k1 =>
  xO .lss 3 p1 (.int .i64 0) fun t8 =>
  xW t8
  (k1 (.bool true)) <|
  xO .geq 3 p1 (.int .i64 8) fun t11 =>
  xW t11
  (k1 (.bool true)) <|
  xF 35 t3 4 fun t15 =>
  xL 3 t15 fun t16 =>
  xO .geq 3 p1 t16 fun t17 =>
  k1 t17) fun t18 =>
  xW t18
  (K p2) <|
  xF 35 t3 5 fun t21 =>
  xI 33 t21 p1 fun t22 =>
  xL 3 t22 fun t23 =>
  OpX Try.prog (.call { callee := .builtin .max, args := #[.const t23, .const p2], argTypes := #[3, 3] }) 3 fun t25 =>
  K t25
theorem escape_Num_link (p0 p1 p2 : Value) : Lk 76 #[p0, p1, p2] (escape_Num p0 p1 p2) := lk [p0, p1, p2] [(4, [18])] Try.func76 (by kernel_rfl) fun _ _ => by kernel_rfl
theorem escape_Num_b : Bodied Try.prog 76 := bd Try.func76 (by kernel_rfl)
def slices_Delete_api_Cell_api_Cell (p0 p1 p2 : Value) (K : Value → World → Prop) : World → Prop :=
  xU p0 43 fun t12 =>
  OpX Try.prog (.slice 43 (.const p0) (some (.const p1)) (some (.const p2)) (some (.const t12))) 43 fun _ =>
  xO .eql 3 p1 p2 fun t16 =>
  xW t16
  (K p0) <|
  xU p0 43 fun t19 =>
  DrewW <|
  xP (.slice 43 (.const p0) none (some (.const p1)) none) 43 fun t22 =>
  xP (.slice 43 (.const p0) (some (.const p2)) none none) 43 fun t25 =>
  OpX Try.prog (.call { callee := .builtin .append, args := #[.const t22, .const t25], argTypes := #[43, 43] }) 43 fun t26 =>
  xU t26 43 fun t29 =>
  OpX Try.prog (.slice 43 (.const t26) (some (.const t29)) (some (.const t19)) none) 43 fun t31 =>
  OpX Try.prog (.call { callee := .builtin .clear, args := #[.const t31], argTypes := #[43] }) 0 fun _ =>
  K t26
theorem slices_Delete_api_Cell_api_Cell_link (p0 p1 p2 : Value) : Lk 90 #[p0, p1, p2] (slices_Delete_api_Cell_api_Cell p0 p1 p2) := lk [p0, p1, p2] [] Try.func90 (by kernel_rfl) fun _ _ => by kernel_rfl
theorem slices_Delete_api_Cell_api_Cell_b : Bodied Try.prog 90 := bd Try.func90 (by kernel_rfl)
end Go.Proofs.Ytjfembffjjijaaa
namespace Lyc
open Go
section
variable {P : Program}
@[go_sem] theorem x_buildA (t ty : TypeId) (parts : List (Nat × Operand)) (K : Value → World → Prop) (w : World) (_ht : tkind P t = some 2) :
    OpX P (.build t parts.toArray) ty K w = OrK ((tzero P t).bind fun z => (tarr P t).bind fun nm => (partV parts).bind (fillL (bplaces nm.2 nm.1 0) z.cells)) (fun c => K (.agg c) w) (OpX P (.build t parts.toArray) ty K w) () := by
  refine OrK_by (fun c h => ?_) rfl
  obtain ⟨z, hz, h⟩ := Option.bind_eq_some_iff.1 h
  obtain ⟨⟨n, m⟩, hnm, h⟩ := Option.bind_eq_some_iff.1 h
  obtain ⟨vs, hv, hf⟩ := Option.bind_eq_some_iff.1 h
  refine OpX_ok fun ρ hg => ?_
  unfold tarr at hnm
  cases hu : P.underlying t with
  | none => rw [hu] at hnm; simp at hnm
  | some d =>
    rw [hu] at hnm
    cases d <;> simp at hnm
    rename_i len e
    obtain ⟨hs, rfl⟩ := hnm
    have hfill := fill_eq (fun j => some (j * m, m)) (bplaces m len 0) (fun j x hx => by simpa using bplaces_get _ _ _ _ _ hx) vs z.cells c hf
    have hp := partV_spec hg hv
    simp only [execOp, mkOper, Instr.build, Sem.run_bind, run_zero hz, Result.andThen_ok, run_underlying hu, run_size hs, List.map_toArray, hp, hfill]
    rfl
def buildK (P : Program) (t : TypeId) (parts : List (Nat × Operand)) : Option (Array Value) :=
  match tkind P t with
  | some 2 => (tzero P t).bind fun z => (tarr P t).bind fun nm => (partV parts).bind (fillL (bplaces nm.2 nm.1 0) z.cells)
  | _ => (tzero P t).bind fun z => (tfields P t).bind fun pl => (partV parts).bind (fillL pl z.cells)
theorem OpX.build {t ty : TypeId} {parts : List (Nat × Operand)} {K : Value → World → Prop} {w : World} {c : Array Value} (h : buildK P t parts = some c) (hk : K (.agg c) w) : OpX P (.build t parts.toArray) ty K w := by
  unfold buildK at h
  split at h
  · rename_i ht
    rw [x_buildA t ty parts K w ht, h]; exact hk
  · rw [x_build0, h]; exact hk
theorem putAt_whole (c : Array Value) (e : TypeId) (vs : List Value) (h : vs.length = c.size) : putAt (some (.cells c e (0, 0))) 0 vs = some (.cells vs.toArray e) := by
  rw [putAt_cells, if_pos (by omega)]
  unfold spl
  simp [h]
theorem OpX.fresh {t ty ty' : TypeId} {v z : Value} {M : Value → Value → World → Prop} {w : World} (hz : tzero P t = some z) (hn : tsize P t = some v.cells.size) (hs : z.cells.size = v.cells.size) (hok : okCells v.cells.toList = true)
    (h : M (.pointer (some ⟨w.heap.size, 0, none⟩)) undef (w.alloc (.cells v.cells t))) :
    OpX P (.alloc t) ty (fun p w => OpX P (.store t (.const p) (.const v)) ty' (M p) w) w := by
  rw [x_alloc, hz, OrK_some, x_store _ _ _ _ _ _ _ hn hok, heap_alloc_new _ _ _ rfl, putAt_whole _ _ _ (by simp [hs]), StX_some, setBlk_alloc_new _ _ _ _ rfl]
  exact h
def partL (P : Program) (e : TypeId) (cs : Array Value) (off : Nat) : Option Value :=
  (tagg P e).bind fun b => bif b then (tsize P e).map fun n => .agg (cs.extract off (off + n)) else cs[off]?
theorem run_part {e : TypeId} {cs : Array Value} {off : Nat} {v : Value} (h : partL P e cs off = some v) (w : World) : (part e cs off).run P w = .ok v w := by
  unfold partL at h
  obtain ⟨b, hb, h⟩ := Option.bind_eq_some_iff.1 h
  unfold part
  cases b with
  | true =>
    simp only [cond_true] at h
    obtain ⟨n, hn, rfl⟩ := Option.map_eq_some_iff.1 h
    simp [run_isAgg hb, run_size hn]
  | false =>
    simp only [cond_false] at h
    simp [run_isAgg hb, h]
def idxL (P : Program) (t : TypeId) (cs : Array Value) (i : Int) : Option Value :=
  (telem P t).bind fun e => (tarr P t).bind fun nm => if 0 ≤ i ∧ i < nm.1 then partL P e cs (i.toNat * nm.2) else none
theorem r_index (t ty : TypeId) (cs : Array Value) (k : IntKind) (i : Int) (v : Value) (h : idxL P t cs i = some v) : PureRun P (.index t (.const (.agg cs)) (.const (.int k i))) ty v := by
  unfold idxL at h
  obtain ⟨e, he, h⟩ := Option.bind_eq_some_iff.1 h
  obtain ⟨⟨n, m⟩, hnm, h⟩ := Option.bind_eq_some_iff.1 h
  dsimp only at h
  split at h
  · rename_i hi
    unfold tarr at hnm
    unfold telem at he
    cases hu : P.underlying t with
    | none => rw [hu] at hnm; simp at hnm
    | some d =>
      rw [hu] at hnm he
      cases d <;> simp at hnm he
      rename_i len e'
      subst he
      obtain ⟨hs, rfl⟩ := hnm
      exact ⟨fun ρ hg w => by
        have hp := run_part h w
        simp [execOp, mkOper, hg.1, Instr.index, asIntOf, run_underlying hu, run_size hs, hi.1, hi.2, hp]⟩
  · simp at h
@[go_sem] theorem x_indexA (t ty : TypeId) (cs : Array Value) (k : IntKind) (i : Int) (K : Value → World → Prop) (w : World) : OpX P (.index t (.const (.agg cs)) (.const (.int k i))) ty K w = OrK (idxL P t cs i) (fun v => K v w) (OpX P (.index t (.const (.agg cs)) (.const (.int k i))) ty K w) () :=
  OrK_by (fun v h => (r_index t ty cs k i v h).op K w) rfl
@[go_sem] theorem p_indexA (t ty : TypeId) (cs : Array Value) (k : IntKind) (i : Int) (K : Value → Prop) : PurX P (.index t (.const (.agg cs)) (.const (.int k i))) ty K () = OrK (idxL P t cs i) K (PurX P (.index t (.const (.agg cs)) (.const (.int k i))) ty K ()) () :=
  OrK_by (fun v h => (r_index t ty cs k i v h).pur K) rfl
def fieldL (P : Program) (t : TypeId) (cs : Array Value) (i : Nat) : Option Value :=
  (tftype P t i).bind fun e => (tfield P t i).bind fun p => partL P e cs p.1
theorem r_field (t ty : TypeId) (cs : Array Value) (i : Nat) (v : Value) (h : fieldL P t cs i = some v) : PureRun P (.field t (.const (.agg cs)) i) ty v := by
  unfold fieldL at h
  obtain ⟨e, he, h⟩ := Option.bind_eq_some_iff.1 h
  obtain ⟨p, hp, h⟩ := Option.bind_eq_some_iff.1 h
  unfold tftype at he
  unfold tfield at hp
  cases hu : P.underlying t with
  | none => rw [hu] at hp; simp at hp
  | some d =>
    rw [hu] at hp he
    cases d with
    | struct fs =>
      dsimp only [Option.bind] at hp he
      cases hf : fs[i]? with
      | none => rw [hf] at hp; simp at hp
      | some f =>
        rw [hf] at hp he
        simp only [Option.map_some, Option.some.injEq] at he
        obtain ⟨j, hj, rfl⟩ := Option.map_eq_some_iff.1 hp
        subst he
        exact ⟨fun ρ hg w => by
          have hq := run_part h w
          simp [execOp, mkOper, hg.1, Instr.field, run_underlying hu, hf, asAgg, hq]⟩
    | _ => simp at hp
@[go_sem] theorem x_fieldV (t ty : TypeId) (cs : Array Value) (i : Nat) (K : Value → World → Prop) (w : World) : OpX P (.field t (.const (.agg cs)) i) ty K w = OrK (fieldL P t cs i) (fun v => K v w) (OpX P (.field t (.const (.agg cs)) i) ty K w) () :=
  OrK_by (fun v h => (r_field t ty cs i v h).op K w) rfl
@[go_sem] theorem p_fieldV (t ty : TypeId) (cs : Array Value) (i : Nat) (K : Value → Prop) : PurX P (.field t (.const (.agg cs)) i) ty K () = OrK (fieldL P t cs i) K (PurX P (.field t (.const (.agg cs)) i) ty K ()) () :=
  OrK_by (fun v h => (r_field t ty cs i v h).pur K) rfl
attribute [go_sem] fieldL partL
@[go_sem] theorem OrK_bt {α : Type} (a b : Option α) (f : α → Prop) (d : Prop) : OrK (bif true then a else b) f d () = OrK a f d () := rfl
@[go_sem] theorem OrK_bf {α : Type} (a b : Option α) (f : α → Prop) (d : Prop) : OrK (bif false then a else b) f d () = OrK b f d () := rfl
def chL (s : ByteArray) (i : Int) : Option Value := if 0 ≤ i then (s[i.toNat]?).map fun b => .int .u8 b.toNat else none
theorem r_indexS (t ty : TypeId) (s : ByteArray) (k : IntKind) (i : Int) (v : Value) (ht : tkind P t = some 3) (h : chL s i = some v) : PureRun P (.index t (.const (.string s)) (.const (.int k i))) ty v := by
  unfold chL at h
  split at h
  · rename_i hi
    obtain ⟨b, hb, rfl⟩ := Option.map_eq_some_iff.1 h
    exact ⟨fun ρ hg w => by simp [execOp, mkOper, hg.1, Instr.index, asIntOf, run_underlying (tkind_3 ht), hi, hb]⟩
  · simp at h
@[go_sem] theorem x_indexS (t ty : TypeId) (s : ByteArray) (k : IntKind) (i : Int) (K : Value → World → Prop) (w : World) (ht : tkind P t = some 3) : OpX P (.index t (.const (.string s)) (.const (.int k i))) ty K w = OrK (chL s i) (fun v => K v w) (OpX P (.index t (.const (.string s)) (.const (.int k i))) ty K w) () :=
  OrK_by (fun v h => (r_indexS t ty s k i v ht h).op K w) rfl
@[go_sem] theorem p_indexS (t ty : TypeId) (s : ByteArray) (k : IntKind) (i : Int) (K : Value → Prop) (ht : tkind P t = some 3) : PurX P (.index t (.const (.string s)) (.const (.int k i))) ty K () = OrK (chL s i) K (PurX P (.index t (.const (.string s)) (.const (.int k i))) ty K ()) () :=
  OrK_by (fun v h => (r_indexS t ty s k i v ht h).pur K) rfl
theorem r_slice3 (t ty : TypeId) (b o len cap n : Nat) (k k' k'' : IntKind) (i j q : Int) (h : tslice P t = some n) (h0 : 0 ≤ i) (h1 : i ≤ j) (h2 : j ≤ q) (h3 : q ≤ cap) : PureRun P (.slice t (.const (.slice (some ⟨b, o, none⟩) len cap)) (some (.const (.int k i))) (some (.const (.int k' j))) (some (.const (.int k'' q)))) ty (.slice (some ⟨b, slo o q.toNat i.toNat n, none⟩) (j.toNat - i.toNat) (q.toNat - i.toNat)) := by
  obtain ⟨e, hu, hs⟩ := tslice_u h
  refine ⟨fun ρ hg w => ?_⟩
  have h4 : 0 ≤ q := by omega
  have h5 : 0 ≤ j := by omega
  have h6 : j ≤ max q 0 := by omega
  have h7 : i ≤ max j 0 := by omega
  simp [execOp, mkOper, hg.1, Instr.sliceAt, Instr.slice, Instr.sliceBounds, Instr.sliceBound, asIntOf, run_underlying hu, run_size hs, h0, h3, h4, h5, slo_add]
  rw [if_pos h6]
  simp [h7, slo_add]
@[go_sem] theorem x_slice3 (t ty : TypeId) (b o len cap : Nat) (k k' k'' : IntKind) (i j q : Int) (K : Value → World → Prop) (w : World) (h0 : 0 ≤ i) (h1 : i ≤ j) (h2 : j ≤ q) (h3 : q ≤ cap) : OpX P (.slice t (.const (.slice (some ⟨b, o, none⟩) len cap)) (some (.const (.int k i))) (some (.const (.int k' j))) (some (.const (.int k'' q)))) ty K w = OrK (tslice P t) (fun n => K (.slice (some ⟨b, slo o q.toNat i.toNat n, none⟩) (j.toNat - i.toNat) (q.toNat - i.toNat)) w) (OpX P (.slice t (.const (.slice (some ⟨b, o, none⟩) len cap)) (some (.const (.int k i))) (some (.const (.int k' j))) (some (.const (.int k'' q)))) ty K w) () :=
  OrK_by (fun n h => (r_slice3 t ty b o len cap n k k' k'' i j q h h0 h1 h2 h3).op K w) rfl
@[go_sem] theorem p_slice3 (t ty : TypeId) (b o len cap : Nat) (k k' k'' : IntKind) (i j q : Int) (K : Value → Prop) (h0 : 0 ≤ i) (h1 : i ≤ j) (h2 : j ≤ q) (h3 : q ≤ cap) : PurX P (.slice t (.const (.slice (some ⟨b, o, none⟩) len cap)) (some (.const (.int k i))) (some (.const (.int k' j))) (some (.const (.int k'' q)))) ty K () = OrK (tslice P t) (fun n => K (.slice (some ⟨b, slo o q.toNat i.toNat n, none⟩) (j.toNat - i.toNat) (q.toNat - i.toNat))) (PurX P (.slice t (.const (.slice (some ⟨b, o, none⟩) len cap)) (some (.const (.int k i))) (some (.const (.int k' j))) (some (.const (.int k'' q)))) ty K ()) () :=
  OrK_by (fun n h => (r_slice3 t ty b o len cap n k k' k'' i j q h h0 h1 h2 h3).pur K) rfl
def eqI : Option Value → Option Value → Option Bool
  | some (.int k a), some (.int k' b) => if k = k' then some (decide (a = b)) else none
  | _, _ => none
def eqB : Option Value → Option Value → Option Bool
  | some (.bool a), some (.bool b) => some (a == b)
  | _, _ => none
def eqS : Option Value → Option Value → Option Bool
  | some (.string a), some (.string b) => some (a.toList == b.toList)
  | _, _ => none
def eq1 (k : Nat) (u v : Option Value) : Option Bool := if k = 8 then eqI u v else if k = 9 then eqB u v else eqS u v
theorem eqI_spec {u v : Option Value} {b : Bool} (h : eqI u v = some b) : ∃ k x y, u = some (.int k x) ∧ v = some (.int k y) ∧ b = decide (x = y) := by
  unfold eqI at h
  split at h
  · split at h
    · rename_i hk; subst hk; simp at h; exact ⟨_, _, _, rfl, rfl, h.symm⟩
    · simp at h
  · simp at h
theorem eqB_spec {u v : Option Value} {b : Bool} (h : eqB u v = some b) : ∃ x y, u = some (.bool x) ∧ v = some (.bool y) ∧ b = (x == y) := by
  unfold eqB at h
  split at h
  · simp at h; exact ⟨_, _, rfl, rfl, h.symm⟩
  · simp at h
theorem eqS_spec {u v : Option Value} {b : Bool} (h : eqS u v = some b) : ∃ x y, u = some (.string x) ∧ v = some (.string y) ∧ b = (x.toList == y.toList) := by
  unfold eqS at h
  split at h
  · simp at h; exact ⟨_, _, rfl, rfl, h.symm⟩
  · simp at h
def eqFlat (xs ys : Array Value) : List (Nat × Nat) → Option Bool
  | [] => some true
  | p :: l => (eq1 p.2 xs[p.1]? ys[p.1]?).bind fun b => (eqFlat xs ys l).map fun r => b && r
@[go_sem] theorem eqFlat_nil (xs ys : Array Value) : eqFlat xs ys [] = some true := rfl
@[go_sem] theorem eqFlat_cons (xs ys : Array Value) (p : Nat × Nat) (l : List (Nat × Nat)) : eqFlat xs ys (p :: l) = (eq1 p.2 xs[p.1]? ys[p.1]?).bind fun b => (eqFlat xs ys l).map fun r => b && r := rfl
@[go_sem] theorem eq1_int (k : IntKind) (a b : Int) : eq1 8 (some (.int k a)) (some (.int k b)) = some (decide (a = b)) := by simp [eq1, eqI]
@[go_sem] theorem eq1_bool (a b : Bool) : eq1 9 (some (.bool a)) (some (.bool b)) = some (a == b) := rfl
@[go_sem] theorem eq1_str (a b : ByteArray) : eq1 3 (some (.string a)) (some (.string b)) = some (a.toList == b.toList) := rfl
theorem tkind_8 {t : TypeId} (h : tkind P t = some 8) : ∃ k, P.underlying t = some (.int k) := by
  unfold tkind at h
  cases hu : P.underlying t with
  | none => rw [hu] at h; simp at h
  | some d => rw [hu] at h; cases d <;> simp at h; exact ⟨_, rfl⟩
theorem run_eqFields (d : Nat) (xs ys : Array Value) (w : World) : ∀ (fs : List Field) (l : List (Nat × Nat)) (r : Bool), tflatF P fs = some l → eqFlat xs ys l = some r → (Op.eqFields (d + 1) xs ys fs).run P w = .ok r w
  | [], l, r, h, h2 => by
    simp [tflatF] at h; subst h
    simp [eqFlat] at h2; subst h2
    simp [Op.eqFields]
  | f :: fs, l, r, h, h2 => by
    unfold tflatF at h
    split at h
    · simp at h
    · rename_i hn
      obtain ⟨k, hk, h⟩ := Option.bind_eq_some_iff.1 h
      obtain ⟨b, hb, h⟩ := Option.bind_eq_some_iff.1 h
      cases b with
      | true => simp at h
      | false =>
        simp only [cond_false] at h
        split at h
        · rename_i hk3
          obtain ⟨l', hl', rfl⟩ := Option.map_eq_some_iff.1 h
          rw [eqFlat_cons] at h2
          obtain ⟨b, h3, h2⟩ := Option.bind_eq_some_iff.1 h2
          obtain ⟨r', h4, rfl⟩ := Option.map_eq_some_iff.1 h2
          have ih := run_eqFields d xs ys w fs l' r' hl' h4
          dsimp only at h3
          have key : ∃ u v, xs[f.offset]? = some u ∧ ys[f.offset]? = some v ∧ (Op.equalIn (d + 1) f.type u v).run P w = .ok b w := by
            rcases hk3 with rfl | rfl | rfl
            · obtain ⟨kk, hu⟩ := tkind_8 hk
              obtain ⟨k, x, y, e1, e2, rfl⟩ := eqI_spec h3
              refine ⟨_, _, e1, e2, ?_⟩
              simp [Op.equalIn, run_underlying hu]
              rfl
            · have hu := tkind_9 hk
              obtain ⟨x, y, e1, e2, rfl⟩ := eqB_spec h3
              exact ⟨_, _, e1, e2, by simp [Op.equalIn, run_underlying hu]⟩
            · have hu := tkind_3 hk
              obtain ⟨x, y, e1, e2, rfl⟩ := eqS_spec h3
              refine ⟨_, _, e1, e2, ?_⟩
              simp [Op.equalIn, run_underlying hu, beq_toListBytes]
          obtain ⟨u, v, hu, hv, hr⟩ := key
          have hpu : (part f.type xs f.offset).run P w = .ok u w := run_part (by simp [partL, hb, hu]) w
          have hpv : (part f.type ys f.offset).run P w = .ok v w := run_part (by simp [partL, hb, hv]) w
          simp only [Op.eqFields, hn, ne_eq, not_false_eq_true, if_true, Sem.run_bind, hpu, hpv, Result.andThen_ok, hr]
          cases b <;> simp [ih]
        · simp at h
theorem eq_flat {t : TypeId} {xs ys : Array Value} {l : List (Nat × Nat)} {r : Bool} (h : tflat P t = some l) (h2 : eqFlat xs ys l = some r) :
    (∀ op x y w, (eqGuard op t x y (.agg xs) (.agg ys)).run P w = .ok () w) ∧ ∀ w, (Op.equal t (.agg xs) (.agg ys)).run P w = .ok r w := by
  unfold tflat at h
  cases hu : P.underlying t with
  | none => rw [hu] at h; simp at h
  | some d =>
    rw [hu] at h
    cases d <;> first | (simp at h; done) | skip
    rename_i fs
    simp only [Option.bind_some] at h
    split at h
    · simp at h
    · rename_i hs
      simp only [Bool.or_eq_true, not_or, Bool.not_eq_true] at hs
      constructor
      · intro op x y w
        unfold eqGuard
        cases op <;> simp [hs.2]
      · intro w
        have hff : P.fieldsOf t = fs := by simp [Program.fieldsOf, hu]
        have := run_equalIn_struct (P := P) w 9999 t xs ys (by rw [hff]; exact hu) hs.1
        unfold Op.equal Op.maxDepth
        rw [this, hff]
        exact run_eqFields 9998 xs ys w fs.toList l r h h2
theorem r_flat {t : TypeId} {xs ys : Array Value} {r : Bool} (h : (tflat P t).bind (eqFlat xs ys) = some r) : PureBin P .eql t (.agg xs) (.agg ys) (.bool r) := by
  obtain ⟨l, h1, h2⟩ := Option.bind_eq_some_iff.1 h
  obtain ⟨h3, h4⟩ := eq_flat h1 h2
  refine ⟨fun x y w => ?_⟩
  unfold binS
  simp [h3, binOp, h4]
theorem r_nflat {t : TypeId} {xs ys : Array Value} {r : Bool} (h : (tflat P t).bind (eqFlat xs ys) = some r) : PureBin P .neq t (.agg xs) (.agg ys) (.bool (!r)) := by
  obtain ⟨l, h1, h2⟩ := Option.bind_eq_some_iff.1 h
  obtain ⟨h3, h4⟩ := eq_flat h1 h2
  refine ⟨fun x y w => ?_⟩
  unfold binS
  simp [h3, binOp, h4]
@[go_sem] theorem x_eql_agg (t : TypeId) (xs ys : Array Value) (K : Value → World → Prop) (w : World) : BinX P .eql t (.agg xs) (.agg ys) K w = OrK ((tflat P t).bind (eqFlat xs ys)) (fun r => K (.bool r) w) (BinX P .eql t (.agg xs) (.agg ys) K w) () := OrK_by (fun r h => (r_flat h).op K w) rfl
@[go_sem] theorem x_neq_agg (t : TypeId) (xs ys : Array Value) (K : Value → World → Prop) (w : World) : BinX P .neq t (.agg xs) (.agg ys) K w = OrK ((tflat P t).bind (eqFlat xs ys)) (fun r => K (.bool (!r)) w) (BinX P .neq t (.agg xs) (.agg ys) K w) () := OrK_by (fun r h => (r_nflat h).op K w) rfl
@[go_sem] theorem q_eql_agg (t : TypeId) (xs ys : Array Value) (K : Value → Prop) (w : World) : RdB P .eql t (.agg xs) (.agg ys) K w = OrK ((tflat P t).bind (eqFlat xs ys)) (fun r => K (.bool r)) (RdB P .eql t (.agg xs) (.agg ys) K w) () := OrK_by (fun r h => (r_flat h).rd K w) rfl
@[go_sem] theorem q_neq_agg (t : TypeId) (xs ys : Array Value) (K : Value → Prop) (w : World) : RdB P .neq t (.agg xs) (.agg ys) K w = OrK ((tflat P t).bind (eqFlat xs ys)) (fun r => K (.bool (!r))) (RdB P .neq t (.agg xs) (.agg ys) K w) () := OrK_by (fun r h => (r_nflat h).rd K w) rfl
@[go_sem] theorem y_eql_agg (t : TypeId) (xs ys : Array Value) (u : Value) (w : World) : YldB P .eql t (.agg xs) (.agg ys) u w = OrK ((tflat P t).bind (eqFlat xs ys)) (fun r => u = .bool r) (YldB P .eql t (.agg xs) (.agg ys) u w) () := OrK_by (fun r h => (r_flat h).yld u w) rfl
@[go_sem] theorem y_neq_agg (t : TypeId) (xs ys : Array Value) (u : Value) (w : World) : YldB P .neq t (.agg xs) (.agg ys) u w = OrK ((tflat P t).bind (eqFlat xs ys)) (fun r => u = .bool (!r)) (YldB P .neq t (.agg xs) (.agg ys) u w) () := OrK_by (fun r h => (r_nflat h).yld u w) rfl
theorem r_cat (t : TypeId) (a b : ByteArray) (h : (a.size : Int) + (b.size : Int) ≤ 9223372036854775807) : PureBin P .add t (.string a) (.string b) (.string (a ++ b)) := ⟨fun x y w => by simp [binS, eqGuard, binOp, Op.stringOp, h]⟩
@[go_sem] theorem x_cat (t : TypeId) (a b : ByteArray) (K : Value → World → Prop) (w : World) (h : (a.size : Int) + (b.size : Int) ≤ 9223372036854775807) : BinX P .add t (.string a) (.string b) K w = K (.string (a ++ b)) w := (r_cat t a b h).op K w
@[go_sem] theorem p_cat (t : TypeId) (a b : ByteArray) (K : Value → Prop) (h : (a.size : Int) + (b.size : Int) ≤ 9223372036854775807) : PurB P .add t (.string a) (.string b) K () = K (.string (a ++ b)) := (r_cat t a b h).pur K
end
end Lyc
namespace Lyc
open Go
@[go_sem] theorem not_dec (p : Prop) [Decidable p] : (!decide p) = decide (¬ p) := by by_cases h : p <;> simp [h]
attribute [go_sem] Decidable.not_not
structure Cel where
  r : Int
  fg : BitVec 8
  bg : BitVec 8
  a : BitVec 8
deriving DecidableEq
@[go_sem] def Cel.cells (c : Cel) : List Value := [.int .i32 c.r, .int .u8 c.fg.toNat, .int .u8 c.bg.toNat, .int .u8 c.a.toNat]
@[go_sem] def Cel.val (c : Cel) : Value := .agg #[.int .i32 c.r, .int .u8 c.fg.toNat, .int .u8 c.bg.toNat, .int .u8 c.a.toNat]
theorem Cel.len (c : Cel) : c.cells.length = 4 := rfl
theorem Cel.ok (c : Cel) : okCells c.cells = true := rfl
theorem Cel.val_eq (c : Cel) : c.val = .agg c.cells.toArray := rfl
def spans : List (Int × Int × Int) := [(0x7f, 0x9f, 0), (0x300, 0x36f, 0), (0x200b, 0x200f, 0), (0xd800, 0xdfff, 0), (0xfe00, 0xfe0f, 0), (0x1100, 0x115f, 2), (0x2e80, 0x303e, 2), (0x3041, 0xa4cf, 2), (0xac00, 0xd7a3, 2), (0xf900, 0xfaff, 2), (0xfe30, 0xfe6f, 2), (0xff01, 0xff60, 2), (0xffe0, 0xffe6, 2), (0x1f300, 0x1f64f, 2), (0x1f900, 0x1f9ff, 2), (0x20000, 0x3fffd, 2)]
def spanW : List (Int × Int × Int) → Int → Int
  | [], _ => 1
  | s :: l, r => if s.1 ≤ r ∧ r ≤ s.2.1 then s.2.2 else spanW l r
def width (r : Int) : Int := if r < 32 ∨ 1114111 < r then 0 else if r < 127 then 1 else spanW spans r
def Cel.wide (c : Cel) : Bool := decide (¬ c.a &&& 64#8 = 0#8)
def Cel.tail (c : Cel) : Bool := decide (¬ c.a &&& 128#8 = 0#8)
def Cel.plain (c : Cel) : Bool := decide (c.a &&& 192#8 = 0#8)
def Cel.check (c : Cel) : Bool := if c.tail then !c.wide && decide (c.r = 0) else if c.wide then decide (width c.r = 2) else decide (width c.r = 1)
def Cel.tailOf (c : Cel) : Cel := ⟨0, c.fg, c.bg, (c.a &&& ~~~64#8) ||| 128#8⟩
def Cel.single (c : Cel) : Bool := c.plain && c.check
def pairOK (c d : Cel) : Bool := c.wide && c.check && decide (d = c.tailOf)
def pairAt (l : List Cel) (x : Nat) : Bool := match l[x]?, l[x + 1]? with | some c, some d => pairOK c d | _, _ => false
def Cel.blank : Cel := ⟨32, 0, 0, 0⟩
def Cel.fix (c : Cel) : Cel := if c.single then c else ⟨32, c.fg, c.bg, 0⟩
def mkCel (r : Int) (p : Cel) : List Cel :=
  if width r = 1 then [⟨r, p.fg, p.bg, p.a &&& 63#8⟩] else if width r = 2 then [⟨r, p.fg, p.bg, (p.a &&& 63#8) ||| 64#8⟩, ⟨0, p.fg, p.bg, (p.a &&& 63#8) ||| 128#8⟩] else []
def right : List Cel → Bool
  | [] => true
  | [c] => c.single
  | c :: d :: l => if pairOK c d then right l else c.single && right (d :: l)
def mend : List Cel → List Cel
  | [] => []
  | [c] => [c.fix]
  | c :: d :: l => if pairOK c d then c :: d :: mend l else c.fix :: mend (d :: l)
theorem mend_len : ∀ l : List Cel, (mend l).length = l.length
  | [] => rfl
  | [c] => rfl
  | c :: d :: l => by
    unfold mend
    split
    · simp [mend_len l]
    · simp [mend_len (d :: l)]
theorem bits_u8 (x y : BitVec 8) : IntKind.u8.wrap (((x &&& y).toNat : Nat) : Int) = ((x &&& y).toNat : Int) := wrap_u8 _ (by omega) (by have := (x &&& y).isLt; omega)
theorem bitV_and_u8 (x : BitVec 8) (k : Int) : bitV .and .u8 (x.toNat : Int) k = ((x &&& BitVec.ofInt 8 k).toNat : Int) := by
  show IntKind.u8.wrap ((BitVec.ofInt 8 (x.toNat : Int) &&& BitVec.ofInt 8 k).toNat : Int) = _
  rw [show BitVec.ofInt 8 (x.toNat : Int) = x by simp]
  exact bits_u8 _ _
theorem bitV_or_u8 (x : BitVec 8) (k : Int) : bitV .or .u8 (x.toNat : Int) k = ((x ||| BitVec.ofInt 8 k).toNat : Int) := by
  show IntKind.u8.wrap ((BitVec.ofInt 8 (x.toNat : Int) ||| BitVec.ofInt 8 k).toNat : Int) = _
  rw [show BitVec.ofInt 8 (x.toNat : Int) = x by simp]
  exact wrap_u8 _ (by omega) (by have := (x ||| BitVec.ofInt 8 k).isLt; omega)
theorem bitV_andNot_u8 (x : BitVec 8) (k : Int) : bitV .andNot .u8 (x.toNat : Int) k = ((x &&& ~~~BitVec.ofInt 8 k).toNat : Int) := by
  show IntKind.u8.wrap ((BitVec.ofInt 8 (x.toNat : Int) &&& ~~~BitVec.ofInt 8 k).toNat : Int) = _
  rw [show BitVec.ofInt 8 (x.toNat : Int) = x by simp]
  exact bits_u8 _ _
theorem bv0 (x : BitVec 8) : ((x.toNat : Int) = 0) = (x = 0#8) := by
  apply propext
  constructor
  · intro h; apply BitVec.eq_of_toNat_eq; simp; omega
  · rintro rfl; rfl
@[go_sem] theorem and64 (x : BitVec 8) : (bitV .and .u8 (x.toNat : Int) 64 = 0) = (x &&& 64#8 = 0#8) := by rw [bitV_and_u8, bv0]; rfl
@[go_sem] theorem and128 (x : BitVec 8) : (bitV .and .u8 (x.toNat : Int) 128 = 0) = (x &&& 128#8 = 0#8) := by rw [bitV_and_u8, bv0]; rfl
@[go_sem] theorem and192 (x : BitVec 8) : (bitV .and .u8 (x.toNat : Int) 192 = 0) = (x &&& 192#8 = 0#8) := by rw [bitV_and_u8, bv0]; rfl
@[go_sem] theorem andNot64 (x : BitVec 8) : bitV .andNot .u8 (x.toNat : Int) 64 = ((x &&& ~~~64#8).toNat : Int) := bitV_andNot_u8 x 64
@[go_sem] theorem andNot192 (x : BitVec 8) : bitV .andNot .u8 (x.toNat : Int) 192 = ((x &&& ~~~192#8).toNat : Int) := bitV_andNot_u8 x 192
@[go_sem] theorem or128 (x : BitVec 8) : bitV .or .u8 (x.toNat : Int) 128 = ((x ||| 128#8).toNat : Int) := bitV_or_u8 x 128
@[go_sem] theorem or64 (x : BitVec 8) : bitV .or .u8 (x.toNat : Int) 64 = ((x ||| 64#8).toNat : Int) := bitV_or_u8 x 64
theorem bv_inj (x y : BitVec 8) : ((x.toNat : Int) = y.toNat) = (x = y) := propext ⟨fun h => BitVec.eq_of_toNat_eq (by omega), fun h => by rw [h]⟩
theorem celEq (c d : Cel) : decide (c = d) = (decide (c.r = d.r) && (decide ((c.fg.toNat : Int) = d.fg.toNat) && (decide ((c.bg.toNat : Int) = d.bg.toNat) && (decide ((c.a.toNat : Int) = d.a.toNat) && true)))) := by
  obtain ⟨r, f, b, a⟩ := c
  obtain ⟨r', f', b', a'⟩ := d
  simp only [Cel.mk.injEq, bv_inj, Bool.decide_and, Bool.and_true]
@[go_sem] theorem celEq' (c d : Cel) : (decide (c.r = d.r) && (decide ((c.fg.toNat : Int) = d.fg.toNat) && (decide ((c.bg.toNat : Int) = d.bg.toNat) && decide ((c.a.toNat : Int) = d.a.toNat)))) = decide (c = d) := by rw [celEq]; simp only [Bool.and_true]
abbrev SxC (w : World) (e : Option TypeId) (a : Option Addr) (l : List Cel) : Prop := Sx w e Cel.cells a l
theorem SxC.cel {w : World} {e : Option TypeId} {a : Option Addr} {l : List Cel} (h : Sx w e Cel.cells a l) {i : Nat} {c : Cel} (hi : l[i]? = some c) :
    ∃ b o, a = some ⟨b, o, none⟩ ∧ b < w.heap.size ∧ aggAt w.heap[b]? (o + i * 4) 4 = some #[.int .i32 c.r, .int .u8 c.fg.toNat, .int .u8 c.bg.toNat, .int .u8 c.a.toNat] ∧
      cellAt w.heap[b]? (o + i * 4) = some (.int .i32 c.r) ∧ cellAt w.heap[b]? (o + i * 4 + 1) = some (.int .u8 c.fg.toNat) ∧ cellAt w.heap[b]? (o + i * 4 + 2) = some (.int .u8 c.bg.toNat) ∧ cellAt w.heap[b]? (o + i * 4 + 3) = some (.int .u8 c.a.toNat) := by
  obtain ⟨b, o, h1, h2, h3⟩ := h.get (m := 4) Cel.len hi
  exact ⟨b, o, h1, h2, h3, aggAt_cell h3 0 (by omega), aggAt_cell h3 1 (by omega), aggAt_cell h3 2 (by omega), aggAt_cell h3 3 (by omega)⟩
theorem mend_step {l : List Cel} {k : Nat} (hk : k < l.length) : mend (l.drop k) = if pairAt l k then (l.drop k).take 2 ++ mend (l.drop (k + 2)) else (l[k].fix :: mend (l.drop (k + 1))) := by
  have e1 : l.drop k = l[k] :: l.drop (k + 1) := List.drop_eq_getElem_cons hk
  unfold pairAt
  rw [List.getElem?_eq_getElem hk]
  by_cases h2 : k + 1 < l.length
  · have e2 : l.drop (k + 1) = l[k + 1] :: l.drop (k + 2) := List.drop_eq_getElem_cons h2
    rw [List.getElem?_eq_getElem h2, e1, e2]
    simp only [mend]
    split <;> rfl
  · rw [List.getElem?_eq_none (by omega), e1, List.drop_eq_nil_of_le (by omega)]
    simp [mend]
theorem right_step {l : List Cel} {k : Nat} (hk : k < l.length) : right (l.drop k) = if pairAt l k then right (l.drop (k + 2)) else (l[k].single && right (l.drop (k + 1))) := by
  have e1 : l.drop k = l[k] :: l.drop (k + 1) := List.drop_eq_getElem_cons hk
  unfold pairAt
  rw [List.getElem?_eq_getElem hk]
  by_cases h2 : k + 1 < l.length
  · have e2 : l.drop (k + 1) = l[k + 1] :: l.drop (k + 2) := List.drop_eq_getElem_cons h2
    rw [List.getElem?_eq_getElem h2, e1, e2]
    simp only [right]
  · rw [List.getElem?_eq_none (by omega), e1, List.drop_eq_nil_of_le (by omega)]
    simp [right]
theorem pairAt_lt {l : List Cel} {k : Nat} (h : pairAt l k = true) : k + 1 < l.length := by
  unfold pairAt at h
  by_cases h2 : k + 1 < l.length
  · exact h2
  · rw [List.getElem?_eq_none (l := l) (i := k + 1) (by omega)] at h
    cases l[k]? <;> simp at h
end Lyc
namespace Lyc
open Go
def fitsG (w h : Int) : Bool := decide (1 ≤ w ∧ w ≤ 200 ∧ 1 ≤ h ∧ h ≤ 60)
def spanG (at' n size : Int) : Int × Int :=
  if n ≤ 0 ∨ size ≤ at' ∨ (at' < 0 ∧ at' + n ≤ 0) then (0, 0) else if at' < 0 then (0, min (at' + n) size) else (at', at' + min n (size - at'))
def Cel.usual (c : Cel) : Bool := c.check && c.plain
structure Gr where
  w : Nat
  h : Nat
  cs : List Cel
  deriving DecidableEq
def Gr.val (g : Gr) (a : Option Addr) (cap : Nat) : Value := .agg #[.int .i64 g.w, .int .i64 g.h, .slice a g.cs.length cap]
def Gr.row (g : Gr) (y : Nat) : List Cel := (g.cs.drop (y * g.w)).take g.w
structure Gr.ok (g : Gr) : Prop where
  w0 : 0 < g.w
  w1 : g.w ≤ 200
  h0 : 0 < g.h
  h1 : g.h ≤ 60
  len : g.cs.length = g.w * g.h
theorem Gr.ok.le {g : Gr} (h : g.ok) : g.cs.length ≤ 12000 := by
  rw [h.len]
  have := Nat.mul_le_mul h.w1 h.h1
  omega
theorem Gr.ok.row_lt {g : Gr} (h : g.ok) {y : Nat} (hy : y < g.h) : y * g.w + g.w ≤ g.cs.length := by
  rw [h.len, Nat.mul_comm g.w g.h]
  have := Nat.mul_le_mul_right g.w (show y + 1 ≤ g.h by omega)
  rw [Nat.add_mul] at this
  omega
theorem Gr.ok.row_len {g : Gr} (h : g.ok) {y : Nat} (hy : y < g.h) : (g.row y).length = g.w := by
  have := h.row_lt hy
  simp [Gr.row]; omega
def Gr.right (g : Gr) : Bool := (List.range g.h).all fun y => Lyc.right (g.row y)
theorem Gr.right_of {g : Gr} (h : ∀ y, y < g.h → Lyc.right (g.row y) = true) : g.right = true := by
  unfold Gr.right; rw [List.all_eq_true]; intro y hy; exact h y (List.mem_range.1 hy)
theorem Gr.right_not {g : Gr} {y : Nat} (hy : y < g.h) (h : Lyc.right (g.row y) = false) : g.right = false := by
  unfold Gr.right; rw [List.all_eq_false]; exact ⟨y, List.mem_range.2 hy, by simp [h]⟩
theorem Gr.right.at {g : Gr} (h : g.right = true) {y : Nat} (hy : y < g.h) : Lyc.right (g.row y) = true := by
  unfold Gr.right at h; rw [List.all_eq_true] at h; exact h y (List.mem_range.2 hy)
theorem Gr.ok.fits {g : Gr} (h : g.ok) : fitsG g.w g.h = true := by
  have := h.w0; have := h.w1; have := h.h0; have := h.h1
  unfold fitsG; apply decide_eq_true; omega
theorem Gr.ok.ne {g : Gr} (h : g.ok) : g.cs ≠ [] := by
  intro hn
  have := h.len; rw [hn] at this
  have h1 := h.w0; have h2 := h.h0
  have := Nat.mul_pos h1 h2
  simp at *
  omega
variable {α : Type}
def rowsOf (R : Nat → List α) : Nat → List α
  | 0 => []
  | h + 1 => rowsOf R h ++ R h
theorem rowsOf_len {R : Nat → List α} {w : Nat} : ∀ {h : Nat}, (∀ y, y < h → (R y).length = w) → (rowsOf R h).length = h * w
  | 0, _ => by simp [rowsOf]
  | h + 1, hR => by simp [rowsOf, rowsOf_len (h := h) (fun y hy => hR y (by omega)), hR h (by omega), Nat.add_mul]
theorem rowsOf_congr {R S : Nat → List α} : ∀ {h : Nat}, (∀ y, y < h → R y = S y) → rowsOf R h = rowsOf S h
  | 0, _ => rfl
  | h + 1, hR => by simp [rowsOf, rowsOf_congr (h := h) (fun y hy => hR y (by omega)), hR h (by omega)]
theorem rowsOf_split (R : Nat → List α) (y : Nat) : ∀ d : Nat, ∃ post, ∀ S : Nat → List α, (∀ k, k ≠ y → S k = R k) → rowsOf S (y + 1 + d) = rowsOf R y ++ S y ++ post
  | 0 => ⟨[], fun S hS => by simp [rowsOf, rowsOf_congr (h := y) (fun k hk => hS k (by omega))]⟩
  | d + 1 => by
    obtain ⟨post, h⟩ := rowsOf_split R y d
    refine ⟨post ++ R (y + 1 + d), fun S hS => ?_⟩
    rw [← Nat.add_assoc]
    simp only [rowsOf]
    rw [h S hS, hS (y + 1 + d) (by omega)]
    simp
theorem rowsOf_row {R : Nat → List α} {w h : Nat} (hR : ∀ y, y < h → (R y).length = w) {y : Nat} (hy : y < h) : ((rowsOf R h).drop (y * w)).take w = R y := by
  obtain ⟨d, rfl⟩ : ∃ d, h = y + 1 + d := ⟨h - (y + 1), by omega⟩
  obtain ⟨post, hp⟩ := rowsOf_split R y d
  rw [hp R (fun _ _ => rfl)]
  have h1 := rowsOf_len (R := R) (w := w) (h := y) (fun k hk => hR k (by omega))
  rw [List.append_assoc, List.drop_append, h1]
  have h2 := hR y (by omega)
  simp [List.drop_eq_nil_of_le, h1, h2]
theorem rowsOf_of {w : Nat} : ∀ {h : Nat} (l : List α), l.length = h * w → rowsOf (fun y => (l.drop (y * w)).take w) h = l
  | 0, l, hl => by simp at hl; subst hl; rfl
  | h + 1, l, hl => by
    rw [Nat.add_mul] at hl
    have ih := rowsOf_of (w := w) (h := h) (l.take (h * w)) (by simp; omega)
    have hc : rowsOf (fun y => (l.drop (y * w)).take w) h = rowsOf (fun y => ((l.take (h * w)).drop (y * w)).take w) h := by
      refine rowsOf_congr fun y hy => ?_
      have := Nat.mul_le_mul_right w (show y + 1 ≤ h by omega)
      rw [Nat.add_mul] at this
      rw [List.drop_take, List.take_take, Nat.min_eq_left (by omega)]
    show rowsOf _ h ++ (l.drop (h * w)).take w = l
    rw [hc, ih, List.take_of_length_le (l := l.drop (h * w)) (by simp; omega), List.take_append_drop]
theorem Gr.ok.rows {g : Gr} (h : g.ok) : rowsOf g.row g.h = g.cs := by
  have := rowsOf_of (w := g.w) (h := g.h) g.cs (by rw [h.len, Nat.mul_comm])
  exact this
def Gr.of (w h : Nat) (R : Nat → List Cel) : Gr := ⟨w, h, rowsOf R h⟩
theorem Gr.of_ok {w h : Nat} {R : Nat → List Cel} (w0 : 0 < w) (w1 : w ≤ 200) (h0 : 0 < h) (h1 : h ≤ 60) (hR : ∀ y, y < h → (R y).length = w) : (Gr.of w h R).ok :=
  ⟨w0, w1, h0, h1, by simp [Gr.of, rowsOf_len hR, Nat.mul_comm]⟩
theorem Gr.of_row {w h : Nat} {R : Nat → List Cel} (hR : ∀ y, y < h → (R y).length = w) {y : Nat} (hy : y < h) : (Gr.of w h R).row y = R y := rowsOf_row hR hy
def Gr.chg (g : Gr) (top fin : Int) (f : Nat → List Cel) : Gr := Gr.of g.w g.h fun y => if top ≤ y ∧ (y : Int) < fin then mend (f y) else g.row y
theorem Gr.chg_rows {g : Gr} (h : g.ok) {top fin : Int} {f : Nat → List Cel} (hf : ∀ y, y < g.h → top ≤ (y : Int) → (y : Int) < fin → (f y).length = g.w) (y : Nat) (hy : y < g.h) : (if top ≤ y ∧ (y : Int) < fin then mend (f y) else g.row y).length = g.w := by
  split
  · rename_i h1; rw [mend_len, hf y hy h1.1 h1.2]
  · exact h.row_len hy
theorem Gr.chg_ok {g : Gr} (h : g.ok) {top fin : Int} {f : Nat → List Cel} (hf : ∀ y, y < g.h → top ≤ (y : Int) → (y : Int) < fin → (f y).length = g.w) : (g.chg top fin f).ok :=
  Gr.of_ok h.w0 h.w1 h.h0 h.h1 (Gr.chg_rows h hf)
theorem Gr.chg_len {g : Gr} (h : g.ok) {top fin : Int} {f : Nat → List Cel} (hf : ∀ y, y < g.h → top ≤ (y : Int) → (y : Int) < fin → (f y).length = g.w) : (g.chg top fin f).cs.length = g.cs.length := by
  rw [(Gr.chg_ok h hf).len, h.len]; rfl
theorem Gr.chg_row {g : Gr} (h : g.ok) {top fin : Int} {f : Nat → List Cel} (hf : ∀ y, y < g.h → top ≤ (y : Int) → (y : Int) < fin → (f y).length = g.w) {y : Nat} (hy : y < g.h) : (g.chg top fin f).row y = if top ≤ y ∧ (y : Int) < fin then mend (f y) else g.row y :=
  Gr.of_row (Gr.chg_rows h hf) hy
def lineOf (n : Nat) (c : Nat → α) : List α := (List.range n).map c
theorem lineOf_len (n : Nat) (c : Nat → α) : (lineOf n c).length = n := by simp [lineOf]
theorem lineOf_get {n : Nat} {c : Nat → α} {i : Nat} (h : i < n) : (lineOf n c)[i]? = some (c i) := by simp [lineOf, h]
theorem lineOf_congr {n : Nat} {c d : Nat → α} (h : ∀ i, i < n → c i = d i) : lineOf n c = lineOf n d := List.map_congr_left fun i hi => h i (List.mem_range.1 hi)
theorem lineOf_set {n : Nat} {c d : Nat → α} {i : Nat} {v : α} (hi : i < n) (hd : d i = v) (h : ∀ k, k < n → k ≠ i → d k = c k) : (lineOf n c).set i v = lineOf n d := by
  apply List.ext_getElem?
  intro k
  by_cases hk : k < n
  · rw [lineOf_get hk, List.getElem?_set]
    by_cases he : i = k
    · subst he; rw [if_pos rfl, if_pos (by rw [lineOf_len]; exact hi), hd]
    · rw [if_neg he, lineOf_get hk, h k hk (Ne.symm he)]
  · rw [List.getElem?_eq_none (by rw [List.length_set, lineOf_len]; omega), List.getElem?_eq_none (by rw [lineOf_len]; omega)]
theorem lineOf_of {l : List α} {n : Nat} (h : l.length = n) {c : Nat → α} (hc : ∀ i, i < n → l[i]? = some (c i)) : l = lineOf n c := by
  apply List.ext_getElem?
  intro k
  by_cases hk : k < n
  · rw [lineOf_get hk, hc k hk]
  · rw [List.getElem?_eq_none (by omega), List.getElem?_eq_none (by rw [lineOf_len]; omega)]
def Cel.none : Cel := ⟨0, 0, 0, 0⟩
def Gr.at (g : Gr) (x y : Nat) : Cel := g.cs.getD (y * g.w + x) Cel.none
theorem Gr.ok.at_some {g : Gr} (h : g.ok) {x y : Nat} (hx : x < g.w) (hy : y < g.h) : g.cs[y * g.w + x]? = some (g.at x y) := by
  have := h.row_lt hy
  unfold Gr.at
  rw [List.getD_eq_getElem?_getD, List.getElem?_eq_getElem (by omega)]; rfl
theorem Gr.ok.row_get {g : Gr} (h : g.ok) {x y : Nat} (hx : x < g.w) (hy : y < g.h) : (g.row y)[x]? = some (g.at x y) := by
  unfold Gr.row
  rw [List.getElem?_take_of_lt hx, List.getElem?_drop, h.at_some hx hy]
theorem Gr.ok.row_line {g : Gr} (h : g.ok) {y : Nat} (hy : y < g.h) : g.row y = lineOf g.w fun x => g.at x y :=
  lineOf_of (h.row_len hy) fun _ hx => h.row_get hx hy
theorem spanG_b {x n size : Int} (h : 0 ≤ size) : 0 ≤ (spanG x n size).1 ∧ (spanG x n size).1 ≤ (spanG x n size).2 ∧ (spanG x n size).2 ≤ size := by
  unfold spanG
  split
  · simp; omega
  · split <;> simp <;> omega
theorem spanG_mem {x n size : Int} {i : Int} (h0 : 0 ≤ i) (h1 : i < size) : ((spanG x n size).1 ≤ i ∧ i < (spanG x n size).2) ↔ (x ≤ i ∧ i < x + n) := by
  unfold spanG
  split
  · simp; omega
  · split <;> simp <;> omega
def Gr.fill (g : Gr) (X Y W H : Int) (c : Cel) : Gr :=
  g.chg (spanG Y H g.h).1 (spanG Y H g.h).2 fun y => lineOf g.w fun x => if (spanG X W g.w).1 ≤ (x : Int) ∧ (x : Int) < (spanG X W g.w).2 then c else g.at x y
def Gr.plain (w h : Nat) (c : Cel) : Gr := ⟨w, h, List.replicate (w * h) c⟩
theorem Gr.plain_ok {w h : Nat} (w0 : 0 < w) (w1 : w ≤ 200) (h0 : 0 < h) (h1 : h ≤ 60) (c : Cel) : (Gr.plain w h c).ok := ⟨w0, w1, h0, h1, by simp [Gr.plain]⟩
theorem Gr.ok.at_lt {g : Gr} (h : g.ok) {x y : Nat} (hx : x < g.w) (hy : y < g.h) : y * g.w + x < g.cs.length := by
  have := h.row_lt hy; omega
theorem Gr.plain_at {w h : Nat} (w0 : 0 < w) (w1 : w ≤ 200) (h0 : 0 < h) (h1 : h ≤ 60) (c : Cel) {x y : Nat} (hx : x < w) (hy : y < h) : (Gr.plain w h c).at x y = c := by
  have h2 := (Gr.plain_ok w0 w1 h0 h1 c).at_some (x := x) (y := y) hx hy
  have h3 : (List.replicate (w * h) c)[y * w + x]? = some ((Gr.plain w h c).at x y) := h2
  rw [List.getElem?_replicate] at h3
  split at h3
  · exact (Option.some.inj h3).symm
  · exact absurd h3 (by simp)
theorem Gr.of_at {w h : Nat} {R : Nat → List Cel} (w0 : 0 < w) (w1 : w ≤ 200) (h0 : 0 < h) (h1 : h ≤ 60) (hR : ∀ y, y < h → (R y).length = w) {x y : Nat} (hx : x < w) (hy : y < h) : some ((Gr.of w h R).at x y) = (R y)[x]? := by
  rw [← Gr.of_row hR hy, (Gr.of_ok w0 w1 h0 h1 hR).row_get hx hy]
def Gr.put (g : Gr) (X Y : Int) (l : List Cel) : Gr :=
  g.chg (spanG Y 1 g.h).1 (spanG Y 1 g.h).2 fun y => lineOf g.w fun x => if (spanG X l.length g.w).1 ≤ (x : Int) ∧ (x : Int) < (spanG X l.length g.w).2 then l.getD ((x : Int) - X).toNat Cel.none else g.at x y
def Gr.scrollF (g : Gr) (top fin n : Int) (c : Cel) (y : Nat) : List Cel := if (y : Int) + n < top ∨ fin ≤ (y : Int) + n then lineOf g.w fun _ => c else g.row ((y : Int) + n).toNat
def Gr.scroll (g : Gr) (top fin n : Int) (c : Cel) : Gr :=
  g.chg (min (max top 0) g.h) (min (max fin 0) g.h) (g.scrollF (min (max top 0) g.h) (min (max fin 0) g.h) (min (max n (-g.h)) g.h) c)
def Gr.shiftF (g : Gr) (X n : Int) (c : Cel) (y : Nat) : List Cel :=
  lineOf g.w fun x => if X ≤ (x : Int) then (if X ≤ (x : Int) - n ∧ (x : Int) - n < g.w then g.at ((x : Int) - n).toNat y else c) else g.at x y
def Gr.shift (g : Gr) (X Y n : Int) (c : Cel) : Gr :=
  g.chg (spanG Y 1 g.h).1 (spanG Y 1 g.h).2 (g.shiftF (max X 0) (min (max n (-g.w)) g.w) c)
def Gr.blit (g f : Gr) (X Y : Int) : Gr :=
  g.chg (spanG Y f.h g.h).1 (spanG Y f.h g.h).2 fun y => lineOf g.w fun x => if (spanG X f.w g.w).1 ≤ (x : Int) ∧ (x : Int) < (spanG X f.w g.w).2 then (if 0 ≤ (y : Int) - Y ∧ (y : Int) - Y < f.h ∧ 0 ≤ (x : Int) - X ∧ (x : Int) - X < f.w then f.at ((x : Int) - X).toNat ((y : Int) - Y).toNat else Cel.none) else g.at x y
def Gr.resize (g : Gr) (w h : Nat) (c : Cel) : Gr :=
  (Gr.plain w h c).chg 0 (min (h : Int) g.h) fun y => lineOf w fun x => if x < g.w then g.at x y else (Gr.plain w h c).at x y
theorem Gr.ok.scrollF_len {g : Gr} (hg : g.ok) {T E N : Int} {c : Cel} (ht : 0 ≤ T) (he : E ≤ g.h) (y : Nat) : (g.scrollF T E N c y).length = g.w := by
  unfold Gr.scrollF
  by_cases h : (y : Int) + N < T ∨ E ≤ (y : Int) + N
  · rw [if_pos h]; exact lineOf_len _ _
  · rw [if_neg h]; exact hg.row_len (by omega)
end Lyc
namespace Lyc
open Go
structure Act' where
  kind : Int
  r : Int
  priv : Int
  mid : Int
  n : Int
  n0 : Int
  n1 : Int
  n2 : Int
  n3 : Int
  n4 : Int
  n5 : Int
  n6 : Int
  n7 : Int
deriving DecidableEq
def Act'.nums (a : Act') : List Int := [a.n0, a.n1, a.n2, a.n3, a.n4, a.n5, a.n6, a.n7]
@[go_sem] def Act'.cells (a : Act') : List Value := [.int .i64 a.kind, .int .i32 a.r, .int .u8 a.priv, .int .u8 a.mid, .int .i64 a.n, .int .i64 a.n0, .int .i64 a.n1, .int .i64 a.n2, .int .i64 a.n3, .int .i64 a.n4, .int .i64 a.n5, .int .i64 a.n6, .int .i64 a.n7]
@[go_sem] def Act'.val (a : Act') : Value := .agg #[.int .i64 a.kind, .int .i32 a.r, .int .u8 a.priv, .int .u8 a.mid, .int .i64 a.n, .int .i64 a.n0, .int .i64 a.n1, .int .i64 a.n2, .int .i64 a.n3, .int .i64 a.n4, .int .i64 a.n5, .int .i64 a.n6, .int .i64 a.n7]
theorem Act'.len (a : Act') : a.cells.length = 13 := rfl
theorem Act'.ok (a : Act') : okCells a.cells = true := rfl
def i64ok (n : Int) : Prop := -9223372036854775808 ≤ n ∧ n ≤ 9223372036854775807
structure Act'.fits (a : Act') : Prop where
  r0 : -2147483648 ≤ a.r
  r1 : a.r ≤ 2147483647
  n : i64ok a.n
  nums : ∀ x ∈ a.nums, i64ok x
def Act'.num (a : Act') (i : Nat) (least : Int) : Int := if 8 ≤ i ∨ a.n ≤ i then least else max (a.nums.getD i 0) least
structure Sav where
  x : Nat
  y : Nat
  pen : Cel
deriving DecidableEq
@[go_sem] def Sav.cells (s : Sav) : List Value := [.int .i64 s.x, .int .i64 s.y, .int .i32 s.pen.r, .int .u8 s.pen.fg.toNat, .int .u8 s.pen.bg.toNat, .int .u8 s.pen.a.toNat]
def Sav.zero : Sav := ⟨0, 0, Cel.none⟩
structure Scr where
  w : Nat
  h : Nat
  g0 : Gr
  g1 : Gr
  s0 : Sav
  s1 : Sav
  alt : Bool
  now : Sav
  top : Nat
  fin : Nat
  tabs : List Bool
  wraps : Bool
  waits : Bool
  shown : Bool
  gone : List (List Cel)
def tabs0 : List Bool := (List.range 200).map fun x => decide (x % 8 = 0 ∧ 8 ≤ x)
def Scr.renew (S : Scr) : Scr := ⟨S.w, S.h, Gr.plain S.w S.h Cel.blank, Gr.plain S.w S.h Cel.blank, .zero, .zero, false, .zero, 0, S.h, tabs0, true, false, true, S.gone⟩
def Scr.new (w h : Nat) : Scr := ⟨w, h, Gr.plain w h Cel.blank, Gr.plain w h Cel.blank, .zero, .zero, false, .zero, 0, h, tabs0, true, false, true, []⟩
def Scr.cur (S : Scr) : Gr := bif S.alt then S.g1 else S.g0
def Scr.setCur (S : Scr) (g : Gr) : Scr := bif S.alt then { S with g1 := g } else { S with g0 := g }
def Scr.free (S : Scr) : Cel := ⟨32, 0, S.now.pen.bg, 0⟩
def clampN (x : Int) (n : Nat) : Nat := (min (max x 0) ((n : Int) - 1)).toNat
def Scr.at (S : Scr) (x y : Nat) : Scr := { S with now := { S.now with x := x, y := y } }
def Scr.move (S : Scr) (x y : Int) : Scr := S.at (clampN x S.w) (clampN y S.h)
def Scr.save (S : Scr) : Scr := bif S.alt then { S with s1 := S.now } else { S with s0 := S.now }
def Scr.restore (S : Scr) : Scr := { S with now := bif S.alt then S.s1 else S.s0, waits := false }
def Scr.line (S : Scr) (f : Gr → Gr) : Scr := S.setCur (Gr.of S.w S.h fun y => if y = S.now.y then (f ⟨S.w, 1, S.cur.row y⟩).cs else S.cur.row y)
def Scr.erase (S : Scr) (x n : Int) : Scr := S.line fun g => g.fill x 0 n 1 S.free
def Scr.clear (S : Scr) (y n : Int) : Scr := S.setCur (S.cur.fill 0 y S.w n S.free)
def Scr.scroll (S : Scr) (top n : Int) : Scr := S.setCur (S.cur.scroll top S.fin n S.free)
def latest (l : List (List Cel)) : List (List Cel) := l.drop (l.length - 500)
def Scr.keep (S : Scr) (n : Int) : Scr := if S.top = 0 ∧ S.alt = false then { S with gone := latest (S.gone ++ (List.range (min n S.fin).toNat).map S.g0.row) } else S
def Scr.up (S : Scr) (n : Int) : Scr := (S.keep n).scroll S.top n
def Scr.below (S : Scr) : Scr := if S.now.y + 1 = S.fin then S.up 1 else if S.now.y + 1 < S.h then S.at S.now.x (S.now.y + 1) else S
def Scr.above (S : Scr) : Scr := if S.now.y = S.top then S.scroll S.top (-1) else if 0 < S.now.y then S.at S.now.x (S.now.y - 1) else S
def Scr.wrapped (S : Scr) : Scr := if S.waits then (S.at 0 S.now.y).below else S
def Scr.roomFor (S : Scr) (n : Nat) : Scr := if S.w < S.now.x + n then (if S.wraps then (S.at 0 S.now.y).below else S.at (S.w - n) S.now.y) else S
def Scr.lay (S : Scr) (r : Int) (n : Nat) : Scr :=
  let T := (S.line fun g => g.put S.now.x 0 (mkCel r S.now.pen))
  if S.now.x + n = S.w then { T.at (S.w - 1) S.now.y with waits := S.wraps } else { T.at (S.now.x + n) S.now.y with waits := false }
def Scr.print (S : Scr) (r : Int) : Scr :=
  if width r = 0 ∨ (S.w : Int) < width r then S else ((S.wrapped).roomFor (width r).toNat).lay r (width r).toNat
def tabGo (tabs : List Bool) (w : Nat) : Nat → Nat → Nat
  | 0, x => x
  | k + 1, x => if x < w ∧ tabs.getD x false = false then tabGo tabs w k (x + 1) else x
def Scr.tab (S : Scr) : Scr := S.at (min (tabGo S.tabs S.w (S.w - (S.now.x + 1)) (S.now.x + 1)) (S.w - 1)) S.now.y
def Scr.calm (S : Scr) : Scr := { S with waits := false }
def Scr.ctl (S : Scr) (r : Int) : Scr :=
  if r = 8 then (S.at (S.now.x - 1) S.now.y).calm
  else if r = 9 then S.tab.calm
  else if r = 10 ∨ r = 11 ∨ r = 12 then S.below.calm
  else if r = 13 then (S.at 0 S.now.y).calm
  else S
def Scr.esc (S : Scr) (r : Int) : Scr :=
  if r = 55 then S.save
  else if r = 72 then { S with tabs := S.tabs.set S.now.x true }
  else if r = 69 then (S.at 0 S.now.y).below.calm
  else if r = 68 then S.below.calm
  else if r = 77 then S.above.calm
  else if r = 56 then S.restore.calm
  else if r = 99 then S.renew.calm
  else S
def Scr.mode (S : Scr) (n : Int) (on : Bool) : Scr :=
  if n = 7 then { S with wraps := on, waits := S.waits && on }
  else if n = 25 then { S with shown := on }
  else if n = 47 ∨ n = 1047 ∨ n = 1049 then
    (if on = true ∧ S.alt = false then { S.save with alt := true, g1 := Gr.plain S.w S.h Cel.blank, waits := false }
     else if on = false ∧ S.alt = true then { S with alt := false }.restore
     else S)
  else S
def Scr.modes (S : Scr) (l : List Int) (on : Bool) : Scr := l.foldl (fun S n => S.mode n on) S
def Scr.moved (S : Scr) (a : Act') : Option Scr :=
  let n := min (a.num 0 1) 9999
  let up := fun (S : Scr) => S.at S.now.x (max ((S.now.y : Int) - n) (if S.top ≤ S.now.y then S.top else 0)).toNat
  let dn := fun (S : Scr) => S.at S.now.x (min ((S.now.y : Int) + n) (if S.now.y + 1 ≤ S.fin then S.fin - 1 else S.h - 1)).toNat
  if a.r = 70 then some (up (S.at 0 S.now.y))
  else if a.r = 65 then some (up S)
  else if a.r = 69 then some (dn (S.at 0 S.now.y))
  else if a.r = 66 then some (dn S)
  else if a.r = 67 then some (S.move (S.now.x + n) S.now.y)
  else if a.r = 68 then some (S.move (S.now.x - n) S.now.y)
  else if a.r = 71 ∨ a.r = 96 then some (S.move (n - 1) S.now.y)
  else if a.r = 100 then some (S.move S.now.x (n - 1))
  else if a.r = 72 ∨ a.r = 102 then some (S.move (a.num 1 1 - 1) (n - 1))
  else if a.r = 117 then some S.restore
  else none
def Scr.region (S : Scr) (top fin : Int) : Scr :=
  let f := if fin = 0 ∨ (S.h : Int) < fin then (S.h : Int) else fin
  if top < f - 1 then { S with top := top.toNat, fin := f.toNat }.move 0 0 else S
def Scr.wipeRows (S : Scr) (k : Int) : Scr := if k = 0 then S.clear ((S.now.y : Int) + 1) S.h else if k = 1 then S.clear 0 S.now.y else if k = 2 then S.clear 0 S.h else S
def Scr.wipeLine (S : Scr) (k : Int) : Scr := if k = 0 then S.erase S.now.x S.w else if k = 1 then S.erase 0 ((S.now.x : Int) + 1) else if k = 2 then S.erase 0 S.w else S
def Scr.shiftRows (S : Scr) (n : Int) : Scr := if S.top ≤ S.now.y ∧ S.now.y < S.fin then (S.scroll S.now.y (-n)).at 0 S.now.y else S
def Scr.changed (S : Scr) (a : Act') : Option Scr :=
  let n := min (a.num 0 1) 9999
  if a.r = 74 then some ((S.wipeRows (a.num 0 0)).wipeLine (a.num 0 0))
  else if a.r = 75 then some (S.wipeLine (a.num 0 0))
  else if a.r = 77 then some (S.shiftRows (-n))
  else if a.r = 76 then some (S.shiftRows n)
  else if a.r = 80 then some (S.line fun g => g.shift S.now.x 0 (-n) S.free)
  else if a.r = 64 then some (S.line fun g => g.shift S.now.x 0 n S.free)
  else if a.r = 88 then some (S.erase S.now.x n)
  else if a.r = 83 then some (S.up n)
  else if a.r = 84 then some (S.scroll S.top (-n))
  else if a.r = 114 then some (S.region (n - 1) (a.num 1 0))
  else none
def way (n : Nat) : BitVec 8 := [0#8, 1#8, 2#8, 4#8, 8#8, 16#8, 0#8, 32#8].getD n 0#8
def hue (n : Int) : BitVec 8 := BitVec.ofInt 8 (max n 1)
def obeyP (c : Cel) (n : Int) : Cel :=
  if n = 0 then { c with fg := 0, bg := 0, a := 0 }
  else if 0 < n ∧ n < 8 then { c with a := c.a ||| way n.toNat }
  else if n = 22 then { c with a := c.a &&& ~~~3#8 }
  else if 23 ≤ n ∧ n ≤ 27 then { c with a := c.a &&& ~~~(way (n - 20).toNat) }
  else if 30 ≤ n ∧ n ≤ 37 then { c with fg := hue (n - 30) }
  else if n = 39 then { c with fg := 0 }
  else if 40 ≤ n ∧ n ≤ 47 then { c with bg := hue (n - 40) }
  else if n = 49 then { c with bg := 0 }
  else if 90 ≤ n ∧ n ≤ 97 then { c with fg := hue (n - 82) }
  else if 100 ≤ n ∧ n ≤ 107 then { c with bg := hue (n - 92) }
  else c
def part43 (n : Int) : Int := (min (max n 0) 255) / 43
def rgb (r g b : Int) : BitVec 8 := BitVec.ofInt 8 (16 + 36 * part43 r + 6 * part43 g + part43 b)
def chosenP : List Int → Option (BitVec 8) × List Int
  | 5 :: n :: l => (if 0 ≤ n ∧ n ≤ 255 then some (hue n) else none, l)
  | 2 :: r :: g :: b :: l => (some (rgb r g b), l)
  | _ => (none, [])
theorem chosenP_len (l : List Int) : (chosenP l).2.length ≤ l.length := by
  unfold chosenP
  split <;> simp <;> omega
def penGo : Nat → List Int → Cel → Cel
  | 0, _, c => c
  | _ + 1, [], c => c
  | k + 1, n :: l, c =>
    if n = 38 then penGo k (chosenP l).2 (match (chosenP l).1 with | some x => { c with fg := x } | none => c)
    else if n = 48 then penGo k (chosenP l).2 (match (chosenP l).1 with | some x => { c with bg := x } | none => c)
    else penGo k l (obeyP c n)
def Act'.left (a : Act') : List Int := let l := a.nums.take (min (max a.n 0) 8).toNat; if l = [] then [0] else l
def penP (c : Cel) (a : Act') : Cel := if a.kind ≠ 4 ∨ a.r ≠ 109 ∨ a.priv ≠ 0 ∨ a.mid ≠ 0 then c else penGo 9 a.left c
def Scr.set (S : Scr) (a : Act') : Option Scr :=
  if a.r = 109 then some { S with now := { S.now with pen := penP S.now.pen a } }
  else if a.r = 103 then some (if a.num 0 0 = 0 then { S with tabs := S.tabs.set S.now.x false } else if a.num 0 0 = 3 then { S with tabs := List.replicate 200 false } else S)
  else if a.r = 115 then some S.save
  else none
def Scr.csi (S : Scr) (a : Act') : Scr :=
  if a.priv = 63 ∧ a.mid = 0 ∧ (a.r = 104 ∨ a.r = 108) then S.modes (a.nums.take (min (max a.n 0) 8).toNat) (decide (a.r = 104))
  else if a.priv ≠ 0 ∨ a.mid ≠ 0 then S
  else match S.set a with
    | some T => T
    | none => match S.moved a with
      | some T => T.calm
      | none => match S.changed a with
        | some T => T.calm
        | none => S
def Scr.act (S : Scr) (a : Act') : Scr :=
  if a.kind = 1 then S.print a.r
  else if a.kind = 2 then S.ctl a.r
  else if a.kind = 3 then (if a.mid = 0 then S.esc a.r else S)
  else if a.kind = 4 then S.csi a
  else S
def Scr.acts (S : Scr) (l : List Act') : Scr := l.foldl Scr.act S
def Scr.resize (S : Scr) (w h : Nat) : Scr :=
  { (⟨w, h, S.g0.resize w h Cel.blank, S.g1.resize w h Cel.blank, ⟨clampN S.s0.x w, clampN S.s0.y h, S.s0.pen⟩, ⟨clampN S.s1.x w, clampN S.s1.y h, S.s1.pen⟩, S.alt, S.now, 0, h, S.tabs, S.wraps, false, S.shown, S.gone⟩ : Scr).move S.now.x S.now.y with waits := false }
end Lyc
namespace Lyc
open Go
theorem tailOf_wide (c : Cel) : c.tailOf.wide = false := by
  have h : ∀ a : BitVec 8, ((a &&& ~~~64#8) ||| 128#8) &&& 64#8 = 0#8 := by decide
  simp only [Cel.wide, Cel.tailOf, h]; rfl
theorem tailOf_tail (c : Cel) : c.tailOf.tail = true := by
  have h : ∀ a : BitVec 8, ¬ ((a &&& ~~~64#8) ||| 128#8) &&& 128#8 = 0#8 := by decide
  simp only [Cel.tail, Cel.tailOf, h]; rfl
theorem plain_wide {c : Cel} (h : c.plain = true) : c.wide = false := by
  have h1 : ∀ a : BitVec 8, a &&& 192#8 = 0#8 → a &&& 64#8 = 0#8 := by decide
  simp only [Cel.plain, decide_eq_true_eq] at h
  simp [Cel.wide, h1 _ h]
theorem plain_tail {c : Cel} (h : c.plain = true) : c.tail = false := by
  have h1 : ∀ a : BitVec 8, a &&& 192#8 = 0#8 → a &&& 128#8 = 0#8 := by decide
  simp only [Cel.plain, decide_eq_true_eq] at h
  simp [Cel.tail, h1 _ h]
theorem wide_64 {c : Cel} (h : c.wide = true) : 64 ≤ c.a.toNat := by
  have h1 : ∀ a : BitVec 8, ¬ a &&& 64#8 = 0#8 → 64#8 ≤ a := by decide
  simp only [Cel.wide, decide_eq_true_eq] at h
  exact BitVec.le_def.1 (h1 _ h)
theorem tail_64 {c : Cel} (h : c.tail = true) : 64 ≤ c.a.toNat := by
  have h1 : ∀ a : BitVec 8, ¬ a &&& 128#8 = 0#8 → 64#8 ≤ a := by decide
  simp only [Cel.tail, decide_eq_true_eq] at h
  exact BitVec.le_def.1 (h1 _ h)
theorem pairOK_fst {c d : Cel} (h : pairOK c d = true) : c.wide = true ∧ c.check = true ∧ d = c.tailOf := by
  simpa [pairOK, and_assoc] using h
theorem pairOK_wide {c d : Cel} (h : c.wide = false) : pairOK c d = false := by simp [pairOK, h]
theorem pairAt_cons (c : Cel) (l : List Cel) (i : Nat) : pairAt (c :: l) (i + 1) = pairAt l i := rfl
theorem pairAt_zero (c d : Cel) (l : List Cel) : pairAt (c :: d :: l) 0 = pairOK c d := rfl
def near (l : List Cel) : Nat → Bool
  | 0 => pairAt l 0
  | i + 1 => pairAt l (i + 1) || pairAt l i
theorem near_shift {c : Cel} {l : List Cel} (h : pairAt (c :: l) 0 = false) (i : Nat) : near (c :: l) (i + 1) = near l i := by
  cases i with
  | zero => show (pairAt l 0 || pairAt (c :: l) 0) = pairAt l 0; rw [h]; simp
  | succ i => rfl
theorem pairAt_tail {c d : Cel} {l : List Cel} (h : pairOK c d = true) : pairAt (d :: l) 0 = false := by
  cases l with
  | nil => rfl
  | cons e l => rw [pairAt_zero]; exact pairOK_wide (by rw [(pairOK_fst h).2.2]; exact tailOf_wide c)
theorem near_shift2 {c d : Cel} {l : List Cel} (h : pairOK c d = true) (i : Nat) : near (c :: d :: l) (i + 2) = near l i := by
  rw [← near_shift (pairAt_tail h) i]
  rfl
theorem mend_get : ∀ (l : List Cel) (i : Nat) (c : Cel), l[i]? = some c → (mend l)[i]? = some (if near l i then c else c.fix)
  | [], i, c, h => by simp at h
  | [d], 0, c, h => by simp at h; subst h; rfl
  | [d], i + 1, c, h => by simp at h
  | c :: d :: l, i, x, h => by
    unfold mend
    by_cases hp : pairOK c d = true
    · rw [if_pos hp]
      match i with
      | 0 => simp at h; subst h; simp [near, pairAt_zero, hp]
      | 1 => simp at h; subst h; simp [near, pairAt_zero, hp]
      | i + 2 => rw [near_shift2 hp]; exact mend_get l i x h
    · rw [if_neg hp]
      have hp' : pairAt (c :: d :: l) 0 = false := by rw [pairAt_zero]; simpa using hp
      match i with
      | 0 => simp at h; subst h; simp [near, hp']
      | i + 1 => rw [near_shift hp']; exact mend_get (d :: l) i x h
theorem right_get : ∀ (l : List Cel) (_ : right l = true) (i : Nat) (c : Cel), l[i]? = some c → near l i = true ∨ c.single = true
  | [], _, i, c, h => by simp at h
  | [d], hr, 0, c, h => by simp at h; subst h; exact .inr hr
  | [d], hr, i + 1, c, h => by simp at h
  | c :: d :: l, hr, i, x, h => by
    unfold right at hr
    by_cases hp : pairOK c d = true
    · rw [if_pos hp] at hr
      match i with
      | 0 => exact .inl (by simp [near, pairAt_zero, hp])
      | 1 => exact .inl (by simp [near, pairAt_zero, hp])
      | i + 2 => rw [near_shift2 hp]; exact right_get l hr i x h
    · rw [if_neg hp, Bool.and_eq_true] at hr
      have hp' : pairAt (c :: d :: l) 0 = false := by rw [pairAt_zero]; simpa using hp
      match i with
      | 0 => simp at h; subst h; exact .inr hr.1
      | i + 1 => rw [near_shift hp']; exact right_get (d :: l) hr.2 i x h
theorem right_of_get : ∀ (l : List Cel) (_ : ∀ i c, l[i]? = some c → near l i = true ∨ c.single = true), right l = true
  | [], _ => rfl
  | [d], h => by
    rcases h 0 d rfl with h | h
    · exact absurd h (by simp [near, pairAt])
    · exact h
  | c :: d :: l, h => by
    unfold right
    by_cases hp : pairOK c d = true
    · rw [if_pos hp]
      exact right_of_get l fun i x hx => by have := h (i + 2) x hx; rwa [near_shift2 hp] at this
    · rw [if_neg hp, Bool.and_eq_true]
      have hp' : pairAt (c :: d :: l) 0 = false := by rw [pairAt_zero]; simpa using hp
      refine ⟨?_, right_of_get (d :: l) fun i x hx => by have := h (i + 1) x hx; rwa [near_shift hp'] at this⟩
      rcases h 0 c rfl with h | h
      · exact absurd h (by simp [near, hp'])
      · exact h
theorem fix_single (c : Cel) : c.fix.single = true := by
  unfold Cel.fix
  split
  · assumption
  · have : width 32 = 1 := by decide
    simp [Cel.single, Cel.plain, Cel.check, Cel.tail, Cel.wide, this]
theorem fix_of_single {c : Cel} (h : c.single = true) : c.fix = c := by unfold Cel.fix; rw [if_pos h]
theorem single_plain {c : Cel} (h : c.single = true) : c.plain = true := by unfold Cel.single at h; rw [Bool.and_eq_true] at h; exact h.1
theorem mend_id {l : List Cel} (h : right l = true) : mend l = l := by
  apply List.ext_getElem?
  intro i
  by_cases hi : i < l.length
  · rw [mend_get l i _ (List.getElem?_eq_getElem hi), List.getElem?_eq_getElem hi]
    rcases right_get l h i _ (List.getElem?_eq_getElem hi) with h1 | h1
    · rw [if_pos h1]
    · rw [fix_of_single h1]; simp
  · rw [List.getElem?_eq_none (by rw [mend_len]; omega), List.getElem?_eq_none (by omega)]
theorem right_mend : ∀ l : List Cel, right (mend l) = true
  | [] => rfl
  | [c] => fix_single c
  | c :: d :: l => by
    unfold mend
    by_cases hp : pairOK c d = true
    · rw [if_pos hp]; unfold right; rw [if_pos hp]; exact right_mend l
    · rw [if_neg hp]
      have ih := right_mend (d :: l)
      generalize mend (d :: l) = m at ih
      cases m with
      | nil => exact fix_single c
      | cons e m =>
        unfold right
        rw [pairOK_wide (plain_wide (single_plain (fix_single c)))]
        simp [fix_single, ih]
theorem right_single {l : List Cel} (h : ∀ c ∈ l, c.single = true) : right l = true :=
  right_of_get l fun _ _ hi => .inr (h _ (List.mem_of_getElem? hi))
theorem usual_single {c : Cel} (h : c.usual = true) : c.single = true := by simpa [Cel.usual, Cel.single, Bool.and_comm] using h
theorem near_at {l : List Cel} {i : Nat} (h : near l i = true) : pairAt l i = true ∨ (0 < i ∧ pairAt l (i - 1) = true) := by
  cases i with
  | zero => exact .inl h
  | succ i => simp only [near, Bool.or_eq_true] at h; exact h.elim .inl fun h => .inr ⟨by omega, h⟩
theorem pairAt_get {l : List Cel} {i : Nat} (h : pairAt l i = true) : ∃ c, l[i]? = some c ∧ l[i + 1]? = some c.tailOf ∧ c.wide = true ∧ c.check = true := by
  have hl := pairAt_lt h
  unfold pairAt at h
  rw [List.getElem?_eq_getElem hl, List.getElem?_eq_getElem (show i < l.length by omega)] at h
  have := pairOK_fst h
  exact ⟨l[i], List.getElem?_eq_getElem (by omega), by rw [List.getElem?_eq_getElem hl, this.2.2], this.1, this.2.1⟩
theorem pairAt_of {l : List Cel} {i : Nat} {c : Cel} (h1 : l[i]? = some c) (h2 : l[i + 1]? = some c.tailOf) (h3 : c.wide = true) (h4 : c.check = true) : pairAt l i = true := by
  unfold pairAt; rw [h1, h2]; simp [pairOK, h3, h4]
theorem Gr.right_of_at {g : Gr} (h : g.right = true) (y : Nat) (hy : y < g.h) : Lyc.right (g.row y) = true := Gr.right.at h hy
theorem Gr.chg_right {g : Gr} (hg : g.ok) (hr : g.right = true) {top fin : Int} {f : Nat → List Cel} (hf : ∀ y, y < g.h → top ≤ (y : Int) → (y : Int) < fin → (f y).length = g.w) : (g.chg top fin f).right = true :=
  (g.chg top fin f).right_of fun y hy => by
    rw [Gr.chg_row hg hf hy]
    split
    · exact right_mend _
    · exact Gr.right.at hr hy
theorem Gr.plain_row {w h : Nat} {c : Cel} {y : Nat} (hy : y < h) : (Gr.plain w h c).row y = List.replicate w c := by
  have h1 := Nat.mul_le_mul_right w (show y + 1 ≤ h by omega)
  rw [Nat.add_mul, Nat.mul_comm h w] at h1
  simp [Gr.row, Gr.plain]
  omega
theorem Gr.plain_right {w h : Nat} {c : Cel} (hc : c.single = true) : (Gr.plain w h c).right = true :=
  Gr.right_of fun y hy => by rw [Gr.plain_row (w := w) (h := h) (c := c) hy]; exact right_single fun x hx => by rw [List.eq_of_mem_replicate hx]; exact hc
theorem blank_single : Cel.blank.single = true := by have := fix_single ⟨32, 0, 0, 1⟩; decide
def Cel.fits (c : Cel) : Prop := -2147483648 ≤ c.r ∧ c.r ≤ 2147483647
theorem tailOf_check (c : Cel) : c.tailOf.check = true := by
  unfold Cel.check
  rw [tailOf_tail, tailOf_wide]
  simp [Cel.tailOf]
def prev (l : List Cel) : Nat → Bool
  | 0 => false
  | i + 1 => pairAt l i
theorem near_prev (l : List Cel) (i : Nat) : near l i = (pairAt l i || prev l i) := by cases i <;> simp [near, prev]
theorem prev_get {l : List Cel} {i : Nat} (h : prev l i = true) : ∃ c, l[i]? = some c.tailOf ∧ 0 < i ∧ l[i - 1]? = some c ∧ c.wide = true ∧ c.check = true := by
  cases i with
  | zero => exact absurd h (by simp [prev])
  | succ i =>
    obtain ⟨c, h1, h2, h3, h4⟩ := pairAt_get (show pairAt l i = true from h)
    exact ⟨c, h2, by omega, h1, h3, h4⟩
theorem ok_iff {l : List Cel} {i : Nat} {c : Cel} (h : l[i]? = some c) : (near l i = true ∨ c.single = true) ↔ (c.check = true ∧ (c.wide = true → pairAt l i = true) ∧ (c.tail = true → prev l i = true)) := by
  rw [near_prev, Bool.or_eq_true]
  constructor
  · rintro ((h1 | h1) | h1)
    · obtain ⟨d, h2, h3, h4, h5⟩ := pairAt_get h1
      rw [h] at h2; cases h2
      refine ⟨h5, fun _ => h1, fun ht => ?_⟩
      unfold Cel.check at h5
      rw [if_pos ht, h4] at h5
      simp at h5
    · obtain ⟨d, h2, h3, h4, h5, h6⟩ := prev_get h1
      rw [h] at h2; cases h2
      exact ⟨tailOf_check d, fun hw => absurd hw (by rw [tailOf_wide]; simp), fun _ => h1⟩
    · have hp := single_plain h1
      refine ⟨?_, fun hw => absurd hw (by rw [plain_wide hp]; simp), fun ht => absurd ht (by rw [plain_tail hp]; simp)⟩
      unfold Cel.single at h1
      rw [Bool.and_eq_true] at h1; exact h1.2
  · rintro ⟨h1, h2, h3⟩
    by_cases hw : c.wide = true
    · exact .inl (.inl (h2 hw))
    · by_cases ht : c.tail = true
      · exact .inl (.inr (h3 ht))
      · right
        have h4 : ∀ a : BitVec 8, a &&& 64#8 = 0#8 → a &&& 128#8 = 0#8 → a &&& 192#8 = 0#8 := by decide
        simp only [Cel.wide, Cel.tail, decide_eq_true_eq, Classical.not_not] at hw ht
        simp [Cel.single, Cel.plain, h4 _ hw ht, h1]
theorem right_check {l : List Cel} (h : right l = true) {c : Cel} (hc : c ∈ l) : c.check = true := by
  obtain ⟨i, hi⟩ := List.mem_iff_getElem?.1 hc
  exact ((ok_iff hi).1 (right_get l h i c hi)).1
theorem width_bd {r : Int} (h : ¬ width r = 0) : 32 ≤ r ∧ r ≤ 1114111 := by
  unfold width at h
  by_cases h1 : r < 32 ∨ 1114111 < r
  · rw [if_pos h1] at h; exact absurd rfl h
  · omega
theorem check_fits {c : Cel} (h : c.check = true) : c.fits := by
  unfold Cel.check at h
  unfold Cel.fits
  by_cases ht : c.tail = true
  · rw [if_pos ht] at h; simp at h; omega
  · rw [if_neg ht] at h
    by_cases hw : c.wide = true
    · rw [if_pos hw] at h
      have := width_bd (r := c.r) (by simp at h; omega)
      omega
    · rw [if_neg hw] at h
      have := width_bd (r := c.r) (by simp at h; omega)
      omega
theorem right_fits {l : List Cel} (h : right l = true) : ∀ c ∈ l, c.fits := fun _ hc => check_fits (right_check h hc)
def lay (cs : List Cel) (p : Nat) (l : List Cel) (k : Nat) : List Cel := cs.take p ++ l.take k ++ cs.drop (p + k)
theorem lay_zero (cs : List Cel) (p : Nat) (l : List Cel) : lay cs p l 0 = cs := by simp [lay]
theorem lay_len {cs : List Cel} {p : Nat} {l : List Cel} {k : Nat} (hk : k ≤ l.length) (hp : p + k ≤ cs.length) : (lay cs p l k).length = cs.length := by simp [lay]; omega
theorem lay_get {cs : List Cel} {p : Nat} {l : List Cel} {k : Nat} (hk : k ≤ l.length) (hp : p + k ≤ cs.length) (i : Nat) : (lay cs p l k)[i]? = if p ≤ i ∧ i < p + k then l[i - p]? else cs[i]? := by
  unfold lay
  by_cases h1 : i < p
  · rw [List.append_assoc, List.getElem?_append_left (by simp; omega), List.getElem?_take_of_lt h1, if_neg (by omega)]
  · by_cases h2 : i < p + k
    · rw [List.getElem?_append_left (by simp; omega), List.getElem?_append_right (by simp; omega), if_pos (by omega)]
      have e : i - (cs.take p).length = i - p := by simp; omega
      rw [e, List.getElem?_take_of_lt (by omega)]
    · rw [List.getElem?_append_right (by simp; omega), List.getElem?_drop, if_neg (by omega)]
      congr 1; simp; omega
theorem lay_set {cs : List Cel} {p : Nat} {l : List Cel} {k : Nat} (hk : k < l.length) (hp : p + k < cs.length) : (lay cs p l k).set (p + k) l[k] = lay cs p l (k + 1) := by
  apply List.ext_getElem?
  intro i
  rw [List.getElem?_set, lay_get (by omega) (by omega), lay_get (by omega) (by omega), lay_len (by omega) (by omega)]
  by_cases h : p + k = i
  · subst h
    rw [if_pos rfl, if_pos hp, if_pos (by omega), List.getElem?_eq_getElem (by omega)]
    simp
  · rw [if_neg h]
    by_cases h2 : p ≤ i ∧ i < p + k
    · rw [if_pos h2, if_pos (by omega)]
    · rw [if_neg h2, if_neg (by omega)]
theorem lay_mem {cs : List Cel} {p : Nat} {l : List Cel} {k : Nat} {c : Cel} (h : c ∈ lay cs p l k) : c ∈ cs ∨ c ∈ l := by
  unfold lay at h
  simp only [List.mem_append] at h
  rcases h with (h | h) | h
  · exact .inl (List.mem_of_mem_take h)
  · exact .inr (List.mem_of_mem_take h)
  · exact .inl (List.mem_of_mem_drop h)
theorem mem_row {g : Gr} (hg : g.ok) {c : Cel} (h : c ∈ g.cs) : ∃ y, y < g.h ∧ c ∈ g.row y := by
  obtain ⟨i, hi⟩ := List.mem_iff_getElem?.1 h
  have hil := (List.getElem?_eq_some_iff.1 hi).1
  have hw := hg.w0
  have hm : i % g.w < g.w := Nat.mod_lt _ hw
  have hd : i / g.w < g.h := by
    apply Nat.div_lt_of_lt_mul
    rw [← hg.len]; exact hil
  have he : i / g.w * g.w + i % g.w = i := by rw [Nat.mul_comm]; exact Nat.div_add_mod i g.w
  refine ⟨i / g.w, hd, ?_⟩
  apply List.mem_of_getElem? (i := i % g.w)
  rw [Gr.row, List.getElem?_take_of_lt hm, List.getElem?_drop, he, hi]
theorem Gr.ok.fits_all {g : Gr} (hg : g.ok) (hr : g.right = true) : ∀ c ∈ g.cs, c.fits := by
  intro c hc
  obtain ⟨y, hy, h⟩ := mem_row hg hc
  exact right_fits (Gr.right.at hr hy) c h
def layRow (g : Gr) (Y : Nat) (l : List Cel) (y : Nat) : List Cel := if y = Y then mend (l ++ (g.row y).drop l.length) else g.row y
theorem lay_row {g : Gr} (hg : g.ok) {Y : Nat} (hY : Y < g.h) {l : List Cel} (hl : l.length ≤ g.w) {y : Nat} (hy : y < g.h) :
    (⟨g.w, g.h, lay g.cs (Y * g.w) l l.length⟩ : Gr).row y = if y = Y then l ++ (g.row y).drop l.length else g.row y := by
  have hrt := hg.row_lt hY
  have hrt' := hg.row_lt hy
  apply List.ext_getElem?
  intro i
  by_cases hi : i < g.w
  · rw [Gr.row, List.getElem?_take_of_lt hi, List.getElem?_drop]
    show (lay g.cs (Y * g.w) l l.length)[y * g.w + i]? = _
    rw [lay_get (Nat.le_refl _) (by omega)]
    by_cases he : y = Y
    · subst he
      rw [if_pos rfl]
      by_cases h2 : i < l.length
      · rw [if_pos (by omega), List.getElem?_append_left h2]; congr 1; omega
      · rw [if_neg (by omega), List.getElem?_append_right (by omega), List.getElem?_drop, hg.at_some hi hy]
        have : l.length + (i - l.length) = i := by omega
        rw [this, hg.row_get hi hy]
    · rw [if_neg he, hg.row_get hi hy, ← hg.at_some hi hy, if_neg]
      intro hh
      rcases Nat.lt_or_gt_of_ne he with h | h
      · have := Nat.mul_le_mul_right g.w (show y + 1 ≤ Y by omega); rw [Nat.add_mul] at this; omega
      · have := Nat.mul_le_mul_right g.w (show Y + 1 ≤ y by omega); rw [Nat.add_mul] at this; omega
  · have hrl := hg.row_len hy
    rw [Gr.row, List.getElem?_eq_none (by simp; omega)]
    split
    · rw [List.getElem?_eq_none (by simp; omega)]
    · rw [List.getElem?_eq_none (by omega)]
theorem layRow_len {g : Gr} (hg : g.ok) {Y : Nat} {l : List Cel} (hl : l.length ≤ g.w) {y : Nat} (hy : y < g.h) : (layRow g Y l y).length = g.w := by
  have hrl := hg.row_len hy
  unfold layRow
  split
  · rw [mend_len]; simp; omega
  · exact hrl
theorem layRow_right {g : Gr} (hr : g.right = true) {Y : Nat} {l : List Cel} {y : Nat} (hy : y < g.h) : right (layRow g Y l y) = true := by
  unfold layRow
  split
  · exact right_mend _
  · exact Gr.right.at hr hy
end Lyc
namespace Lyc
open Go
theorem Gr.chg_at {g : Gr} (h : g.ok) {top fin : Int} {f : Nat → List Cel} (hf : ∀ y, y < g.h → top ≤ (y : Int) → (y : Int) < fin → (f y).length = g.w) {x y : Nat} (hx : x < g.w) (hy : y < g.h) :
    some ((g.chg top fin f).at x y) = (if top ≤ y ∧ (y : Int) < fin then mend (f y) else g.row y)[x]? := by
  have hok := Gr.chg_ok h hf
  rw [← Gr.chg_row h hf hy, hok.row_get (show x < (g.chg top fin f).w from hx) (show y < (g.chg top fin f).h from hy)]
theorem mended_at {l : List Cel} {i : Nat} {c d : Cel} (h : l[i]? = some c) (hd : (mend l)[i]? = some d) (hne : d ≠ c) : near l i = false ∧ c.single = false := by
  rw [mend_get l i c h] at hd
  cases hn : near l i with
  | true => rw [hn] at hd; simp at hd; exact absurd hd.symm hne
  | false =>
    rw [hn] at hd
    refine ⟨rfl, ?_⟩
    cases hs : c.single with
    | false => rfl
    | true => simp [fix_of_single hs] at hd; exact absurd hd.symm hne
theorem fill_at {g : Gr} (hg : g.ok) (hr : g.right = true) {X Y W H : Int} {c : Cel} (hu : c.usual = true) {x y : Nat} (hx : x < g.w) (hy : y < g.h) :
    ((X ≤ x ∧ (x : Int) < X + W ∧ Y ≤ y ∧ (y : Int) < Y + H) → (g.fill X Y W H c).at x y = c) ∧
    (¬ (X ≤ x ∧ (x : Int) < X + W ∧ Y ≤ y ∧ (y : Int) < Y + H) → (g.fill X Y W H c).at x y ≠ g.at x y → (Y ≤ y ∧ (y : Int) < Y + H) ∧ 64 ≤ (g.at x y).a.toNat ∧ ((x : Int) = X - 1 ∨ (x : Int) = X + W)) := by
  have hat := Gr.chg_at hg (top := (spanG Y H g.h).1) (fin := (spanG Y H g.h).2) (f := fun y => lineOf g.w fun x => if (spanG X W g.w).1 ≤ (x : Int) ∧ (x : Int) < (spanG X W g.w).2 then c else g.at x y) (fun _ _ _ _ => lineOf_len _ _) hx hy
  have hsy : ((spanG Y H g.h).1 ≤ (y : Int) ∧ (y : Int) < (spanG Y H g.h).2) ↔ (Y ≤ y ∧ (y : Int) < Y + H) := spanG_mem (by omega) (by omega)
  have hsx : ∀ i : Nat, i < g.w → (((spanG X W g.w).1 ≤ (i : Int) ∧ (i : Int) < (spanG X W g.w).2) ↔ (X ≤ i ∧ (i : Int) < X + W)) := fun i hi => spanG_mem (by omega) (by omega)
  have hfl : (g.fill X Y W H c) = g.chg (spanG Y H g.h).1 (spanG Y H g.h).2 (fun y => lineOf g.w fun x => if (spanG X W g.w).1 ≤ (x : Int) ∧ (x : Int) < (spanG X W g.w).2 then c else g.at x y) := rfl
  rw [← hfl] at hat
  generalize (g.fill X Y W H c).at x y = b at hat
  generalize hL : (lineOf g.w fun x => if (spanG X W g.w).1 ≤ (x : Int) ∧ (x : Int) < (spanG X W g.w).2 then c else g.at x y) = L at hat
  have hLg : ∀ i, i < g.w → L[i]? = some (if X ≤ i ∧ (i : Int) < X + W then c else g.at i y) := by
    intro i hi
    rw [← hL, lineOf_get hi]
    simp only [hsx i hi]
  have hLn : ∀ i, ¬ i < g.w → L[i]? = none := by
    intro i hi
    rw [← hL, List.getElem?_eq_none (by rw [lineOf_len]; omega)]
  constructor
  · rintro ⟨h1, h2, h3, h4⟩
    rw [if_pos (hsy.2 ⟨h3, h4⟩), mend_get L x c (by rw [hLg x hx, if_pos ⟨h1, h2⟩])] at hat
    rw [fix_of_single (usual_single hu)] at hat
    simpa using hat
  · intro hni hne
    by_cases hyy : Y ≤ y ∧ (y : Int) < Y + H
    · refine ⟨hyy, ?_⟩
      rw [if_pos (hsy.2 hyy)] at hat
      have hLx : L[x]? = some (g.at x y) := by rw [hLg x hx, if_neg (by omega)]
      obtain ⟨hn, hs⟩ := mended_at hLx hat.symm hne
      have hrow := right_get (g.row y) (Gr.right.at hr hy) x (g.at x y) (hg.row_get hx hy)
      rcases hrow with h | h
      · rw [near_prev] at hn h
        rw [Bool.or_eq_false_iff] at hn
        rw [Bool.or_eq_true] at h
        rcases h with h | h
        · obtain ⟨d, p1, p2, p3, p4⟩ := pairAt_get h
          rw [hg.row_get hx hy] at p1
          cases p1
          refine ⟨wide_64 p3, .inl ?_⟩
          have hx1 : x + 1 < g.w := by have := (List.getElem?_eq_some_iff.1 p2).1; rw [hg.row_len hy] at this; exact this
          by_cases hin : X ≤ ((x + 1 : Nat) : Int) ∧ ((x + 1 : Nat) : Int) < X + W
          · omega
          · have : pairAt L x = true := pairAt_of hLx (by rw [hLg (x + 1) hx1, if_neg hin, ← hg.row_get hx1 hy, p2]) p3 p4
            rw [hn.1] at this; cases this
        · obtain ⟨d, p1, p2, p3, p4, p5⟩ := prev_get h
          rw [hg.row_get hx hy] at p1
          rw [Option.some.injEq] at p1
          refine ⟨by rw [p1]; exact tail_64 (tailOf_tail d), .inr ?_⟩
          obtain ⟨k, rfl⟩ : ∃ k, x = k + 1 := ⟨x - 1, by omega⟩
          have hk : k < g.w := by omega
          by_cases hin : X ≤ ((k : Nat) : Int) ∧ ((k : Nat) : Int) < X + W
          · omega
          · have e1 : k + 1 - 1 = k := by omega
            rw [e1, hg.row_get hk hy] at p3
            rw [Option.some.injEq] at p3
            have : pairAt L k = true := pairAt_of (c := d) (by rw [hLg k hk, if_neg hin, p3]) (by rw [hLx, p1]) p4 p5
            have h9 : pairAt L k = false := hn.2
            rw [h9] at this; cases this
      · rw [hs] at h; cases h
    · rw [if_neg (fun h => hyy (hsy.1 h)), hg.row_get hx hy] at hat
      simp at hat
      exact absurd hat hne
theorem scrollF_right {g : Gr} (hr : g.right = true) {T E N : Int} {c : Cel} (hu : c.usual = true) (ht : 0 ≤ T) (he : E ≤ g.h) (y : Nat) : right (g.scrollF T E N c y) = true := by
  unfold Gr.scrollF
  by_cases h : (y : Int) + N < T ∨ E ≤ (y : Int) + N
  · rw [if_pos h]
    refine right_single fun d hd => ?_
    unfold lineOf at hd
    obtain ⟨_, _, rfl⟩ := List.mem_map.1 hd
    exact usual_single hu
  · rw [if_neg h]; exact Gr.right.at hr (by omega)
theorem scroll_at {g : Gr} (hg : g.ok) (hr : g.right = true) {T E N : Int} {c : Cel} (hu : c.usual = true) {x y : Nat} (hx : x < g.w) (hy : y < g.h) :
    (g.scroll T E N c).at x y = if min (max T 0) g.h ≤ (y : Int) ∧ (y : Int) < min (max E 0) g.h then
      (if (y : Int) + min (max N (-g.h)) g.h < min (max T 0) g.h ∨ min (max E 0) g.h ≤ (y : Int) + min (max N (-g.h)) g.h then c else g.at x ((y : Int) + min (max N (-g.h)) g.h).toNat) else g.at x y := by
  have hl := hg.scrollF_len (N := min (max N (-g.h)) g.h) (c := c) (show 0 ≤ min (max T 0) g.h by omega) (show min (max E 0) g.h ≤ g.h by omega)
  have hat := Gr.chg_at hg (top := min (max T 0) g.h) (fin := min (max E 0) g.h) (f := g.scrollF (min (max T 0) g.h) (min (max E 0) g.h) (min (max N (-g.h)) g.h) c) (fun y _ _ _ => hl y) hx hy
  have hsc : g.scroll T E N c = g.chg (min (max T 0) g.h) (min (max E 0) g.h) (g.scrollF (min (max T 0) g.h) (min (max E 0) g.h) (min (max N (-g.h)) g.h) c) := rfl
  rw [← hsc, mend_id (scrollF_right hr hu (by omega) (by omega) y)] at hat
  rw [← Option.some.injEq, hat]
  by_cases h : min (max T 0) g.h ≤ (y : Int) ∧ (y : Int) < min (max E 0) g.h
  · rw [if_pos h, if_pos h]
    unfold Gr.scrollF
    by_cases h2 : (y : Int) + min (max N (-g.h)) g.h < min (max T 0) g.h ∨ min (max E 0) g.h ≤ (y : Int) + min (max N (-g.h)) g.h
    · rw [if_pos h2, if_pos h2, lineOf_get hx]
    · rw [if_neg h2, if_neg h2, hg.row_get hx (by omega)]
  · rw [if_neg h, if_neg h, hg.row_get hx hy]
theorem scroll_ok {g : Gr} (hg : g.ok) {T E N : Int} {c : Cel} : (g.scroll T E N c).ok :=
  Gr.chg_ok hg fun y _ _ _ => hg.scrollF_len (by omega) (by omega) y
theorem scroll_len {g : Gr} (hg : g.ok) {T E N : Int} {c : Cel} : (g.scroll T E N c).cs.length = g.cs.length :=
  Gr.chg_len hg fun y _ _ _ => hg.scrollF_len (by omega) (by omega) y
theorem scroll_right {g : Gr} (hg : g.ok) (hr : g.right = true) {T E N : Int} {c : Cel} : (g.scroll T E N c).right = true :=
  Gr.chg_right hg hr fun y _ _ _ => hg.scrollF_len (by omega) (by omega) y
theorem scrolled {g : Gr} (hg : g.ok) (hr : g.right = true) {T E k : Int} (h1 : 0 ≤ T) (h2 : 0 ≤ E) (h3 : 0 ≤ k) {c : Cel} (hu : c.usual = true) {x y : Nat} (hx : x < g.w) (hy : y < g.h) :
    ((g.scroll T E k c).scroll T E (-k) c).at x y = (if (T ≤ (y : Int) ∧ (y : Int) < min E g.h) ∧ (y : Int) < T + k then c else g.at x y) ∧
    ((T ≤ (y : Int) ∧ (y : Int) < min E g.h) → (y : Int) + k < min E g.h → (g.scroll T E k c).at x y = g.at x ((y : Int) + k).toNat) ∧
    ((T ≤ (y : Int) ∧ (y : Int) < min E g.h) → min E g.h ≤ (y : Int) + k → (g.scroll T E k c).at x y = c) := by
  have hw : (g.scroll T E k c).w = g.w := rfl
  have hh : (g.scroll T E k c).h = g.h := rfl
  have e1 : max T 0 = T := by omega
  have e2 : max E 0 = E := by omega
  have u := fun (y' : Nat) (hy' : y' < g.h) => scroll_at hg hr (T := T) (E := E) (N := k) hu hx hy'
  have v := scroll_at (scroll_ok (T := T) (E := E) (N := k) (c := c) hg) (scroll_right (T := T) (E := E) (N := k) (c := c) hg hr) (T := T) (E := E) (N := -k) hu (x := x) (y := y) hx hy
  rw [hh] at v
  simp only [e1, e2] at u v
  refine ⟨?_, ?_, ?_⟩
  · rw [v]
    by_cases hin : min T g.h ≤ (y : Int) ∧ (y : Int) < min E g.h
    · rw [if_pos hin]
      by_cases hf : (y : Int) < T + k
      · rw [if_pos (by omega), if_pos (by omega)]
      · rw [if_neg (by omega), if_neg (by omega), u _ (by omega), if_pos (by omega), if_neg (by omega)]
        congr 1; omega
    · rw [if_neg hin, if_neg (by omega), u y hy, if_neg hin]
  · intro hin hk
    rw [u y hy, if_pos (by omega), if_neg (by omega)]
    congr 1; omega
  · intro hin hk
    rw [u y hy, if_pos (by omega), if_pos (by omega)]
theorem Gr.of_rows {g : Gr} (hg : g.ok) {R : Nat → List Cel} (h : ∀ y, y < g.h → R y = g.row y) : Gr.of g.w g.h R = g := by
  unfold Gr.of
  rw [rowsOf_congr h, hg.rows]
theorem blit_same {g f : Gr} (hf : f.ok) (hr : f.right = true) (hw : g.w = f.w) (hh : g.h = f.h) : g.blit f 0 0 = f := by
  unfold Gr.blit Gr.chg
  rw [hw, hh]
  refine Gr.of_rows hf fun y hy => ?_
  rw [if_pos ((spanG_mem (by omega) (by omega)).2 ⟨by omega, by omega⟩)]
  have : (lineOf f.w fun x => if (spanG 0 f.w f.w).1 ≤ (x : Int) ∧ (x : Int) < (spanG 0 f.w f.w).2 then (if 0 ≤ (y : Int) - 0 ∧ (y : Int) - 0 < f.h ∧ 0 ≤ (x : Int) - 0 ∧ (x : Int) - 0 < f.w then f.at ((x : Int) - 0).toNat ((y : Int) - 0).toNat else Cel.none) else g.at x y) = f.row y := by
    rw [hf.row_line hy]
    refine lineOf_congr fun i hi => ?_
    rw [if_pos ((spanG_mem (by omega) (by omega)).2 ⟨by omega, by omega⟩), if_pos (by omega)]
    congr 1 <;> omega
  dsimp only
  rw [this, mend_id (Gr.right.at hr hy)]
theorem resize_same {g : Gr} (hg : g.ok) (hr : g.right = true) (c : Cel) : g.resize g.w g.h c = g := by
  unfold Gr.resize Gr.chg
  show Gr.of g.w g.h _ = g
  refine Gr.of_rows hg fun y hy => ?_
  rw [if_pos (by show (0 : Int) ≤ y ∧ (y : Int) < min (g.h : Int) g.h; omega)]
  have : (lineOf g.w fun x => if x < g.w then g.at x y else (Gr.plain g.w g.h c).at x y) = g.row y := by
    rw [hg.row_line hy]
    exact lineOf_congr fun i hi => if_pos hi
  dsimp only
  rw [this, mend_id (Gr.right.at hr hy)]
theorem resize_rows {g : Gr} {w h : Nat} {c : Cel} : ∀ y, y < (Gr.plain w h c).h → (0 : Int) ≤ (y : Int) → (y : Int) < min (h : Int) g.h → (lineOf w fun x => if x < g.w then g.at x y else (Gr.plain w h c).at x y).length = (Gr.plain w h c).w := fun _ _ _ _ => lineOf_len _ _
theorem resize_ok {g : Gr} {w h : Nat} {c : Cel} (w0 : 0 < w) (w1 : w ≤ 200) (h0 : 0 < h) (h1 : h ≤ 60) : (g.resize w h c).ok := Gr.chg_ok (Gr.plain_ok w0 w1 h0 h1 c) resize_rows
theorem resize_right {g : Gr} {w h : Nat} {c : Cel} (hu : c.usual = true) (w0 : 0 < w) (w1 : w ≤ 200) (h0 : 0 < h) (h1 : h ≤ 60) : (g.resize w h c).right = true := Gr.chg_right (Gr.plain_ok w0 w1 h0 h1 c) (Gr.plain_right (usual_single hu)) resize_rows
theorem resize_at {g : Gr} (hg : g.ok) (hr : g.right = true) {w h : Nat} {c : Cel} (w0 : 0 < w) (w1 : w ≤ 200) (h0 : 0 < h) (h1 : h ≤ 60) {x y : Nat} (hx : x < w) (hxg : x < g.w) (hy : y < h) (hyg : y < g.h) (hne : (g.resize w h c).at x y ≠ g.at x y) :
    x + 1 = w ∧ 64 ≤ (g.at x y).a.toNat ∧ ((g.resize w h c).at x y).r = 32 := by
  have hat := Gr.chg_at (Gr.plain_ok w0 w1 h0 h1 c) (top := 0) (fin := min (h : Int) g.h) (f := fun y => lineOf w fun x => if x < g.w then g.at x y else (Gr.plain w h c).at x y) resize_rows (x := x) (y := y) hx hy
  have hrs : g.resize w h c = (Gr.plain w h c).chg 0 (min (h : Int) g.h) (fun y => lineOf w fun x => if x < g.w then g.at x y else (Gr.plain w h c).at x y) := rfl
  rw [← hrs, if_pos (by omega)] at hat
  generalize (g.resize w h c).at x y = d at hat hne
  generalize hL : (lineOf w fun x => if x < g.w then g.at x y else (Gr.plain w h c).at x y) = L at hat
  have hLg : ∀ i, i < w → i < g.w → L[i]? = some (g.at i y) := by
    intro i hi hig
    rw [← hL, lineOf_get hi, if_pos hig]
  have hLx := hLg x hx hxg
  obtain ⟨hn, hs⟩ := mended_at hLx hat.symm hne
  rw [mend_get L x _ hLx, hn] at hat
  have hd : d = (g.at x y).fix := by simpa using hat
  have hr32 : d.r = 32 := by
    rw [hd]
    unfold Cel.fix
    rw [hs]; rfl
  rcases right_get (g.row y) (Gr.right.at hr hyg) x (g.at x y) (hg.row_get hxg hyg) with h | h
  · rw [near_prev] at hn h
    rw [Bool.or_eq_false_iff] at hn
    rw [Bool.or_eq_true] at h
    rcases h with h | h
    · obtain ⟨e, p1, p2, p3, p4⟩ := pairAt_get h
      rw [hg.row_get hxg hyg] at p1
      cases p1
      have hx1 : x + 1 < g.w := by have := (List.getElem?_eq_some_iff.1 p2).1; rw [hg.row_len hyg] at this; exact this
      refine ⟨?_, wide_64 p3, hr32⟩
      by_cases hw : x + 1 < w
      · have : pairAt L x = true := pairAt_of hLx (by rw [hLg (x + 1) hw hx1, ← hg.row_get hx1 hyg, p2]) p3 p4
        rw [hn.1] at this; cases this
      · omega
    · obtain ⟨e, p1, p2, p3, p4, p5⟩ := prev_get h
      rw [hg.row_get hxg hyg, Option.some.injEq] at p1
      obtain ⟨k, rfl⟩ : ∃ k, x = k + 1 := ⟨x - 1, by omega⟩
      have e1 : k + 1 - 1 = k := by omega
      rw [e1, hg.row_get (show k < g.w by omega) hyg, Option.some.injEq] at p3
      have : pairAt L k = true := pairAt_of (c := e) (by rw [hLg k (by omega) (by omega), p3]) (by rw [hLx, p1]) p4 p5
      have h9 : pairAt L k = false := hn.2
      rw [h9] at this; cases this
  · rw [hs] at h; cases h
end Lyc
namespace Lyc
open Go
structure Gr.fit (g : Gr) (w h : Nat) : Prop where
  ok : g.ok
  r : g.right = true
  w : g.w = w
  h : g.h = h
theorem Gr.put_ok {g : Gr} (hg : g.ok) {X Y : Int} {l : List Cel} : (g.put X Y l).ok := Gr.chg_ok hg fun _ _ _ _ => lineOf_len _ _
theorem Gr.put_right {g : Gr} (hg : g.ok) (hr : g.right = true) {X Y : Int} {l : List Cel} : (g.put X Y l).right = true := Gr.chg_right hg hr fun _ _ _ _ => lineOf_len _ _
theorem Gr.fit.put {g : Gr} {w h : Nat} (hg : g.fit w h) {X Y : Int} {l : List Cel} : (g.put X Y l).fit w h := ⟨Gr.put_ok hg.ok, Gr.put_right hg.ok hg.r, hg.w, hg.h⟩
theorem Gr.fit.fill {g : Gr} {w h : Nat} (hg : g.fit w h) {X Y W H : Int} {c : Cel} : (g.fill X Y W H c).fit w h := ⟨Gr.chg_ok hg.ok fun _ _ _ _ => lineOf_len _ _, Gr.chg_right hg.ok hg.r fun _ _ _ _ => lineOf_len _ _, hg.w, hg.h⟩
theorem Gr.fit.scroll {g : Gr} {w h : Nat} (hg : g.fit w h) {T E N : Int} {c : Cel} : (g.scroll T E N c).fit w h := ⟨scroll_ok hg.ok, scroll_right hg.ok hg.r, hg.w, hg.h⟩
theorem Gr.fit.shift {g : Gr} {w h : Nat} (hg : g.fit w h) {X Y N : Int} {c : Cel} : (g.shift X Y N c).fit w h := ⟨Gr.chg_ok hg.ok fun _ _ _ _ => lineOf_len _ _, Gr.chg_right hg.ok hg.r fun _ _ _ _ => lineOf_len _ _, hg.w, hg.h⟩
theorem Gr.fit_plain {w h : Nat} (w0 : 0 < w) (w1 : w ≤ 200) (h0 : 0 < h) (h1 : h ≤ 60) : (Gr.plain w h Cel.blank).fit w h := ⟨Gr.plain_ok w0 w1 h0 h1 _, Gr.plain_right blank_single, rfl, rfl⟩
theorem Gr.fit_resize {g : Gr} {w h : Nat} (w0 : 0 < w) (w1 : w ≤ 200) (h0 : 0 < h) (h1 : h ≤ 60) : (g.resize w h Cel.blank).fit w h := ⟨resize_ok w0 w1 h0 h1, resize_right (by decide) w0 w1 h0 h1, rfl, rfl⟩
theorem Gr.row_one {g : Gr} (hg : g.ok) (h : g.h = 1) : g.row 0 = g.cs := by
  have := hg.len
  rw [h, Nat.mul_one] at this
  simp [Gr.row, ← this]
def RowF (w : Nat) (f : Gr → Gr) : Prop := ∀ g : Gr, g.fit w 1 → (f g).fit w 1
theorem Gr.fit.row1 {g : Gr} {w h : Nat} (hg : g.fit w h) {y : Nat} (hy : y < h) : (⟨w, 1, g.row y⟩ : Gr).fit w 1 := by
  have hl := hg.ok.row_len (y := y) (by rw [hg.h]; exact hy)
  have h0 := hg.ok.w0
  have h1 := hg.ok.w1
  have hw := hg.w
  have hok : (⟨w, 1, g.row y⟩ : Gr).ok := ⟨by show 0 < w; omega, by show w ≤ 200; omega, Nat.one_pos, by show 1 ≤ 60; omega, by show (g.row y).length = w * 1; omega⟩
  refine ⟨hok, Gr.right_of fun y' hy' => ?_, rfl, rfl⟩
  have : y' = 0 := by have : y' < 1 := hy'; omega
  subst this
  rw [Gr.row_one hok rfl]
  exact Gr.right.at hg.r (by rw [hg.h]; exact hy)
theorem Gr.fit.cs1 {g : Gr} {w : Nat} (hg : g.fit w 1) : g.cs.length = w ∧ Lyc.right g.cs = true := by
  have h1 := hg.ok.len
  rw [hg.w, hg.h, Nat.mul_one] at h1
  refine ⟨h1, ?_⟩
  have := Gr.right.at hg.r (y := 0) (by rw [hg.h]; omega)
  rwa [Gr.row_one hg.ok hg.h] at this
theorem Gr.fit.line {g : Gr} {w h : Nat} (hg : g.fit w h) {f : Gr → Gr} (hf : RowF w f) {Y : Nat} : (Gr.of w h fun y => if y = Y then (f ⟨w, 1, g.row y⟩).cs else g.row y).fit w h := by
  have hh := hg.h
  have hw := hg.w
  have hR : ∀ y, y < h → (if y = Y then (f ⟨w, 1, g.row y⟩).cs else g.row y).length = w := by
    intro y hy
    split
    · exact (hf _ (hg.row1 hy)).cs1.1
    · rw [hg.ok.row_len (by omega), hw]
  have w0 := hg.ok.w0
  have w1 := hg.ok.w1
  have h0 := hg.ok.h0
  have h1 := hg.ok.h1
  refine ⟨Gr.of_ok (by omega) (by omega) (by omega) (by omega) hR, Gr.right_of fun y hy => ?_, rfl, rfl⟩
  have hy' : y < h := hy
  rw [Gr.of_row hR hy']
  split
  · exact (hf _ (hg.row1 hy')).cs1.2
  · exact Gr.right.at hg.r (by omega)
structure Scr.ok (S : Scr) : Prop where
  w0 : 0 < S.w
  w1 : S.w ≤ 200
  h0 : 0 < S.h
  h1 : S.h ≤ 60
  g0 : S.g0.fit S.w S.h
  g1 : S.g1.fit S.w S.h
  nx : S.now.x < S.w
  ny : S.now.y < S.h
  s0x : S.s0.x < S.w
  s0y : S.s0.y < S.h
  s1x : S.s1.x < S.w
  s1y : S.s1.y < S.h
  tf : S.top < S.fin
  fh : S.fin ≤ S.h
  tl : S.tabs.length = 200
  gl : S.gone.length ≤ 500
  gr : ∀ r ∈ S.gone, right r = true ∧ r.length ≤ 200
structure Nx (S T : Scr) : Prop where
  ok : T.ok
  w : T.w = S.w
  h : T.h = S.h
  gw : (∀ r ∈ S.gone, r.length = S.w) → ∀ r ∈ T.gone, r.length = T.w
theorem Nx.refl {S : Scr} (h : S.ok) : Nx S S := ⟨h, rfl, rfl, fun g => g⟩
theorem Nx.trans {S T U : Scr} (h : Nx S T) (k : Nx T U) : Nx S U := ⟨k.ok, k.w.trans h.w, k.h.trans h.h, fun g => k.gw (h.gw g)⟩
theorem tabs0_len : tabs0.length = 200 := by unfold tabs0; rw [List.length_map, List.length_range]
theorem Scr.ok_new {w h : Nat} (w0 : 0 < w) (w1 : w ≤ 200) (h0 : 0 < h) (h1 : h ≤ 60) : (Scr.new w h).ok :=
  ⟨w0, w1, h0, h1, Gr.fit_plain w0 w1 h0 h1, Gr.fit_plain w0 w1 h0 h1, w0, h0, w0, h0, w0, h0, h0, Nat.le_refl _, tabs0_len, by simp [Scr.new], by simp [Scr.new]⟩
section
variable {S : Scr} (h : S.ok)
include h
theorem Scr.ok.renew : Nx S S.renew :=
  ⟨⟨h.w0, h.w1, h.h0, h.h1, Gr.fit_plain h.w0 h.w1 h.h0 h.h1, Gr.fit_plain h.w0 h.w1 h.h0 h.h1, h.w0, h.h0, h.w0, h.h0, h.w0, h.h0, h.h0, Nat.le_refl _, tabs0_len, h.gl, h.gr⟩, rfl, rfl, fun g => g⟩
theorem Scr.ok.cur : S.cur.fit S.w S.h := by
  unfold Scr.cur
  cases S.alt
  · exact h.g0
  · exact h.g1
theorem Scr.ok.setCur {g : Gr} (hg : g.fit S.w S.h) : Nx S (S.setCur g) := by
  unfold Scr.setCur
  cases S.alt
  · exact ⟨⟨h.w0, h.w1, h.h0, h.h1, hg, h.g1, h.nx, h.ny, h.s0x, h.s0y, h.s1x, h.s1y, h.tf, h.fh, h.tl, h.gl, h.gr⟩, rfl, rfl, fun g => g⟩
  · exact ⟨⟨h.w0, h.w1, h.h0, h.h1, h.g0, hg, h.nx, h.ny, h.s0x, h.s0y, h.s1x, h.s1y, h.tf, h.fh, h.tl, h.gl, h.gr⟩, rfl, rfl, fun g => g⟩
theorem Scr.ok.at {x y : Nat} (hx : x < S.w) (hy : y < S.h) : Nx S (S.at x y) :=
  ⟨⟨h.w0, h.w1, h.h0, h.h1, h.g0, h.g1, hx, hy, h.s0x, h.s0y, h.s1x, h.s1y, h.tf, h.fh, h.tl, h.gl, h.gr⟩, rfl, rfl, fun g => g⟩
theorem Scr.ok.calm : Nx S S.calm :=
  ⟨⟨h.w0, h.w1, h.h0, h.h1, h.g0, h.g1, h.nx, h.ny, h.s0x, h.s0y, h.s1x, h.s1y, h.tf, h.fh, h.tl, h.gl, h.gr⟩, rfl, rfl, fun g => g⟩
omit h in
theorem clampN_lt {x : Int} {n : Nat} (hn : 0 < n) : clampN x n < n := by unfold clampN; omega
theorem Scr.ok.move {x y : Int} : Nx S (S.move x y) := h.at (clampN_lt h.w0) (clampN_lt h.h0)
theorem Scr.ok.save : Nx S S.save := by
  unfold Scr.save
  cases S.alt
  · exact ⟨⟨h.w0, h.w1, h.h0, h.h1, h.g0, h.g1, h.nx, h.ny, h.nx, h.ny, h.s1x, h.s1y, h.tf, h.fh, h.tl, h.gl, h.gr⟩, rfl, rfl, fun g => g⟩
  · exact ⟨⟨h.w0, h.w1, h.h0, h.h1, h.g0, h.g1, h.nx, h.ny, h.s0x, h.s0y, h.nx, h.ny, h.tf, h.fh, h.tl, h.gl, h.gr⟩, rfl, rfl, fun g => g⟩
theorem Scr.ok.restore : Nx S S.restore := by
  unfold Scr.restore
  cases S.alt
  · exact ⟨⟨h.w0, h.w1, h.h0, h.h1, h.g0, h.g1, h.s0x, h.s0y, h.s0x, h.s0y, h.s1x, h.s1y, h.tf, h.fh, h.tl, h.gl, h.gr⟩, rfl, rfl, fun g => g⟩
  · exact ⟨⟨h.w0, h.w1, h.h0, h.h1, h.g0, h.g1, h.s1x, h.s1y, h.s0x, h.s0y, h.s1x, h.s1y, h.tf, h.fh, h.tl, h.gl, h.gr⟩, rfl, rfl, fun g => g⟩
theorem Scr.ok.line {f : Gr → Gr} (hf : RowF S.w f) : Nx S (S.line f) := h.setCur (h.cur.line hf)
theorem Scr.ok.erase {x n : Int} : Nx S (S.erase x n) := h.line fun _ hg => hg.fill
theorem Scr.ok.clear {y n : Int} : Nx S (S.clear y n) := h.setCur h.cur.fill
theorem Scr.ok.scroll {t n : Int} : Nx S (S.scroll t n) := h.setCur h.cur.scroll
omit h in
theorem latest_len (l : List (List Cel)) : (latest l).length ≤ 500 := by simp [latest]; omega
theorem Scr.ok.keep {n : Int} : Nx S (S.keep n) := by
  unfold Scr.keep
  split
  · have e := latest_len (S.gone ++ (List.range (min n S.fin).toNat).map S.g0.row)
    have e2 : ∀ r ∈ latest (S.gone ++ (List.range (min n S.fin).toNat).map S.g0.row), r ∈ S.gone ++ (List.range (min n S.fin).toNat).map S.g0.row := fun r hr => List.mem_of_mem_drop hr
    generalize latest (S.gone ++ (List.range (min n S.fin).toNat).map S.g0.row) = L at e e2 ⊢
    refine ⟨⟨h.w0, h.w1, h.h0, h.h1, h.g0, h.g1, h.nx, h.ny, h.s0x, h.s0y, h.s1x, h.s1y, h.tf, h.fh, h.tl, e, fun r hr => ?_⟩, rfl, rfl, fun g r hr => ?_⟩
    rotate_left
    · rcases List.mem_append.1 (e2 r hr) with hr' | hr'
      · exact g r hr'
      · obtain ⟨y, hy, rfl⟩ := List.mem_map.1 hr'
        have hy' := List.mem_range.1 hy
        have := h.fh
        have hyh : y < S.g0.h := by rw [h.g0.h]; omega
        show _ = S.w
        rw [h.g0.ok.row_len hyh, h.g0.w]
    have hr' := e2 r hr
    rcases List.mem_append.1 hr' with hr' | hr'
    · exact h.gr r hr'
    · obtain ⟨y, hy, rfl⟩ := List.mem_map.1 hr'
      have hy' := List.mem_range.1 hy
      have := h.fh
      have hyh : y < S.g0.h := by rw [h.g0.h]; omega
      exact ⟨Gr.right.at h.g0.r hyh, by rw [h.g0.ok.row_len hyh]; exact h.g0.ok.w1⟩
  · exact .refl h
theorem Scr.ok.up {n : Int} : Nx S (S.up n) := h.keep.trans h.keep.ok.scroll
theorem Scr.ok.below : Nx S S.below := by
  unfold Scr.below
  split
  · exact h.up
  · split
    · exact h.at h.nx ‹_›
    · exact .refl h
theorem Scr.ok.above : Nx S S.above := by
  unfold Scr.above
  split
  · exact h.scroll
  · split
    · exact h.at h.nx (by have := h.ny; omega)
    · exact .refl h
theorem Scr.ok.wrapped : Nx S S.wrapped := by
  unfold Scr.wrapped
  split
  · exact (h.at h.w0 h.ny).trans (h.at h.w0 h.ny).ok.below
  · exact .refl h
omit h in
theorem setCur_now (g : Gr) : (S.setCur g).now = S.now := by unfold Scr.setCur; cases S.alt <;> rfl
omit h in
theorem keep_now (n : Int) : (S.keep n).now = S.now := by unfold Scr.keep; split <;> rfl
omit h in
theorem up_now (n : Int) : (S.up n).now = S.now := by unfold Scr.up Scr.scroll; rw [setCur_now, keep_now]
omit h in
theorem below_x : S.below.now.x = S.now.x := by
  unfold Scr.below
  split
  · rw [up_now]
  · split <;> rfl
theorem Scr.ok.roomFor {n : Nat} (h0 : 0 < n) (hn : n ≤ S.w) : Nx S (S.roomFor n) ∧ (S.roomFor n).now.x + n ≤ S.w := by
  unfold Scr.roomFor
  split
  · split
    · refine ⟨(h.at h.w0 h.ny).trans (h.at h.w0 h.ny).ok.below, ?_⟩
      rw [below_x]
      show 0 + n ≤ S.w
      omega
    · exact ⟨h.at (by omega) h.ny, by show S.w - n + n ≤ S.w; omega⟩
  · exact ⟨.refl h, by omega⟩
theorem Scr.ok.lay {r : Int} {n : Nat} (hn : S.now.x + n ≤ S.w) : Nx S (S.lay r n) := by
  have h1 : Nx S (S.line fun g => g.put S.now.x 0 (mkCel r S.now.pen)) := h.line fun _ hg => hg.put
  have hw := h1.w
  have hh := h1.h
  have w0 := h.w0
  have hy := h.ny
  unfold Scr.lay
  dsimp only
  split
  · have h2 := h1.ok.at (x := S.w - 1) (y := S.now.y) (by omega) (by omega)
    exact h1.trans (h2.trans ⟨⟨h2.ok.w0, h2.ok.w1, h2.ok.h0, h2.ok.h1, h2.ok.g0, h2.ok.g1, h2.ok.nx, h2.ok.ny, h2.ok.s0x, h2.ok.s0y, h2.ok.s1x, h2.ok.s1y, h2.ok.tf, h2.ok.fh, h2.ok.tl, h2.ok.gl, h2.ok.gr⟩, rfl, rfl, fun g => g⟩)
  · have h2 := h1.ok.at (x := S.now.x + n) (y := S.now.y) (by omega) (by omega)
    exact h1.trans (h2.trans h2.ok.calm)
omit h in
theorem width_nat (r : Int) : width r = 0 ∨ width r = 1 ∨ width r = 2 := by
  have h : ∀ l : List (Int × Int × Int), (∀ s ∈ l, s.2.2 = 0 ∨ s.2.2 = 1 ∨ s.2.2 = 2) → (spanW l r = 0 ∨ spanW l r = 1 ∨ spanW l r = 2) := by
    intro l
    induction l with
    | nil => intro _; exact .inr (.inl rfl)
    | cons s l ih =>
      intro hl
      unfold spanW
      split
      · exact hl s (by simp)
      · exact ih fun x hx => hl x (by simp [hx])
  unfold width
  split
  · exact .inl rfl
  · split
    · exact .inr (.inl rfl)
    · exact h spans (by decide)
theorem Scr.ok.print {r : Int} : Nx S (S.print r) := by
  unfold Scr.print
  split
  · exact .refl h
  · have hw := width_nat r
    have h1 := h.wrapped
    have hn : 0 < (width r).toNat ∧ (width r).toNat ≤ S.wrapped.w := by rw [h1.w]; omega
    have h2 := h1.ok.roomFor hn.1 hn.2
    exact h1.trans (h2.1.trans (h2.1.ok.lay (by rw [h2.1.w]; exact h2.2)))
theorem Scr.ok.tab : Nx S S.tab := h.at (by have := h.w0; omega) h.ny
theorem Scr.ok.ctl {r : Int} : Nx S (S.ctl r) := by
  have w0 := h.w0
  have nx := h.nx
  unfold Scr.ctl
  split
  · exact (h.at (by omega) h.ny).trans (h.at (by omega) h.ny).ok.calm
  · split
    · exact h.tab.trans h.tab.ok.calm
    · split
      · exact h.below.trans h.below.ok.calm
      · split
        · exact (h.at w0 h.ny).trans (h.at w0 h.ny).ok.calm
        · exact .refl h
theorem Scr.ok.setTabs {l : List Bool} (hl : l.length = 200) : Nx S { S with tabs := l } :=
  ⟨⟨h.w0, h.w1, h.h0, h.h1, h.g0, h.g1, h.nx, h.ny, h.s0x, h.s0y, h.s1x, h.s1y, h.tf, h.fh, hl, h.gl, h.gr⟩, rfl, rfl, fun g => g⟩
theorem Scr.ok.esc {r : Int} : Nx S (S.esc r) := by
  unfold Scr.esc
  split
  · exact h.save
  · split
    · exact h.setTabs (by rw [List.length_set]; exact h.tl)
    · split
      · have h1 := h.at (x := 0) (y := S.now.y) h.w0 h.ny
        exact h1.trans (h1.ok.below.trans h1.ok.below.ok.calm)
      · split
        · exact h.below.trans h.below.ok.calm
        · split
          · exact h.above.trans h.above.ok.calm
          · split
            · exact h.restore.trans h.restore.ok.calm
            · split
              · exact h.renew.trans h.renew.ok.calm
              · exact .refl h
theorem Scr.ok.mode {n : Int} {on : Bool} : Nx S (S.mode n on) := by
  unfold Scr.mode
  split
  · exact ⟨⟨h.w0, h.w1, h.h0, h.h1, h.g0, h.g1, h.nx, h.ny, h.s0x, h.s0y, h.s1x, h.s1y, h.tf, h.fh, h.tl, h.gl, h.gr⟩, rfl, rfl, fun g => g⟩
  · split
    · exact ⟨⟨h.w0, h.w1, h.h0, h.h1, h.g0, h.g1, h.nx, h.ny, h.s0x, h.s0y, h.s1x, h.s1y, h.tf, h.fh, h.tl, h.gl, h.gr⟩, rfl, rfl, fun g => g⟩
    · split
      · split
        · have k := h.save.ok
          have hw := h.save.w
          have hh := h.save.h
          refine ⟨⟨k.w0, k.w1, k.h0, k.h1, k.g0, ?_, k.nx, k.ny, k.s0x, k.s0y, k.s1x, k.s1y, k.tf, k.fh, k.tl, k.gl, k.gr⟩, hw, hh, h.save.gw⟩
          show (Gr.plain S.w S.h Cel.blank).fit S.save.w S.save.h
          rw [hw, hh]
          exact Gr.fit_plain h.w0 h.w1 h.h0 h.h1
        · split
          · have k : Nx S { S with alt := false } := ⟨⟨h.w0, h.w1, h.h0, h.h1, h.g0, h.g1, h.nx, h.ny, h.s0x, h.s0y, h.s1x, h.s1y, h.tf, h.fh, h.tl, h.gl, h.gr⟩, rfl, rfl, fun g => g⟩
            exact k.trans k.ok.restore
          · exact .refl h
      · exact .refl h
theorem Scr.ok.modes {l : List Int} {on : Bool} : Nx S (S.modes l on) := by
  unfold Scr.modes
  induction l generalizing S with
  | nil => exact .refl h
  | cons n l ih => exact h.mode.trans (ih h.mode.ok)
omit h in
theorem num_ge (a : Act') (i : Nat) (least : Int) : least ≤ a.num i least := by unfold Act'.num; split <;> omega
theorem Scr.ok.moved {a : Act'} {T : Scr} (ht : S.moved a = some T) : Nx S T := by
  have hn := num_ge a 0 1
  have hx := h.nx
  have hy := h.ny
  have w0 := h.w0
  have tf := h.tf
  have fh := h.fh
  have key : ∀ y : Nat, y < S.h → Nx S ((S.at 0 S.now.y).at (S.at 0 S.now.y).now.x y) := fun y hy' => (h.at w0 hy).trans ((h.at w0 hy).ok.at w0 hy')
  have e1 : (if S.top ≤ S.now.y then (S.top : Int) else 0) ≤ S.now.y := by split <;> omega
  have e2 : (if S.now.y + 1 ≤ S.fin then (S.fin : Int) - 1 else (S.h : Int) - 1) < S.h := by split <;> omega
  unfold Scr.moved at ht
  dsimp only at ht
  split at ht
  · cases ht; refine key _ ?_; simp only [Scr.at]; omega
  · split at ht
    · cases ht; refine h.at hx ?_; omega
    · split at ht
      · cases ht; refine key _ ?_; simp only [Scr.at]; omega
      · split at ht
        · cases ht; refine h.at hx ?_; omega
        · split at ht
          · cases ht; exact h.move
          · split at ht
            · cases ht; exact h.move
            · split at ht
              · cases ht; exact h.move
              · split at ht
                · cases ht; exact h.move
                · split at ht
                  · cases ht; exact h.move
                  · split at ht
                    · cases ht; exact h.restore
                    · cases ht
theorem Scr.ok.region {t f : Int} (h0 : 0 ≤ t) (h1 : 0 ≤ f) : Nx S (S.region t f) := by
  have e1 : (if f = 0 ∨ (S.h : Int) < f then (S.h : Int) else f) ≤ S.h ∧ 0 ≤ (if f = 0 ∨ (S.h : Int) < f then (S.h : Int) else f) := by split <;> omega
  unfold Scr.region
  dsimp only
  generalize (if f = 0 ∨ (S.h : Int) < f then (S.h : Int) else f) = F at e1 ⊢
  split
  · rename_i hlt
    have k : Nx S { S with top := t.toNat, fin := F.toNat } := by
      refine ⟨⟨h.w0, h.w1, h.h0, h.h1, h.g0, h.g1, h.nx, h.ny, h.s0x, h.s0y, h.s1x, h.s1y, ?_, ?_, h.tl, h.gl, h.gr⟩, rfl, rfl, fun g => g⟩
      · show t.toNat < F.toNat
        omega
      · show F.toNat ≤ S.h
        omega
    exact k.trans k.ok.move
  · exact .refl h
theorem Scr.ok.wipeRows {k : Int} : Nx S (S.wipeRows k) := by
  unfold Scr.wipeRows
  split
  · exact h.clear
  · split
    · exact h.clear
    · split
      · exact h.clear
      · exact .refl h
theorem Scr.ok.wipeLine {k : Int} : Nx S (S.wipeLine k) := by
  unfold Scr.wipeLine
  split
  · exact h.erase
  · split
    · exact h.erase
    · split
      · exact h.erase
      · exact .refl h
theorem Scr.ok.shiftRows {n : Int} : Nx S (S.shiftRows n) := by
  unfold Scr.shiftRows
  split
  · have k := h.scroll (t := S.now.y) (n := -n)
    exact k.trans (k.ok.at (by rw [k.w]; exact h.w0) (by rw [k.h]; exact h.ny))
  · exact .refl h
theorem Scr.ok.changed {a : Act'} {T : Scr} (ht : S.changed a = some T) : Nx S T := by
  have hn := num_ge a 0 1
  have hm := num_ge a 1 0
  unfold Scr.changed at ht
  dsimp only at ht
  split at ht
  · cases ht; exact h.wipeRows.trans h.wipeRows.ok.wipeLine
  · split at ht
    · cases ht; exact h.wipeLine
    · split at ht
      · cases ht; exact h.shiftRows
      · split at ht
        · cases ht; exact h.shiftRows
        · split at ht
          · cases ht; exact h.line fun _ hg => hg.shift
          · split at ht
            · cases ht; exact h.line fun _ hg => hg.shift
            · split at ht
              · cases ht; exact h.erase
              · split at ht
                · cases ht; exact h.up
                · split at ht
                  · cases ht; exact h.scroll
                  · split at ht
                    · cases ht; exact h.region (by omega) hm
                    · cases ht
theorem Scr.ok.set {a : Act'} {T : Scr} (ht : S.set a = some T) : Nx S T := by
  unfold Scr.set at ht
  split at ht
  · cases ht; exact ⟨⟨h.w0, h.w1, h.h0, h.h1, h.g0, h.g1, h.nx, h.ny, h.s0x, h.s0y, h.s1x, h.s1y, h.tf, h.fh, h.tl, h.gl, h.gr⟩, rfl, rfl, fun g => g⟩
  · split at ht
    · cases ht
      split
      · exact h.setTabs (by rw [List.length_set]; exact h.tl)
      · split
        · exact h.setTabs (by rw [List.length_replicate])
        · exact .refl h
    · split at ht
      · cases ht; exact h.save
      · cases ht
theorem Scr.ok.csi {a : Act'} : Nx S (S.csi a) := by
  unfold Scr.csi
  split
  · exact h.modes
  · split
    · exact .refl h
    · split
      · exact h.set ‹_›
      · split
        · rename_i T hT
          exact (h.moved hT).trans (h.moved hT).ok.calm
        · split
          · rename_i T hT
            exact (h.changed hT).trans (h.changed hT).ok.calm
          · exact .refl h
theorem Scr.ok.act {a : Act'} : Nx S (S.act a) := by
  unfold Scr.act
  split
  · exact h.print
  · split
    · exact h.ctl
    · split
      · split
        · exact h.esc
        · exact .refl h
      · split
        · exact h.csi
        · exact .refl h
theorem Scr.ok.acts {l : List Act'} : Nx S (S.acts l) := by
  unfold Scr.acts
  induction l generalizing S with
  | nil => exact .refl h
  | cons n l ih => exact h.act.trans (ih h.act.ok)
theorem Scr.ok.resize {w k : Nat} (w0 : 0 < w) (w1 : w ≤ 200) (h0 : 0 < k) (h1 : k ≤ 60) : (S.resize w k).ok ∧ (S.resize w k).w = w ∧ (S.resize w k).h = k :=
  ⟨⟨w0, w1, h0, h1, Gr.fit_resize w0 w1 h0 h1, Gr.fit_resize w0 w1 h0 h1, clampN_lt w0, clampN_lt h0, clampN_lt w0, clampN_lt h0, clampN_lt w0, clampN_lt h0, h0, Nat.le_refl _, h.tl, h.gl, h.gr⟩, rfl, rfl⟩
end
end Lyc
namespace Go.Proofs.Ytjfembffjjijaaa
open Lyc Go
set_option maxRecDepth 100000
end Go.Proofs.Ytjfembffjjijaaa
namespace Go.Proofs.Ytjfembffjjijaaa
open Lyc Go
set_option maxRecDepth 100000
def cell_Blank (K : Value → World → Prop) : World → Prop :=
  xA 39 fun t0 =>
  OpX Try.prog (.build 39 #[(0, .const (.int .i32 32))]) 39 fun t1 =>
  xS 39 t0 t1 <|
  xD 39 t0 fun t0_1 =>
  K t0_1
theorem cell_Blank_link : Lk 35 #[] (cell_Blank) := lk [] [] Try.func35 (by kernel_rfl) fun _ _ => by kernel_rfl
theorem cell_Blank_b : Bodied Try.prog 35 := bd Try.func35 (by kernel_rfl)
def cell_Text (p0 : Value) (K : Value → World → Prop) : World → Prop :=
  xU p0 45 fun t7 =>
  Loop2 (.slice none 0 0) (.int .i64 0) fun t3 t8 next1 =>
  xO .lss 3 t8 t7 fun t9 =>
  xW t9
  (xI 45 p0 t8 fun t10 =>
  xL 39 t10 fun t11 =>
  xA 39 fun t5 =>
  xS 39 t5 t11 <|
  xL 39 t5 fun t13 =>
  xC 65 [.const t13] [39] 4 fun t14 =>
  xN 4 t14 fun t15 =>
  xW t15
  (OpX Try.prog (.buildSlice 24 1 #[(0, .const (.int .i32 63))]) 24 fun t17 =>
  OpX Try.prog (.call { callee := .builtin .append, args := #[.const t3, .const t17], argTypes := #[24, 24] }) 24 fun t18 =>
  xO .add 3 t8 (.int .i64 1) fun t29 =>
  next1 t18 t29) <|
  xF 39 t5 3 fun t20 =>
  xL 5 t20 fun t21 =>
  xO .and 5 t21 (.int .u8 128) fun t22 =>
  xO .eql 5 t22 (.int .u8 0) fun t23 =>
  xW t23
  (xF 39 t5 0 fun t25 =>
  xL 21 t25 fun t26 =>
  OpX Try.prog (.buildSlice 24 1 #[(0, .const t26)]) 24 fun t27 =>
  OpX Try.prog (.call { callee := .builtin .append, args := #[.const t3, .const t27], argTypes := #[24, 24] }) 24 fun t28 =>
  xO .add 3 t8 (.int .i64 1) fun t29_1 =>
  next1 t28 t29_1) <|
  xO .add 3 t8 (.int .i64 1) fun t29_2 =>
  next1 t3 t29_2) <|
  Loop1 t3 fun t3_1 next2 =>
  Join1 (fun k3 =>
  xU t3_1 24 fun t31 =>
  xO .gtr 3 t31 (.int .i64 0) fun t32 =>
  xW t32
  (xU t3_1 24 fun t36 =>
  xO .sub 3 t36 (.int .i64 1) fun t37 =>
  xI 24 t3_1 t37 fun t38 =>
  xL 21 t38 fun t39 =>
  xO .eql 21 t39 (.int .i32 32) fun t40 =>
  k3 t40) <|
  k3 (.bool false)) fun t41 =>
  xW t41
  (xU t3_1 24 fun t44 =>
  xO .sub 3 t44 (.int .i64 1) fun t45 =>
  OpX Try.prog (.slice 24 (.const t3_1) none (some (.const t45)) none) 24 fun t46 =>
  next2 t46) <|
  xC 66 [.const t3_1] [24] 9 fun t48 =>
  K t48
theorem cell_Text_link (p0 : Value) : Lk 42 #[p0] (cell_Text p0) := lk [p0] [(8, [3, 8]), (32, [3]), (35, [41])] Try.func42 (by kernel_rfl) fun _ _ => by kernel_rfl
theorem cell_Text_b : Bodied Try.prog 42 := bd Try.func42 (by kernel_rfl)
def cell_Right (p0 : Value) (K : Value → World → Prop) : World → Prop :=
  Loop1 (.int .i64 0) fun t3 next1 =>
  xU p0 45 fun t6 =>
  xO .lss 3 t3 t6 fun t7 =>
  xW t7
  (xC 68 [.const p0, .const t3] [45, 3] 4 fun t13 =>
  xW t13
  (xO .add 3 t3 (.int .i64 1) fun t15 =>
  xO .add 3 t15 (.int .i64 1) fun t9 =>
  next1 t9) <|
  xI 45 p0 t3 fun t19 =>
  xL 39 t19 fun t20 =>
  xC 69 [.const t20] [39] 4 fun t21 =>
  xN 4 t21 fun t22 =>
  xW t22
  (K (.bool false)) <|
  xO .add 3 t3 (.int .i64 1) fun t9_1 =>
  next1 t9_1) <|
  K (.bool true)
theorem cell_Right_link (p0 : Value) : Lk 45 #[p0] (cell_Right p0) := lk [p0] [(6, [3])] Try.func45 (by kernel_rfl) fun _ _ => by kernel_rfl
theorem cell_Right_b : Bodied Try.prog 45 := bd Try.func45 (by kernel_rfl)
def cell_Make (p0 p1 : Value) (K : Value → World → Prop) : World → Prop :=
  xB 39 p1 fun t3 =>
  xF 39 t3 1 fun t7 =>
  xL 5 t7 fun t8 =>
  xF 39 t3 2 fun t9 =>
  xL 5 t9 fun t10 =>
  xF 39 t3 3 fun t11 =>
  xL 5 t11 fun t12 =>
  xO .andNot 5 t12 (.int .u8 192) fun t13 =>
  OpX Try.prog (.build 39 #[(0, .const p0), (1, .const t8), (2, .const t10), (3, .const t13)]) 39 fun t14 =>
  xA 39 fun t5 =>
  xS 39 t5 t14 <|
  xC 46 [.const p0] [21] 3 fun t16 =>
  xO .eql 3 t16 (.int .i64 1) fun t18 =>
  xW t18
  (xL 39 t5 fun t19 =>
  OpX Try.prog (.buildSlice 45 1 #[(0, .const t19)]) 45 fun t20 =>
  K t20) <|
  xO .eql 3 t16 (.int .i64 2) fun t22 =>
  xW t22
  (xF 39 t5 3 fun t23 =>
  xL 5 t23 fun t24 =>
  xO .or 5 t24 (.int .u8 64) fun t25 =>
  xF 39 t5 3 fun t26 =>
  xS 5 t26 t25 <|
  DrewW <|
  qL 39 t5 fun t27 =>
  qL 39 t5 fun t28 =>
  xC 73 [.const t28] [39] 39 fun t29 =>
  xT (qZ 39 t5 t27) <|
  OpX Try.prog (.buildSlice 45 2 #[(0, .const t27), (1, .const t29)]) 45 fun t30 =>
  K t30) <|
  K (.slice none 0 0)
theorem cell_Make_link (p0 p1 : Value) : Lk 51 #[p0, p1] (cell_Make p0 p1) := lk [p0, p1] [] Try.func51 (by kernel_rfl) fun _ _ => by kernel_rfl
theorem cell_Make_b : Bodied Try.prog 51 := bd Try.func51 (by kernel_rfl)
def cell_Check (p0 : Value) (K : Value → World → Prop) : World → Prop :=
  xB 39 p0 fun t1 =>
  DrewW <|
  qF 39 t1 3 fun t5 =>
  qL 5 t5 fun t6 =>
  qP .and 5 t6 (.int .u8 64) fun t7 =>
  qR .neq 5 t7 (.int .u8 0) fun t8 =>
  qF 39 t1 3 fun t9 =>
  qL 5 t9 fun t10 =>
  qP .and 5 t10 (.int .u8 128) fun t11 =>
  qR .neq 5 t11 (.int .u8 0) fun t12 =>
  xW t12
  (Join1 (fun k1 =>
  xN 4 t8 fun t16 =>
  xW t16
  (xF 39 t1 0 fun t18 =>
  xL 21 t18 fun t19 =>
  xO .eql 21 t19 (.int .i32 0) fun t20 =>
  k1 t20) <|
  k1 (.bool false)) fun t2 =>
  K t2) <|
  xW t8
  (xF 39 t1 0 fun t24 =>
  xL 21 t24 fun t25 =>
  xC 46 [.const t25] [21] 3 fun t26 =>
  xO .eql 3 t26 (.int .i64 2) fun t27 =>
  K t27) <|
  xF 39 t1 0 fun t28 =>
  xL 21 t28 fun t29 =>
  xC 46 [.const t29] [21] 3 fun t30 =>
  xO .eql 3 t30 (.int .i64 1) fun t31 =>
  K t31
theorem cell_Check_link (p0 : Value) : Lk 65 #[p0] (cell_Check p0) := lk [p0] [(10, [2])] Try.func65 (by kernel_rfl) fun _ _ => by kernel_rfl
theorem cell_Check_b : Bodied Try.prog 65 := bd Try.func65 (by kernel_rfl)
def cell_paired (p0 p1 : Value) (K : Value → World → Prop) : World → Prop :=
  xI 45 p0 p1 fun t8 =>
  xL 39 t8 fun t9 =>
  xA 39 fun t5 =>
  xS 39 t5 t9 <|
  DrewW <|
  Join1 (fun k1 =>
  qF 39 t5 3 fun t10 =>
  qL 5 t10 fun t11 =>
  qP .and 5 t11 (.int .u8 64) fun t12 =>
  qR .neq 5 t12 (.int .u8 0) fun t13 =>
  xW t13
  (qL 39 t5 fun t15 =>
  xC 65 [.const t15] [39] 4 fun t16 =>
  xW t16
  (qP .add 3 p1 (.int .i64 1) fun t20 =>
  xR (.call { callee := .builtin .len, args := #[.const p0], argTypes := #[45] }) 3 fun t22 =>
  qP .lss 3 t20 t22 fun t23 =>
  xW t23
  (qP .add 3 p1 (.int .i64 1) fun t28 =>
  xP (.indexAddr 45 (.const p0) (.const t28)) 0 fun t29 =>
  qL 39 t29 fun t30 =>
  qL 39 t5 fun t31 =>
  xC 73 [.const t31] [39] 39 fun t32 =>
  xT (qZ 39 t29 t30) <|
  qR .eql 39 t30 t32 fun t33 =>
  k1 t33) <|
  k1 (.bool false)) <|
  k1 (.bool false)) <|
  k1 (.bool false)) fun t4 =>
  K t4
theorem cell_paired_link (p0 p1 : Value) : Lk 68 #[p0, p1] (cell_paired p0 p1) := lk [p0, p1] [(5, [4])] Try.func68 (by kernel_rfl) fun _ _ => by kernel_rfl
theorem cell_paired_b : Bodied Try.prog 68 := bd Try.func68 (by kernel_rfl)
def cell_single (p0 : Value) (K : Value → World → Prop) : World → Prop :=
  xB 39 p0 fun t1 =>
  Join1 (fun k1 =>
  xF 39 t1 3 fun t3 =>
  xL 5 t3 fun t4 =>
  xO .and 5 t4 (.int .u8 192) fun t5 =>
  xO .eql 5 t5 (.int .u8 0) fun t6 =>
  xW t6
  (xL 39 t1 fun t8 =>
  xC 65 [.const t8] [39] 4 fun t9 =>
  k1 t9) <|
  k1 (.bool false)) fun t2 =>
  K t2
theorem cell_single_link (p0 : Value) : Lk 69 #[p0] (cell_single p0) := lk [p0] [(3, [2])] Try.func69 (by kernel_rfl) fun _ _ => by kernel_rfl
theorem cell_single_b : Bodied Try.prog 69 := bd Try.func69 (by kernel_rfl)
def cell_tailOf (p0 : Value) (K : Value → World → Prop) : World → Prop :=
  xB 39 p0 fun t1 =>
  xA 39 fun t2 =>
  xF 39 t1 1 fun t3 =>
  xL 5 t3 fun t4 =>
  xF 39 t1 2 fun t5 =>
  xL 5 t5 fun t6 =>
  xF 39 t1 3 fun t7 =>
  xL 5 t7 fun t8 =>
  xO .andNot 5 t8 (.int .u8 64) fun t9 =>
  xO .or 5 t9 (.int .u8 128) fun t10 =>
  OpX Try.prog (.build 39 #[(1, .const t4), (2, .const t6), (3, .const t10)]) 39 fun t11 =>
  xS 39 t2 t11 <|
  xD 39 t2 fun t2_1 =>
  K t2_1
theorem cell_tailOf_link (p0 : Value) : Lk 73 #[p0] (cell_tailOf p0) := lk [p0] [] Try.func73 (by kernel_rfl) fun _ _ => by kernel_rfl
theorem cell_tailOf_b : Bodied Try.prog 73 := bd Try.func73 (by kernel_rfl)
def cell_Mend (p0 : Value) (K : Value → World → Prop) : World → Prop :=
  xU p0 45 fun t6 =>
  OpX Try.prog (.makeSlice 45 (.const t6) (.const t6)) 45 fun t7 =>
  OpX Try.prog (.call { callee := .builtin .copy, args := #[.const t7, .const p0], argTypes := #[45, 45] }) 3 fun _ =>
  Loop1 (.int .i64 0) fun t4 next1 =>
  xU p0 45 fun t13 =>
  xO .lss 3 t4 t13 fun t14 =>
  xW t14
  (xC 68 [.const p0, .const t4] [45, 3] 4 fun t20 =>
  xW t20
  (xO .add 3 t4 (.int .i64 1) fun t22 =>
  xO .add 3 t22 (.int .i64 1) fun t16 =>
  next1 t16) <|
  xI 45 p0 t4 fun t26 =>
  xL 39 t26 fun t27 =>
  xC 69 [.const t27] [39] 4 fun t28 =>
  xN 4 t28 fun t29 =>
  xW t29
  (DrewW <|
  xP (.indexAddr 45 (.const p0) (.const t4)) 0 fun t34 =>
  qF 39 t34 1 fun t35 =>
  qL 5 t35 fun t36 =>
  xP (.indexAddr 45 (.const p0) (.const t4)) 0 fun t39 =>
  qF 39 t39 2 fun t40 =>
  qL 5 t40 fun t41 =>
  OpX Try.prog (.build 39 #[(0, .const (.int .i32 32)), (1, .const t36), (2, .const t41)]) 39 fun t42 =>
  xP (.indexAddr 45 (.const t7) (.const t4)) 0 fun t43 =>
  xS 39 t43 t42 <|
  xO .add 3 t4 (.int .i64 1) fun t16_1 =>
  next1 t16_1) <|
  xO .add 3 t4 (.int .i64 1) fun t16_2 =>
  next1 t16_2) <|
  K t7
theorem cell_Mend_link (p0 : Value) : Lk 85 #[p0] (cell_Mend p0) := lk [p0] [(10, [4])] Try.func85 (by kernel_rfl) fun _ _ => by kernel_rfl
theorem cell_Mend_b : Bodied Try.prog 85 := bd Try.func85 (by kernel_rfl)
def runes_Width (p0 : Value) (K : Value → World → Prop) : World → Prop :=
  OpX Try.prog (.build 99 #[(0, .const (.int .i32 127)), (1, .const (.int .i32 159)), (2, .const (.int .i64 0))]) 99 fun t6 =>
  OpX Try.prog (.build 99 #[(0, .const (.int .i32 768)), (1, .const (.int .i32 879)), (2, .const (.int .i64 0))]) 99 fun t7 =>
  OpX Try.prog (.build 99 #[(0, .const (.int .i32 8203)), (1, .const (.int .i32 8207)), (2, .const (.int .i64 0))]) 99 fun t8 =>
  OpX Try.prog (.build 99 #[(0, .const (.int .i32 55296)), (1, .const (.int .i32 57343)), (2, .const (.int .i64 0))]) 99 fun t9 =>
  OpX Try.prog (.build 99 #[(0, .const (.int .i32 65024)), (1, .const (.int .i32 65039)), (2, .const (.int .i64 0))]) 99 fun t10 =>
  OpX Try.prog (.build 99 #[(0, .const (.int .i32 4352)), (1, .const (.int .i32 4447)), (2, .const (.int .i64 2))]) 99 fun t11 =>
  OpX Try.prog (.build 99 #[(0, .const (.int .i32 11904)), (1, .const (.int .i32 12350)), (2, .const (.int .i64 2))]) 99 fun t12 =>
  OpX Try.prog (.build 99 #[(0, .const (.int .i32 12353)), (1, .const (.int .i32 42191)), (2, .const (.int .i64 2))]) 99 fun t13 =>
  OpX Try.prog (.build 99 #[(0, .const (.int .i32 44032)), (1, .const (.int .i32 55203)), (2, .const (.int .i64 2))]) 99 fun t14 =>
  OpX Try.prog (.build 99 #[(0, .const (.int .i32 63744)), (1, .const (.int .i32 64255)), (2, .const (.int .i64 2))]) 99 fun t15 =>
  OpX Try.prog (.build 99 #[(0, .const (.int .i32 65072)), (1, .const (.int .i32 65135)), (2, .const (.int .i64 2))]) 99 fun t16 =>
  OpX Try.prog (.build 99 #[(0, .const (.int .i32 65281)), (1, .const (.int .i32 65376)), (2, .const (.int .i64 2))]) 99 fun t17 =>
  OpX Try.prog (.build 99 #[(0, .const (.int .i32 65504)), (1, .const (.int .i32 65510)), (2, .const (.int .i64 2))]) 99 fun t18 =>
  OpX Try.prog (.build 99 #[(0, .const (.int .i32 127744)), (1, .const (.int .i32 128591)), (2, .const (.int .i64 2))]) 99 fun t19 =>
  OpX Try.prog (.build 99 #[(0, .const (.int .i32 129280)), (1, .const (.int .i32 129535)), (2, .const (.int .i64 2))]) 99 fun t20 =>
  OpX Try.prog (.build 99 #[(0, .const (.int .i32 131072)), (1, .const (.int .i32 262141)), (2, .const (.int .i64 2))]) 99 fun t21 =>
  OpX Try.prog (.build 100 #[(0, .const t6), (1, .const t7), (2, .const t8), (3, .const t9), (4, .const t10), (5, .const t11), (6, .const t12), (7, .const t13), (8, .const t14), (9, .const t15), (10, .const t16), (11, .const t17), (12, .const t18), (13, .const t19), (14, .const t20), (15, .const t21)]) 100 fun t22 =>
  xA 100 fun t3 =>
  xS 100 t3 t22 <|
  Join1 (fun k1 =>
  xO .lss 21 p0 (.int .i32 32) fun t25 =>
  xW t25
  (k1 (.bool true)) <|
  xO .gtr 21 p0 (.int .i32 1114111) fun t28 =>
  k1 t28) fun t23 =>
  xW t23
  (K (.int .i64 0)) <|
  xO .lss 21 p0 (.int .i32 127) fun t32 =>
  xW t32
  (K (.int .i64 1)) <|
  xL 100 t3 fun t33 =>
  Loop1 (.int .i64 0) fun t34 next2 =>
  xO .lss 3 t34 (.int .i64 16) fun t35 =>
  xW t35
  (OpX Try.prog (.index 100 (.const t33) (.const t34)) 99 fun t36 =>
  xA 99 fun t5 =>
  xS 99 t5 t36 <|
  Join1 (fun k3 =>
  xF 99 t5 0 fun t38 =>
  xL 21 t38 fun t39 =>
  xO .geq 21 p0 t39 fun t40 =>
  xW t40
  (xF 99 t5 1 fun t43 =>
  xL 21 t43 fun t44 =>
  xO .leq 21 p0 t44 fun t45 =>
  k3 t45) <|
  k3 (.bool false)) fun t46 =>
  xW t46
  (xF 99 t5 2 fun t47 =>
  xL 3 t47 fun t48 =>
  K t48) <|
  xO .add 3 t34 (.int .i64 1) fun t49 =>
  next2 t49) <|
  K (.int .i64 1)
theorem runes_Width_link (p0 : Value) : Lk 46 #[p0] (runes_Width p0) := lk [p0] [(7, [23]), (23, [34]), (35, [46])] Try.func46 (by kernel_rfl) fun _ _ => by kernel_rfl
theorem runes_Width_b : Bodied Try.prog 46 := bd Try.func46 (by kernel_rfl)
def runes_Encode (p0 : Value) (K : Value → World → Prop) : World → Prop :=
  xU p0 24 fun t7 =>
  Loop2 (.slice none 0 0) (.int .i64 0) fun t3 t8 next1 =>
  xO .lss 3 t8 t7 fun t9 =>
  xW t9
  (xI 24 p0 t8 fun t10 =>
  xL 21 t10 fun t11 =>
  Join1 (fun k2 =>
  xC 86 [.const t11] [21] 4 fun t13 =>
  xN 4 t13 fun t14 =>
  xW t14
  (k2 (.int .i32 65533)) <|
  k2 t11) fun t5 =>
  xC 87 [.const t3, .const t5] [107, 21] 107 fun t17 =>
  xO .add 3 t8 (.int .i64 1) fun t18 =>
  next1 t17 t18) <|
  OpX Try.prog (.convert 107 9 (.const t3)) 9 fun t20 =>
  K t20
theorem runes_Encode_link (p0 : Value) : Lk 66 #[p0] (runes_Encode p0) := lk [p0] [(8, [3, 8]), (19, [5])] Try.func66 (by kernel_rfl) fun _ _ => by kernel_rfl
theorem runes_Encode_b : Bodied Try.prog 66 := bd Try.func66 (by kernel_rfl)
def unicode_utf8_ValidRune (p0 : Value) (K : Value → World → Prop) : World → Prop :=
  Join1 (fun k1 =>
  xO .leq 21 (.int .i32 0) p0 fun t5 =>
  xW t5
  (xO .lss 21 p0 (.int .i32 55296) fun t8 =>
  k1 t8) <|
  k1 (.bool false)) fun t3 =>
  xW t3
  (K (.bool true)) <|
  Join1 (fun k2 =>
  xO .lss 21 (.int .i32 57343) p0 fun t12 =>
  xW t12
  (xO .leq 21 p0 (.int .i32 1114111) fun t15 =>
  k2 t15) <|
  k2 (.bool false)) fun t10 =>
  xW t10
  (K (.bool true)) <|
  K (.bool false)
theorem unicode_utf8_ValidRune_link (p0 : Value) : Lk 86 #[p0] (unicode_utf8_ValidRune p0) := lk [p0] [(5, [3]), (11, [10])] Try.func86 (by kernel_rfl) fun _ _ => by kernel_rfl
theorem unicode_utf8_ValidRune_b : Bodied Try.prog 86 := bd Try.func86 (by kernel_rfl)
def unicode_utf8_AppendRune (p0 p1 : Value) (K : Value → World → Prop) : World → Prop :=
  OpX Try.prog (.convert 21 122 (.const p1)) 122 fun t6 =>
  xO .leq 122 t6 (.int .u32 127) fun t7 =>
  xW t7
  (OpX Try.prog (.convert 21 5 (.const p1)) 5 fun t10 =>
  OpX Try.prog (.buildSlice 107 1 #[(0, .const t10)]) 107 fun t11 =>
  OpX Try.prog (.call { callee := .builtin .append, args := #[.const p0, .const t11], argTypes := #[107, 107] }) 107 fun t12 =>
  K t12) <|
  xC 98 [.const p0, .const p1] [107, 21] 107 fun t15 =>
  K t15
theorem unicode_utf8_AppendRune_link (p0 p1 : Value) : Lk 87 #[p0, p1] (unicode_utf8_AppendRune p0 p1) := lk [p0, p1] [] Try.func87 (by kernel_rfl) fun _ _ => by kernel_rfl
theorem unicode_utf8_AppendRune_b : Bodied Try.prog 87 := bd Try.func87 (by kernel_rfl)
def unicode_utf8_appendRuneNonASCII (p0 p1 : Value) (K : Value → World → Prop) : World → Prop :=
  OpX Try.prog (.convert 21 122 (.const p1)) 122 fun t7 =>
  xO .leq 122 t7 (.int .u32 2047) fun t13 =>
  xW t13
  (xO .shr 21 p1 (.int .u64 6) fun t16 =>
  OpX Try.prog (.convert 21 5 (.const t16)) 5 fun t17 =>
  xO .or 5 (.int .u8 192) t17 fun t18 =>
  OpX Try.prog (.convert 21 5 (.const p1)) 5 fun t20 =>
  xO .and 5 t20 (.int .u8 63) fun t21 =>
  xO .or 5 (.int .u8 128) t21 fun t22 =>
  OpX Try.prog (.buildSlice 107 2 #[(0, .const t18), (1, .const t22)]) 107 fun t23 =>
  OpX Try.prog (.call { callee := .builtin .append, args := #[.const p0, .const t23], argTypes := #[107, 107] }) 107 fun t24 =>
  K t24) <|
  Join1 (fun k1 =>
  xO .lss 122 t7 (.int .u32 55296) fun t27 =>
  xW t27
  (k1 (.bool true)) <|
  Join1 (fun k2 =>
  xO .lss 122 (.int .u32 57343) t7 fun t29 =>
  xW t29
  (xO .leq 122 t7 (.int .u32 65535) fun t32 =>
  k2 t32) <|
  k2 (.bool false)) fun t25 =>
  k1 t25) fun t25_1 =>
  xW t25_1
  (xO .shr 21 p1 (.int .u64 12) fun t36 =>
  OpX Try.prog (.convert 21 5 (.const t36)) 5 fun t37 =>
  xO .or 5 (.int .u8 224) t37 fun t38 =>
  xO .shr 21 p1 (.int .u64 6) fun t40 =>
  OpX Try.prog (.convert 21 5 (.const t40)) 5 fun t41 =>
  xO .and 5 t41 (.int .u8 63) fun t42 =>
  xO .or 5 (.int .u8 128) t42 fun t43 =>
  OpX Try.prog (.convert 21 5 (.const p1)) 5 fun t45 =>
  xO .and 5 t45 (.int .u8 63) fun t46 =>
  xO .or 5 (.int .u8 128) t46 fun t47 =>
  OpX Try.prog (.buildSlice 107 3 #[(0, .const t38), (1, .const t43), (2, .const t47)]) 107 fun t48 =>
  OpX Try.prog (.call { callee := .builtin .append, args := #[.const p0, .const t48], argTypes := #[107, 107] }) 107 fun t49 =>
  K t49) <|
  Join1 (fun k3 =>
  xO .gtr 122 t7 (.int .u32 65535) fun t52 =>
  xW t52
  (xO .leq 122 t7 (.int .u32 1114111) fun t55 =>
  k3 t55) <|
  k3 (.bool false)) fun t50 =>
  xW t50
  (xO .shr 21 p1 (.int .u64 18) fun t59 =>
  OpX Try.prog (.convert 21 5 (.const t59)) 5 fun t60 =>
  xO .or 5 (.int .u8 240) t60 fun t61 =>
  xO .shr 21 p1 (.int .u64 12) fun t63 =>
  OpX Try.prog (.convert 21 5 (.const t63)) 5 fun t64 =>
  xO .and 5 t64 (.int .u8 63) fun t65 =>
  xO .or 5 (.int .u8 128) t65 fun t66 =>
  xO .shr 21 p1 (.int .u64 6) fun t68 =>
  OpX Try.prog (.convert 21 5 (.const t68)) 5 fun t69 =>
  xO .and 5 t69 (.int .u8 63) fun t70 =>
  xO .or 5 (.int .u8 128) t70 fun t71 =>
  OpX Try.prog (.convert 21 5 (.const p1)) 5 fun t73 =>
  xO .and 5 t73 (.int .u8 63) fun t74 =>
  xO .or 5 (.int .u8 128) t74 fun t75 =>
  OpX Try.prog (.buildSlice 107 4 #[(0, .const t61), (1, .const t66), (2, .const t71), (3, .const t75)]) 107 fun t76 =>
  OpX Try.prog (.call { callee := .builtin .append, args := #[.const p0, .const t76], argTypes := #[107, 107] }) 107 fun t77 =>
  K t77) <|
  OpX Try.prog (.buildSlice 107 3 #[(0, .const (.int .u8 239)), (1, .const (.int .u8 191)), (2, .const (.int .u8 189))]) 107 fun t9 =>
  OpX Try.prog (.call { callee := .builtin .append, args := #[.const p0, .const t9], argTypes := #[107, 107] }) 107 fun t10 =>
  K t10
theorem unicode_utf8_appendRuneNonASCII_link (p0 p1 : Value) : Lk 98 #[p0, p1] (unicode_utf8_appendRuneNonASCII p0 p1) := lk [p0, p1] [(11, [25]), (16, [25]), (22, [50])] Try.func98 (by kernel_rfl) fun _ _ => by kernel_rfl
theorem unicode_utf8_appendRuneNonASCII_b : Bodied Try.prog 98 := bd Try.func98 (by kernel_rfl)
def lyceumref05_Blank (K : Value → World → Prop) : World → Prop :=
  xA 39 fun t0 =>
  OpX Try.prog (.build 39 #[(0, .const (.int .i32 32))]) 39 fun t1 =>
  xS 39 t0 t1 <|
  xD 39 t0 fun t0_1 =>
  K t0_1
theorem lyceumref05_Blank_link : Lk 39 #[] (lyceumref05_Blank) := lk [] [] Try.func39 (by kernel_rfl) fun _ _ => by kernel_rfl
theorem lyceumref05_Blank_b : Bodied Try.prog 39 := bd Try.func39 (by kernel_rfl)
def lyceumref05_Same (p0 p1 : Value) (K : Value → World → Prop) : World → Prop :=
  xU p0 45 fun t7 =>
  xU p1 45 fun t9 =>
  xO .neq 3 t7 t9 fun t10 =>
  xW t10
  (K (.bool false)) <|
  Loop1 (.int .i64 0) fun t5 next1 =>
  xU p0 45 fun t13 =>
  xO .lss 3 t5 t13 fun t14 =>
  xW t14
  (DrewW <|
  xP (.indexAddr 45 (.const p0) (.const t5)) 0 fun t19 =>
  qL 39 t19 fun t20 =>
  xP (.indexAddr 45 (.const p1) (.const t5)) 0 fun t23 =>
  qL 39 t23 fun t24 =>
  qR .neq 39 t20 t24 fun t25 =>
  xW t25
  (K (.bool false)) <|
  xO .add 3 t5 (.int .i64 1) fun t16 =>
  next1 t16) <|
  K (.bool true)
theorem lyceumref05_Same_link (p0 p1 : Value) : Lk 40 #[p0, p1] (lyceumref05_Same p0 p1) := lk [p0, p1] [(14, [5])] Try.func40 (by kernel_rfl) fun _ _ => by kernel_rfl
theorem lyceumref05_Same_b : Bodied Try.prog 40 := bd Try.func40 (by kernel_rfl)
end Go.Proofs.Ytjfembffjjijaaa
namespace Go.Proofs.Ytjfembffjjijaaa
open Lyc Go
def spanCells (l : List (Int × Int × Int)) : List Value := l.flatMap fun s => [.int .i32 s.1, .int .i32 s.2.1, .int .i64 s.2.2]
theorem span_get (l : List (Int × Int × Int)) (i : Nat) (s : Int × Int × Int) (h : l[i]? = some s) : ((spanCells l).toArray).extract (i * 3) (i * 3 + 3) = #[.int .i32 s.1, .int .i32 s.2.1, .int .i64 s.2.2] := by
  obtain ⟨pre, post, h1, h2⟩ := flat_get (f := fun s : Int × Int × Int => [Value.int .i32 s.1, .int .i32 s.2.1, .int .i64 s.2.2]) (m := 3) (fun _ => rfl) l i s h
  have := aggAt_mid pre [Value.int .i32 s.1, .int .i32 s.2.1, .int .i64 s.2.2] post 0 (0, 0) (i * 3) 3 h2 rfl
  rw [aggAt_cells] at this
  have hs : spanCells l = pre ++ [Value.int .i32 s.1, .int .i32 s.2.1, .int .i64 s.2.2] ++ post := h1
  rw [hs]
  split at this
  · simpa using this
  · simp at this
theorem width_c (w : World) (r : Int) : Calls Try.prog 46 #[.int .i32 r] w (retK fun v w' => v = .int .i64 (width r) ∧ Chg [] w w') := by
  apply runes_Width_link
  intro K hK
  unfold runes_Width
  refine OpX.build (c := #[.int .i32 127, .int .i32 159, .int .i64 0]) (by kernel_rfl) ?_
  refine OpX.build (c := #[.int .i32 768, .int .i32 879, .int .i64 0]) (by kernel_rfl) ?_
  refine OpX.build (c := #[.int .i32 8203, .int .i32 8207, .int .i64 0]) (by kernel_rfl) ?_
  refine OpX.build (c := #[.int .i32 55296, .int .i32 57343, .int .i64 0]) (by kernel_rfl) ?_
  refine OpX.build (c := #[.int .i32 65024, .int .i32 65039, .int .i64 0]) (by kernel_rfl) ?_
  refine OpX.build (c := #[.int .i32 4352, .int .i32 4447, .int .i64 2]) (by kernel_rfl) ?_
  refine OpX.build (c := #[.int .i32 11904, .int .i32 12350, .int .i64 2]) (by kernel_rfl) ?_
  refine OpX.build (c := #[.int .i32 12353, .int .i32 42191, .int .i64 2]) (by kernel_rfl) ?_
  refine OpX.build (c := #[.int .i32 44032, .int .i32 55203, .int .i64 2]) (by kernel_rfl) ?_
  refine OpX.build (c := #[.int .i32 63744, .int .i32 64255, .int .i64 2]) (by kernel_rfl) ?_
  refine OpX.build (c := #[.int .i32 65072, .int .i32 65135, .int .i64 2]) (by kernel_rfl) ?_
  refine OpX.build (c := #[.int .i32 65281, .int .i32 65376, .int .i64 2]) (by kernel_rfl) ?_
  refine OpX.build (c := #[.int .i32 65504, .int .i32 65510, .int .i64 2]) (by kernel_rfl) ?_
  refine OpX.build (c := #[.int .i32 127744, .int .i32 128591, .int .i64 2]) (by kernel_rfl) ?_
  refine OpX.build (c := #[.int .i32 129280, .int .i32 129535, .int .i64 2]) (by kernel_rfl) ?_
  refine OpX.build (c := #[.int .i32 131072, .int .i32 262141, .int .i64 2]) (by kernel_rfl) ?_
  refine OpX.build (c := (spanCells spans).toArray) (by kernel_rfl) ?_
  refine OpX.fresh (z := _) ty100z (by kernel_rfl) (by kernel_rfl) (by kernel_rfl) ?_
  refine Join1.inl ?_
  simp -dsimp (disch := first | omega | (simp only [go_sem, seval]; first | done | omega)) only [go_sem, seval]
  have hc0 := (Chg.refl [] w).alloc (.cells (Value.agg (spanCells spans).toArray).cells 100)
  refine BrW.dec (fun h => ?_) (fun h => ?_)
  · simp -dsimp (disch := first | omega | (simp only [go_sem, seval]; first | done | omega)) only [go_sem, seval]
    exact hK _ _ ⟨by simp [width, h], hc0⟩
  · simp -dsimp (disch := first | omega | (simp only [go_sem, seval]; first | done | omega)) only [go_sem, seval]
    refine BrW.dec (fun h2 => ?_) (fun h2 => ?_)
    · exact hK _ _ ⟨by simp [width, h2], hc0⟩
    · simp -dsimp (disch := first | omega | (simp only [go_sem, seval]; first | done | omega)) only [go_sem, seval]
      refine BrW.dec (fun h3 => ?_) (fun h3 => ?_)
      · exact hK _ _ ⟨by simp [width, h, h2, h3], hc0⟩
      · have hld : aggAt ((w.alloc (.cells (spanCells spans).toArray 100)).heap[w.heap.size]?) 0 48 = some (spanCells spans).toArray := by
          rw [Lyc.heap_alloc_new _ _ _ rfl]
          exact aggAt_mid [] (spanCells spans) [] _ _ 0 48 rfl (by kernel_rfl)
        rw [xL, x_loadA _ _ _ _ _ _ ty100.2.2.2.1, ty100.2.2.2.2.2.1, Option.bind_some, hld, OrK_some]
        refine Loop1.st (fun k : Nat => .int .i64 k) (fun k w' => Chg [] w w' ∧ k ≤ 16 ∧ spanW spans r = spanW (spans.drop k) r) (fun k => 16 - k) 0 rfl ⟨hc0, by omega, rfl⟩ ?_
        rintro next k w' hn ⟨hc, hk, he⟩
        simp -dsimp (disch := first | omega | (simp only [go_sem, seval]; first | done | omega)) only [go_sem, seval]
        refine BrW.dec (fun h4 => ?_) (fun h4 => ?_)
        · have hk' : k < 16 := by omega
          have hs : spans[k]? = some (spans[k]'hk') := List.getElem?_eq_getElem hk'
          have hd : spans.drop k = spans[k]'hk' :: spans.drop (k + 1) := List.drop_eq_getElem_cons hk'
          rw [hd] at he
          generalize spans[k]'hk' = s at hs he
          have hi : idxL Try.prog 100 (spanCells spans).toArray k = some (.agg #[.int .i32 s.1, .int .i32 s.2.1, .int .i64 s.2.2]) := by
            have := span_get _ _ _ hs
            simp [idxL, partL, ty100.2.2.2.2.2.2.1, ty100.2.2.2.2.1, ty99.2.2.2.1, ty99.2.1, h4]
            exact ⟨hk', by simpa using this⟩
          simp -dsimp (disch := first | omega | (simp only [go_sem, seval]; first | done | omega)) only [go_sem, seval, hi]
          have hc1 := hc.alloc (.cells #[.int .i32 s.1, .int .i32 s.2.1, .int .i64 s.2.2] 99)
          refine Join1.inl ?_
          simp -dsimp (disch := first | omega | (simp only [go_sem, seval]; first | done | omega)) only [go_sem, seval]
          refine BrW.dec (fun h5 => ?_) (fun h5 => ?_)
          · simp -dsimp (disch := first | omega | (simp only [go_sem, seval]; first | done | omega)) only [go_sem, seval]
            refine BrW.dec (fun h6 => ?_) (fun h6 => ?_)
            · simp -dsimp (disch := first | omega | (simp only [go_sem, seval]; first | done | omega)) only [go_sem, seval]
              refine hK _ _ ⟨?_, hc1⟩
              simp [width, h, h2, h3, he, spanW, h5, h6]
            · simp -dsimp (disch := first | omega | (simp only [go_sem, seval]; first | done | omega)) only [go_sem, seval]
              refine hn (k + 1) _ ⟨hc1, by omega, ?_⟩ (by omega)
              rw [he]; simp [spanW, h6]
          · simp -dsimp (disch := first | omega | (simp only [go_sem, seval]; first | done | omega)) only [go_sem, seval]
            refine hn (k + 1) _ ⟨hc1, by omega, ?_⟩ (by omega)
            rw [he]; simp [spanW, h5]
        · have hk' : k = 16 := by omega
          subst hk'
          refine hK _ _ ⟨?_, hc⟩
          simp [width, h, h2, h3, he]
          simp [spans, spanW]
theorem check_c (w : World) (c : Cel) : Calls Try.prog 65 #[c.val] w (retK fun v w' => v = .bool c.check ∧ Chg [] w w') := by
  apply cell_Check_link
  intro K hK
  unfold cell_Check
  simp -dsimp (disch := first | omega | (simp only [go_sem, seval]; first | done | omega)) only [go_sem, seval]
  have hc1 := ((Chg.refl [] w).alloc (.cells c.cells.toArray 39)).drew
  refine BrW.dec (fun h => ?_) (fun h => ?_)
  · refine Join1.inl ?_
    simp -dsimp (disch := first | omega | (simp only [go_sem, seval]; first | done | omega)) only [go_sem, seval]
    refine BrW.dec (fun h2 => ?_) (fun h2 => ?_)
    · simp -dsimp (disch := first | omega | (simp only [go_sem, seval]; first | done | omega)) only [go_sem, seval]
      refine hK _ _ ⟨?_, hc1⟩
      simp [Cel.check, Cel.tail, Cel.wide, h, h2]
    · simp -dsimp (disch := first | omega | (simp only [go_sem, seval]; first | done | omega)) only [go_sem, seval]
      refine hK _ _ ⟨?_, hc1⟩
      simp [Cel.check, Cel.tail, Cel.wide, h, h2]
  · simp -dsimp (disch := first | omega | (simp only [go_sem, seval]; first | done | omega)) only [go_sem, seval]
    refine BrW.dec (fun h2 => ?_) (fun h2 => ?_)
    · simp -dsimp (disch := first | omega | (simp only [go_sem, seval]; first | done | omega)) only [go_sem, seval]
      refine OpX.call runes_Width_b rfl (Calls.ret (width_c _ c.r) ?_)
      rintro v w1 ⟨rfl, hc2⟩
      simp -dsimp (disch := first | omega | (simp only [go_sem, seval]; first | done | omega)) only [go_sem, seval]
      refine hK _ _ ⟨?_, hc1.trans0 hc2⟩
      simp [Cel.check, Cel.tail, Cel.wide, h, h2]
    · simp -dsimp (disch := first | omega | (simp only [go_sem, seval]; first | done | omega)) only [go_sem, seval]
      refine OpX.call runes_Width_b rfl (Calls.ret (width_c _ c.r) ?_)
      rintro v w1 ⟨rfl, hc2⟩
      simp -dsimp (disch := first | omega | (simp only [go_sem, seval]; first | done | omega)) only [go_sem, seval]
      refine hK _ _ ⟨?_, hc1.trans0 hc2⟩
      simp [Cel.check, Cel.tail, Cel.wide, h, h2]
theorem tailOf_c (w : World) (c : Cel) : Calls Try.prog 73 #[c.val] w (retK fun v w' => v = c.tailOf.val ∧ Chg [] w w') := by
  apply cell_tailOf_link
  intro K hK
  unfold cell_tailOf
  simp -dsimp (disch := first | omega | (simp only [go_sem, seval]; first | done | omega)) only [go_sem, seval]
  exact hK _ _ ⟨rfl, ((Chg.refl [] w).alloc _).alloc _⟩
theorem single_c (w : World) (c : Cel) : Calls Try.prog 69 #[c.val] w (retK fun v w' => v = .bool c.single ∧ Chg [] w w') := by
  apply cell_single_link
  intro K hK
  unfold cell_single
  simp -dsimp (disch := first | omega | (simp only [go_sem, seval]; first | done | omega)) only [go_sem, seval]
  have hc1 := (Chg.refl [] w).alloc (.cells c.cells.toArray 39)
  refine Join1.inl ?_
  simp -dsimp (disch := first | omega | (simp only [go_sem, seval]; first | done | omega)) only [go_sem, seval]
  refine BrW.dec (fun h => ?_) (fun h => ?_)
  · simp -dsimp (disch := first | omega | (simp only [go_sem, seval]; first | done | omega)) only [go_sem, seval]
    refine OpX.call cell_Check_b rfl (Calls.ret (check_c _ c) ?_)
    rintro v w1 ⟨rfl, hc2⟩
    refine hK _ _ ⟨?_, hc1.trans0 hc2⟩
    simp [Cel.single, Cel.plain, h]
  · simp -dsimp (disch := first | omega | (simp only [go_sem, seval]; first | done | omega)) only [go_sem, seval]
    refine hK _ _ ⟨?_, hc1⟩
    simp [Cel.single, Cel.plain, h]
theorem cblank_c (w : World) : Calls Try.prog 35 #[] w (retK fun v w' => v = Cel.blank.val ∧ Chg [] w w') := by
  apply cell_Blank_link
  intro K hK
  unfold cell_Blank
  simp -dsimp (disch := first | omega | (simp only [go_sem, seval]; first | done | omega)) only [go_sem, seval]
  exact hK _ _ ⟨rfl, (Chg.refl [] w).alloc _⟩
theorem paired_c {w : World} {e : Option TypeId} {a : Option Addr} {l : List Cel} (hs : SxC w e a l) (cap x : Nat) (hx : x < l.length) (hl : l.length ≤ 1000000000) : Calls Try.prog 68 #[.slice a l.length cap, .int .i64 x] w (retK fun v w' => v = .bool (pairAt l x) ∧ Chg [] w w') := by
  obtain ⟨b, o, rfl, hb, h1, -⟩ := SxC.cel hs (List.getElem?_eq_getElem hx)
  have hp : pairAt l x = match l[x + 1]? with | some d => pairOK l[x] d | none => false := by
    unfold pairAt; rw [List.getElem?_eq_getElem hx]; cases l[x + 1]? <;> rfl
  rw [hp]
  generalize l[x] = c at h1 ⊢
  apply cell_paired_link
  intro K hK
  unfold cell_paired
  simp -dsimp (disch := first | omega | (simp only [go_sem, seval]; first | done | omega)) only [go_sem, seval, h1]
  have hc1 := ((Chg.refl [] w).alloc (.cells c.cells.toArray 39)).drew
  refine Join1.inl ?_
  simp -dsimp (disch := first | omega | (simp only [go_sem, seval]; first | done | omega)) only [go_sem, seval]
  refine BrW.dec (fun h => ?_) (fun h => ?_)
  · simp -dsimp (disch := first | omega | (simp only [go_sem, seval]; first | done | omega)) only [go_sem, seval]
    refine OpX.call cell_Check_b rfl (Calls.ret (check_c _ c) ?_)
    rintro v w1 ⟨rfl, hc2⟩
    have hc3 := hc1.trans0 hc2
    refine BrW.by (fun h2 => ?_) (fun h2 => ?_)
    · simp -dsimp (disch := first | omega | (simp only [go_sem, seval]; first | done | omega)) only [go_sem, seval]
      refine BrW.dec (fun h3 => ?_) (fun h3 => ?_)
      · have hx' : x + 1 < l.length := by omega
        have hs1 := hs.chg0 hc3
        obtain ⟨b', o', he, hb', h4, -⟩ := SxC.cel hs1 (List.getElem?_eq_getElem hx')
        cases he
        have h1' := hc2.keep (b := w.heap.size) (o := .cells c.cells.toArray 39) (by simp -dsimp (disch := first | omega | (simp only [go_sem, seval]; first | done | omega)) only [go_sem, seval]) (by simp)
        rw [List.getElem?_eq_getElem hx'] at hK
        dsimp only at hK
        generalize l[x + 1] = d at h4 hK
        have h4' : aggAt w1.heap[b]? (o + ((x : Int) + 1).toNat * 4) 4 = some #[.int .i32 d.r, .int .u8 d.fg.toNat, .int .u8 d.bg.toNat, .int .u8 d.a.toNat] := h4
        simp -dsimp (disch := first | omega | (simp only [go_sem, seval]; first | done | omega)) only [go_sem, seval, h4', h1']
        refine OpX.call cell_tailOf_b rfl (Calls.ret (tailOf_c _ c) ?_)
        rintro v w2 ⟨rfl, hc4⟩
        have h5 : aggAt w2.heap[b]? (o + ((x : Int) + 1).toNat * 4) 4 = some #[.int .i32 d.r, .int .u8 d.fg.toNat, .int .u8 d.bg.toNat, .int .u8 d.a.toNat] := by rw [hc4.same b hb' (by simp)]; exact h4'
        simp -dsimp (disch := first | omega | (simp only [go_sem, seval]; first | done | omega)) only [go_sem, seval, h5, Cel.tailOf]
        refine hK _ _ ⟨?_, hc3.trans0 hc4⟩
        rw [pairOK, h2, Cel.wide, celEq]
        simp [h, Cel.tailOf]
        rfl
      · simp -dsimp (disch := first | omega | (simp only [go_sem, seval]; first | done | omega)) only [go_sem, seval]
        refine hK _ _ ⟨?_, hc3⟩
        rw [List.getElem?_eq_none (by omega)]
    · simp -dsimp (disch := first | omega | (simp only [go_sem, seval]; first | done | omega)) only [go_sem, seval]
      refine hK _ _ ⟨?_, hc3⟩
      cases l[x + 1]? <;> simp [pairOK, h2]
  · simp -dsimp (disch := first | omega | (simp only [go_sem, seval]; first | done | omega)) only [go_sem, seval]
    refine hK _ _ ⟨?_, hc1⟩
    cases l[x + 1]? <;> simp [pairOK, Cel.wide, h]
theorem right_c {w : World} {e : Option TypeId} {a : Option Addr} {l : List Cel} (hs : SxC w e a l) (cap : Nat) (hl : l.length ≤ 1000000000) : Calls Try.prog 45 #[.slice a l.length cap] w (retK fun v w' => v = .bool (right l) ∧ Chg [] w w') := by
  apply cell_Right_link
  intro K hK
  unfold cell_Right
  refine Loop1.st (fun k : Nat => .int .i64 k) (fun k w' => Chg [] w w' ∧ k ≤ l.length ∧ right l = right (l.drop k)) (fun k => l.length - k) 0 rfl ⟨Chg.refl _ _, by omega, rfl⟩ ?_
  rintro next k w' hn ⟨hc, hk, he⟩
  simp -dsimp (disch := first | omega | (simp only [go_sem, seval]; first | done | omega)) only [go_sem, seval]
  refine BrW.dec (fun h1 => ?_) (fun h1 => ?_)
  · have hk' : k < l.length := by omega
    have hst := right_step hk'
    have hs' := hs.chg0 hc
    refine OpX.call cell_paired_b rfl (Calls.ret (paired_c hs' cap k hk' hl) ?_)
    rintro v w1 ⟨rfl, hc1⟩
    refine BrW.by (fun h2 => ?_) (fun h2 => ?_)
    · have := pairAt_lt h2
      simp -dsimp (disch := first | omega | (simp only [go_sem, seval]; first | done | omega)) only [go_sem, seval]
      refine hn (k + 2) _ ⟨hc.trans0 hc1, by omega, ?_⟩ (by omega)
      rw [he, hst, h2]; rfl
    · obtain ⟨b, o, rfl, hb, h3, -⟩ := SxC.cel (hs.chg0 (hc.trans0 hc1)) (List.getElem?_eq_getElem hk')
      simp -dsimp (disch := first | omega | (simp only [go_sem, seval]; first | done | omega)) only [go_sem, seval, h3]
      refine OpX.call cell_single_b rfl (Calls.ret (single_c _ l[k]) ?_)
      rintro v w2 ⟨rfl, hc2⟩
      rw [h2] at hst
      simp only [Bool.false_eq_true, if_false] at hst
      simp -dsimp (disch := first | omega | (simp only [go_sem, seval]; first | done | omega)) only [go_sem, seval]
      refine BrW.by (fun h4 => ?_) (fun h4 => ?_)
      · refine hK _ _ ⟨?_, (hc.trans0 hc1).trans0 hc2⟩
        rw [he, hst]; simp at h4; simp [h4]
      · simp -dsimp (disch := first | omega | (simp only [go_sem, seval]; first | done | omega)) only [go_sem, seval]
        refine hn (k + 1) _ ⟨(hc.trans0 hc1).trans0 hc2, by omega, ?_⟩ (by omega)
        rw [he, hst]; simp at h4; simp [h4]
  · have hk' : k = l.length := by omega
    refine hK _ _ ⟨?_, hc⟩
    rw [he, hk']; simp [right]
theorem mend_c {w : World} {e : Option TypeId} {a : Option Addr} {l : List Cel} (hs : SxC w e a l) (cap : Nat) (hl : l.length ≤ 100000) : Calls Try.prog 85 #[.slice a l.length cap] w (retK fun v w' => Ox w.heap.size w' 39 4 Cel.cells v (mend l) ∧ Chg [] w w') := by
  apply cell_Mend_link
  intro K hK
  unfold cell_Mend
  simp -dsimp (disch := first | omega | (simp only [go_sem, seval]; first | done | omega)) only [go_sem, seval]
  refine make_x (f := Cel.cells) ⟨0, 0, 0, 0⟩ ty45mk Cel.len rfl hl (by omega) (by omega) (Nat.le_refl _) ?_
  intro w1 hw1 ho1
  have hc1 : Chg [] w w1 := by rw [hw1]; exact (Chg.refl _ _).alloc _
  refine copy_x (t := 45) ty45sl Cel.len Cel.ok ho1 (hs.chg0 hc1) rfl (by simp) ?_
  intro w2 ho2 hc3
  have hc2 := own_chg ho1 hc1 hc3
  clear hw1 ho1 hc1 hc3 w1
  refine Loop1.st (fun s : Nat × List Cel => .int .i64 s.1) (fun s w' => Chg [] w w' ∧ Ox w.heap.size w' 39 4 Cel.cells (.slice (some ⟨w.heap.size, 0, none⟩) l.length l.length) s.2 ∧ s.1 ≤ l.length ∧ mend l = s.2.take s.1 ++ mend (l.drop s.1) ∧ s.2.drop s.1 = l.drop s.1 ∧ s.2.length = l.length) (fun s => l.length - s.1) (0, l) rfl ⟨hc2, ho2, by simp, rfl, rfl, rfl⟩ ?_
  rintro next ⟨k, out⟩ w' hn ⟨hc, ho, hk, he, hd, hlen⟩
  dsimp only at ho hk he hd hlen ⊢
  simp -dsimp (disch := first | omega | (simp only [go_sem, seval]; first | done | omega)) only [go_sem, seval]
  refine BrW.dec (fun h1 => ?_) (fun h1 => ?_)
  · have hk' : k < l.length := by omega
    have hst := mend_step hk'
    refine OpX.call cell_paired_b rfl (Calls.ret (paired_c (hs.chg0 hc) cap k hk' (by omega)) ?_)
    rintro v w1 ⟨rfl, hc1⟩
    have hc1' := hc.trans0 hc1
    have ho1 := ho.chg0 hc1
    refine BrW.by (fun h2 => ?_) (fun h2 => ?_)
    · have := pairAt_lt h2
      simp -dsimp (disch := first | omega | (simp only [go_sem, seval]; first | done | omega)) only [go_sem, seval]
      refine hn (k + 2, out) _ ⟨hc1', ho1, by dsimp only; omega, ?_, ?_, hlen⟩ (by dsimp only; omega)
      · dsimp only
        rw [he, hst, h2, ← hd, if_pos rfl, ← List.append_assoc, ← List.take_add]
      · have := congrArg (List.drop 2) hd
        simpa [List.drop_drop] using this
    · rw [h2] at hst
      simp only [Bool.false_eq_true, if_false] at hst
      obtain ⟨b, o, rfl, hb, h3, h4, h5, h6, h7⟩ := SxC.cel (hs.chg0 hc1') (List.getElem?_eq_getElem hk')
      simp -dsimp (disch := first | omega | (simp only [go_sem, seval]; first | done | omega)) only [go_sem, seval, h3]
      refine OpX.call cell_single_b rfl (Calls.ret (single_c _ l[k]) ?_)
      rintro v w2 ⟨rfl, hc2⟩
      have hc2' := hc1'.trans0 hc2
      have ho2 := ho1.chg0 hc2
      simp -dsimp (disch := first | omega | (simp only [go_sem, seval]; first | done | omega)) only [go_sem, seval]
      have hout : out[k]? = some l[k] := by
        have := congrArg (·[0]?) hd
        simpa [List.getElem?_drop, hk'] using this
      refine BrW.by (fun h8 => ?_) (fun h8 => ?_)
      · obtain ⟨b', o', he', hb', h3, h4, h5, h6, h7⟩ := SxC.cel (hs.chg0 hc2') (List.getElem?_eq_getElem hk')
        cases he'
        have hko : k < out.length := by omega
        obtain ⟨g, cp, x', hv, hg, hgl, hput, ho3⟩ := ho2.put Cel.len hko ⟨32, l[k].fg, l[k].bg, 0⟩
        have hv' := hv
        rw [Value.slice.injEq] at hv'
        obtain ⟨hv1, -, -⟩ := hv'
        cases hv1
        have hput' : putAt w2.heap[w.heap.size]? (k * 4) [.int .i32 32, .int .u8 l[k].fg.toNat, .int .u8 l[k].bg.toNat, .int .u8 0] = some x' := hput
        simp -dsimp (disch := first | omega | (simp only [go_sem, seval]; first | done | omega)) only [go_sem, seval, h5, h6, hput']
        refine hn (k + 1, out.set k ⟨32, l[k].fg, l[k].bg, 0⟩) _ ⟨(hc2'.set w.heap.size x' (.inr (Nat.le_refl _))).drew, ho3.chg0 (Chg.refl _ _).drew, by dsimp only; omega, ?_, ?_, by simpa using hlen⟩ (by dsimp only; omega)
        · dsimp only
          rw [he, hst, List.take_add_one, List.take_set_of_le (Nat.le_refl _), List.getElem?_set_self hko]
          simp at h8
          simp [Cel.fix, h8]
        · dsimp only
          rw [List.drop_set_of_lt (by omega)]
          have := congrArg (List.drop 1) hd
          simpa [List.drop_drop] using this
      · simp -dsimp (disch := first | omega | (simp only [go_sem, seval]; first | done | omega)) only [go_sem, seval]
        refine hn (k + 1, out) _ ⟨hc2', ho2, by dsimp only; omega, ?_, ?_, hlen⟩ (by dsimp only; omega)
        · dsimp only
          rw [he, hst, List.take_add_one, hout]
          simp at h8
          simp [Cel.fix, h8]
        · have := congrArg (List.drop 1) hd
          simpa [List.drop_drop] using this
  · have hk' : k = l.length := by omega
    subst hk'
    refine hK _ _ ⟨?_, hc⟩
    rw [he]
    simpa [mend, List.take_of_length_le (Nat.le_of_eq hlen)] using ho
end Go.Proofs.Ytjfembffjjijaaa
namespace Go.Proofs.Ytjfembffjjijaaa
open Lyc Go
structure Rw where
  a : Option Addr
  cap : Nat
  cs : List Cel
def Rw.f (r : Rw) : List Value := [.slice r.a r.cs.length r.cap]
def Rw.val (r : Rw) : Value := .slice r.a r.cs.length r.cap
theorem Rw.len (r : Rw) : r.f.length = 1 := rfl
theorem Rw.ok (r : Rw) : okCells r.f = true := rfl
structure Hs where
  room : Nat
  first : Nat
  a : Option Addr
  cap : Nat
  all : List Rw
def Hs.v (H : Hs) : Value := .slice H.a H.all.length H.cap
def rot {α : Type} (n : Nat) (l : List α) : List α := l.drop n ++ l.take n
def Hs.list (H : Hs) : List (List Cel) := (rot H.first H.all).map Rw.cs
def Hs.blk (H : Hs) : List Nat := H.v.ownBlock.toList
theorem rot_len {α : Type} (n : Nat) (l : List α) : (rot n l).length = l.length := by
  unfold rot; simp; omega
theorem Hs.list_len (H : Hs) : H.list.length = H.all.length := by simp [Hs.list, rot_len]
theorem rot_get {α : Type} {n : Nat} {l : List α} (hn : n < l.length) (i : Nat) (hi : i < l.length) : (rot n l)[i]? = l[(n + i) % l.length]? := by
  unfold rot
  by_cases h : n + i < l.length
  · rw [Nat.mod_eq_of_lt h, List.getElem?_append_left (by simp; omega), List.getElem?_drop]
  · rw [List.getElem?_append_right (by simp; omega), List.getElem?_take, if_pos (by simp; omega)]
    congr 1
    simp
    rw [Nat.mod_eq_sub_mod (by omega), Nat.mod_eq_of_lt (by omega)]
    omega
theorem rot_set {α : Type} {n : Nat} {l : List α} (hn : n < l.length) (x : α) : rot ((n + 1) % l.length) (l.set n x) = (rot n l).tail ++ [x] := by
  have hd : l.drop n = l[n] :: l.drop (n + 1) := List.drop_eq_getElem_cons hn
  have ht : (rot n l).tail = l.drop (n + 1) ++ l.take n := by unfold rot; rw [hd]; rfl
  rw [ht]
  unfold rot
  by_cases h : n + 1 < l.length
  · rw [Nat.mod_eq_of_lt h, List.drop_set_of_lt (by omega), List.take_add_one, List.take_set_of_le (Nat.le_refl _), List.getElem?_set_self hn]
    simp
  · have : n + 1 = l.length := by omega
    rw [this, Nat.mod_self, List.drop_eq_nil_of_le (Nat.le_refl _)]
    simp only [List.drop_zero, List.take_zero, List.append_nil, List.nil_append]
    have e : l = l.take n ++ [l[n]] := by
      have := List.take_append_drop n l
      rw [hd, List.drop_eq_nil_of_le (by omega : l.length ≤ n + 1)] at this
      exact this.symm
    conv => lhs; rw [e]
    rw [List.set_append_right _ _ (by simp; omega)]
    have h0 : n - (l.take n).length = 0 := by simp; omega
    rw [h0]; simp
def pushed (room : Nat) (l : List (List Cel)) (x : List Cel) : List (List Cel) := if room = 0 then l else if l.length < room then l ++ [x] else l.tail ++ [x]
theorem tmod_nat (a b : Nat) (x : Int) (hx : x = a) : x.tmod b = ((a % b : Nat) : Int) := by subst hx; rfl
def pushAll (room : Nat) (l : List (List Cel)) (xs : List (List Cel)) : List (List Cel) := xs.foldl (fun l x => pushed room l (mend x)) l
end Go.Proofs.Ytjfembffjjijaaa
namespace Go.Proofs.Ytjfembffjjijaaa
open Lyc Go
set_option maxRecDepth 100000
def grid_At (p0 p1 p2 : Value) (K : Value → World → Prop) : World → Prop :=
  xB 48 p0 fun t3 =>
  xA 39 fun t6 =>
  Join1 (fun k1 =>
  xL 48 t3 fun t7 =>
  xC 32 [.const t7] [48] 4 fun t8 =>
  xN 4 t8 fun t9 =>
  xW t9
  (k1 (.bool true)) <|
  xO .lss 3 p2 (.int .i64 0) fun t12 =>
  xW t12
  (k1 (.bool true)) <|
  xF 48 t3 1 fun t16 =>
  xL 3 t16 fun t17 =>
  xO .geq 3 p2 t17 fun t18 =>
  xW t18
  (k1 (.bool true)) <|
  xO .lss 3 p1 (.int .i64 0) fun t22 =>
  xW t22
  (k1 (.bool true)) <|
  xF 48 t3 0 fun t26 =>
  xL 3 t26 fun t27 =>
  xO .geq 3 p1 t27 fun t28 =>
  k1 t28) fun t29 =>
  xW t29
  (OpX Try.prog (.build 39 #[]) 39 fun t30 =>
  xS 39 t6 t30 <|
  xD 39 t6 fun t6_1 =>
  K t6_1) <|
  xF 48 t3 2 fun t31 =>
  xL 45 t31 fun t32 =>
  xF 48 t3 0 fun t34 =>
  xL 3 t34 fun t35 =>
  xO .mul 3 p2 t35 fun t36 =>
  xO .add 3 t36 p1 fun t38 =>
  xI 45 t32 t38 fun t39 =>
  xL 39 t39 fun t40 =>
  xS 39 t6 t40 <|
  xD 39 t6 fun t6_2 =>
  K t6_2
theorem grid_At_link (p0 p1 p2 : Value) : Lk 16 #[p0, p1, p2] (grid_At p0 p1 p2) := lk [p0, p1, p2] [(4, [29])] Try.func16 (by kernel_rfl) fun _ _ => by kernel_rfl
theorem grid_At_b : Bodied Try.prog 16 := bd Try.func16 (by kernel_rfl)
def grid_Lines (p0 : Value) (K : Value → World → Prop) : World → Prop :=
  xB 48 p0 fun t1 =>
  xL 48 t1 fun t6 =>
  xC 32 [.const t6] [48] 4 fun t7 =>
  xN 4 t7 fun t8 =>
  xW t8
  (K (.slice none 0 0)) <|
  xA 56 fun t3 =>
  xL 48 t1 fun t9 =>
  xF 48 t1 1 fun t10 =>
  xL 3 t10 fun t11 =>
  xC 41 [.const t9, .const (.int .i64 0), .const t11] [48, 3, 3] 78 fun t12 =>
  RngX Try.prog t12 2 (fun vs1 bg1 kn1 _ _ =>
  bg1 <|
  DrewW <|
  qL 56 t3 fun t15 =>
  xC 42 [.const (nthV vs1 1)] [45] 9 fun t17 =>
  xT (qZ 56 t3 t15) <|
  OpX Try.prog (.buildSlice 56 1 #[(0, .const t17)]) 56 fun t18 =>
  xT (qZ 56 t3 t15) <|
  OpX Try.prog (.call { callee := .builtin .append, args := #[.const t15, .const t18], argTypes := #[56, 56] }) 56 fun t19 =>
  xS 56 t3 t19 <|
  kn1)
  (fun r1 =>
  xL 56 t3 fun t20 =>
  closeV (dcons r1 (.tuple #[])) <|
  K t20)
  (fun _ _ => False)
  []
theorem grid_Lines_link (p0 : Value) : Lk 22 #[p0] (grid_Lines p0) := lk [p0] [] Try.func22 (by kernel_rfl) fun _ _ => by kernel_rfl
theorem grid_Lines_b : Bodied Try.prog 22 := bd Try.func22 (by kernel_rfl)
def grid_New (p0 p1 : Value) (K : Value → World → Prop) : World → Prop :=
  xA 48 fun t4 =>
  xC 43 [.const p0, .const p1] [3, 3] 4 fun t7 =>
  xN 4 t7 fun t8 =>
  xW t8
  (OpX Try.prog (.build 48 #[]) 48 fun t9 =>
  xS 48 t4 t9 <|
  xD 48 t4 fun t4_1 =>
  K t4_1) <|
  xC 35 [] [] 39 fun t12 =>
  xC 44 [.const p0, .const p1, .const t12] [3, 3, 39] 48 fun t13 =>
  xS 48 t4 t13 <|
  xD 48 t4 fun t4_2 =>
  K t4_2
theorem grid_New_link (p0 p1 : Value) : Lk 23 #[p0, p1] (grid_New p0 p1) := lk [p0, p1] [] Try.func23 (by kernel_rfl) fun _ _ => by kernel_rfl
theorem grid_New_b : Bodied Try.prog 23 := bd Try.func23 (by kernel_rfl)
def grid_Check (p0 : Value) (K : Value → World → Prop) : World → Prop :=
  xB 48 p0 fun t1 =>
  xA 4 fun t2 =>
  Join1 (fun k1 =>
  xF 48 t1 0 fun t5 =>
  xL 3 t5 fun t6 =>
  xF 48 t1 1 fun t7 =>
  xL 3 t7 fun t8 =>
  xC 43 [.const t6, .const t8] [3, 3] 4 fun t9 =>
  xN 4 t9 fun t10 =>
  xW t10
  (k1 (.bool true)) <|
  xF 48 t1 2 fun t12 =>
  xL 45 t12 fun t13 =>
  xU t13 45 fun t14 =>
  xF 48 t1 0 fun t15 =>
  xL 3 t15 fun t16 =>
  xF 48 t1 1 fun t17 =>
  xL 3 t17 fun t18 =>
  xO .mul 3 t16 t18 fun t19 =>
  xO .neq 3 t14 t19 fun t20 =>
  k1 t20) fun t21 =>
  xW t21
  (xS 4 t2 (.bool false) <|
  xD 4 t2 fun t2_1 =>
  K t2_1) <|
  xL 48 t1 fun t22 =>
  xF 48 t1 1 fun t23 =>
  xL 3 t23 fun t24 =>
  xC 41 [.const t22, .const (.int .i64 0), .const t24] [48, 3, 3] 78 fun t25 =>
  RngX Try.prog t25 2 (fun vs2 bg2 kn2 kr2 _ =>
  bg2 <|
  xC 45 [.const (nthV vs2 1)] [45] 4 fun t29 =>
  xN 4 t29 fun t30 =>
  xW t30
  (xS 4 t2 (.bool false) <|
  kr2) <|
  kn2)
  (fun r2 =>
  xS 4 t2 (.bool true) <|
  closeV (dcons r2 (.tuple #[])) <|
  xD 4 t2 fun t2_2 =>
  K t2_2)
  (fun r2 =>
  closeV (dcons r2 (.tuple #[])) <|
  xD 4 t2 fun t2_3 =>
  K t2_3)
  []
theorem grid_Check_link (p0 : Value) : Lk 24 #[p0] (grid_Check p0) := lk [p0] [(4, [21])] Try.func24 (by kernel_rfl) fun _ _ => by kernel_rfl
theorem grid_Check_b : Bodied Try.prog 24 := bd Try.func24 (by kernel_rfl)
def grid_whole (p0 : Value) (K : Value → World → Prop) : World → Prop :=
  xB 48 p0 fun t1 =>
  DrewW <|
  Join1 (fun k1 =>
  qF 48 t1 0 fun t3 =>
  qL 3 t3 fun t4 =>
  qP .geq 3 t4 (.int .i64 1) fun t5 =>
  xW t5
  (qF 48 t1 1 fun t7 =>
  qL 3 t7 fun t8 =>
  qP .geq 3 t8 (.int .i64 1) fun t9 =>
  xW t9
  (qF 48 t1 2 fun t12 =>
  qL 45 t12 fun t13 =>
  xR (.call { callee := .builtin .len, args := #[.const t13], argTypes := #[45] }) 3 fun t14 =>
  qF 48 t1 0 fun t15 =>
  qL 3 t15 fun t16 =>
  qP .quo 3 t14 t16 fun t17 =>
  qF 48 t1 1 fun t18 =>
  qL 3 t18 fun t19 =>
  qP .geq 3 t17 t19 fun t20 =>
  k1 t20) <|
  k1 (.bool false)) <|
  k1 (.bool false)) fun t2 =>
  K t2
theorem grid_whole_link (p0 : Value) : Lk 32 #[p0] (grid_whole p0) := lk [p0] [(3, [2])] Try.func32 (by kernel_rfl) fun _ _ => by kernel_rfl
theorem grid_whole_b : Bodied Try.prog 32 := bd Try.func32 (by kernel_rfl)
def grid_Resize (p0 p1 p2 p3 : Value) (K : Value → World → Prop) : World → Prop :=
  xB 48 p0 fun t4 =>
  xB 39 p3 fun t7 =>
  xA 48 fun t8 =>
  Join1 (fun k1 =>
  xL 48 t4 fun t9 =>
  xC 24 [.const t9] [48] 4 fun t10 =>
  xN 4 t10 fun t11 =>
  xW t11
  (k1 (.bool true)) <|
  xL 39 t7 fun t13 =>
  xC 60 [.const t13] [39] 4 fun t14 =>
  xN 4 t14 fun t15 =>
  xW t15
  (k1 (.bool true)) <|
  xC 43 [.const p1, .const p2] [3, 3] 4 fun t20 =>
  xN 4 t20 fun t21 =>
  k1 t21) fun t22 =>
  xW t22
  (xL 48 t4 fun t23 =>
  xS 48 t8 t23 <|
  xD 48 t8 fun t8_1 =>
  K t8_1) <|
  DrewW <|
  Join0 (fun k2 =>
  qL 39 t7 fun t26 =>
  qF 48 t4 1 fun t29 =>
  qL 3 t29 fun t30 =>
  xP (.call { callee := .builtin .min, args := #[.const p2, .const t30], argTypes := #[3, 3] }) 3 fun t31 =>
  xT (xC 44 [.const p1, .const p2, .const t26] [3, 3, 39] 48 fun t27 =>
  xT (qZ 3 t29 t30) <|
  OpX Try.prog (.makeFunc (.func 62) #[] #[.const t4]) 93 fun t32 =>
  xT (qZ 3 t29 t30) <|
  xC 61 [.const t27, .const (.int .i64 0), .const t31, .const t32] [48, 3, 3, 93] 48 fun t33 =>
  xS 48 t8 t33 <|
  k2) <|
  OpX Try.prog (.makeFunc (.func 62) #[] #[.const t4]) 93 fun t32_1 =>
  xT (qZ 3 t29 t30) <|
  xT (qZ 39 t7 t26) <|
  xC 44 [.const p1, .const p2, .const t26] [3, 3, 39] 48 fun t27_1 =>
  xT (qZ 3 t29 t30) <|
  xC 61 [.const t27_1, .const (.int .i64 0), .const t31, .const t32_1] [48, 3, 3, 93] 48 fun t33_1 =>
  xS 48 t8 t33_1 <|
  k2) <|
  xD 48 t8 fun t8_2 =>
  K t8_2
theorem grid_Resize_link (p0 p1 p2 p3 : Value) : Lk 34 #[p0, p1, p2, p3] (grid_Resize p0 p1 p2 p3) := lk [p0, p1, p2, p3] [(4, [22]), (11, [])] Try.func34 (by kernel_rfl) fun _ _ => by kernel_rfl
theorem grid_Resize_b : Bodied Try.prog 34 := bd Try.func34 (by kernel_rfl)
def grid_rows (p0 p1 p2 : Value) (K : Value → World → Prop) : World → Prop :=
  xB 48 p0 fun t3 =>
  xB 3 p1 fun t4 =>
  xB 3 p2 fun t5 =>
  OpX Try.prog (.makeFunc (.func 64) #[] #[.const t4, .const t5, .const t3]) 77 fun t7 =>
  K t7
theorem grid_rows_link (p0 p1 p2 : Value) : Lk 41 #[p0, p1, p2] (grid_rows p0 p1 p2) := lk [p0, p1, p2] [] Try.func41 (by kernel_rfl) fun _ _ => by kernel_rfl
theorem grid_rows_b : Bodied Try.prog 41 := bd Try.func41 (by kernel_rfl)
def grid_fits (p0 p1 : Value) (K : Value → World → Prop) : World → Prop :=
  Join1 (fun k1 =>
  xO .geq 3 p0 (.int .i64 1) fun t6 =>
  xW t6
  (xO .leq 3 p0 (.int .i64 200) fun t9 =>
  xW t9
  (xO .geq 3 p1 (.int .i64 1) fun t13 =>
  xW t13
  (xO .leq 3 p1 (.int .i64 60) fun t17 =>
  k1 t17) <|
  k1 (.bool false)) <|
  k1 (.bool false)) <|
  k1 (.bool false)) fun t4 =>
  K t4
theorem grid_fits_link (p0 p1 : Value) : Lk 43 #[p0, p1] (grid_fits p0 p1) := lk [p0, p1] [(3, [4])] Try.func43 (by kernel_rfl) fun _ _ => by kernel_rfl
theorem grid_fits_b : Bodied Try.prog 43 := bd Try.func43 (by kernel_rfl)
def grid_filled (p0 p1 p2 : Value) (K : Value → World → Prop) : World → Prop :=
  xB 39 p2 fun t5 =>
  xA 48 fun t6 =>
  xL 39 t5 fun t9 =>
  OpX Try.prog (.buildSlice 45 1 #[(0, .const t9)]) 45 fun t10 =>
  xO .mul 3 p0 p1 fun t13 =>
  xC 67 [.const t10, .const t13] [45, 3] 45 fun t14 =>
  OpX Try.prog (.build 48 #[(0, .const p0), (1, .const p1), (2, .const t14)]) 48 fun t15 =>
  xS 48 t6 t15 <|
  xD 48 t6 fun t6_1 =>
  K t6_1
theorem grid_filled_link (p0 p1 p2 : Value) : Lk 44 #[p0, p1, p2] (grid_filled p0 p1 p2) := lk [p0, p1, p2] [] Try.func44 (by kernel_rfl) fun _ _ => by kernel_rfl
theorem grid_filled_b : Bodied Try.prog 44 := bd Try.func44 (by kernel_rfl)
def grid_Put (p0 p1 p2 p3 : Value) (K : Value → World → Prop) : World → Prop :=
  xB 48 p0 fun t4 =>
  xB 3 p1 fun t5 =>
  xB 45 p3 fun t7 =>
  xA 48 fun t8 =>
  xL 48 t4 fun t13 =>
  xC 24 [.const t13] [48] 4 fun t14 =>
  xN 4 t14 fun t15 =>
  xW t15
  (xL 48 t4 fun t16 =>
  xS 48 t8 t16 <|
  xD 48 t8 fun t8_1 =>
  K t8_1) <|
  xF 48 t4 1 fun t19 =>
  xL 3 t19 fun t20 =>
  xC 71 [.const p2, .const (.int .i64 1), .const t20] [3, 3, 3] 26 fun t21 =>
  xE t21 0 3 fun t22 =>
  xE t21 1 3 fun t23 =>
  xL 3 t5 fun t25 =>
  xL 45 t7 fun t26 =>
  xU t26 45 fun t27 =>
  xF 48 t4 0 fun t28 =>
  xL 3 t28 fun t29 =>
  xC 71 [.const t25, .const t27, .const t29] [3, 3, 3] 26 fun t30 =>
  xE t30 0 3 fun t31 =>
  xE t30 1 3 fun t32 =>
  xA 3 fun t11 =>
  xA 3 fun t12 =>
  xS 3 t11 t31 <|
  xS 3 t12 t32 <|
  xL 48 t4 fun t33 =>
  OpX Try.prog (.makeFunc (.func 72) #[] #[.const t11, .const t12, .const t7, .const t5]) 93 fun t36 =>
  xC 61 [.const t33, .const t22, .const t23, .const t36] [48, 3, 3, 93] 48 fun t37 =>
  xS 48 t8 t37 <|
  xD 48 t8 fun t8_2 =>
  K t8_2
theorem grid_Put_link (p0 p1 p2 p3 : Value) : Lk 50 #[p0, p1, p2, p3] (grid_Put p0 p1 p2 p3) := lk [p0, p1, p2, p3] [] Try.func50 (by kernel_rfl) fun _ _ => by kernel_rfl
theorem grid_Put_b : Bodied Try.prog 50 := bd Try.func50 (by kernel_rfl)
def grid_usual (p0 : Value) (K : Value → World → Prop) : World → Prop :=
  xB 39 p0 fun t1 =>
  Join1 (fun k1 =>
  xL 39 t1 fun t3 =>
  xC 65 [.const t3] [39] 4 fun t4 =>
  xW t4
  (xF 39 t1 3 fun t6 =>
  xL 5 t6 fun t7 =>
  xO .and 5 t7 (.int .u8 192) fun t8 =>
  xO .eql 5 t8 (.int .u8 0) fun t9 =>
  k1 t9) <|
  k1 (.bool false)) fun t2 =>
  K t2
theorem grid_usual_link (p0 : Value) : Lk 60 #[p0] (grid_usual p0) := lk [p0] [(3, [2])] Try.func60 (by kernel_rfl) fun _ _ => by kernel_rfl
theorem grid_usual_b : Bodied Try.prog 60 := bd Try.func60 (by kernel_rfl)
def grid_change (p0 p1 p2 p3 : Value) (K : Value → World → Prop) : World → Prop :=
  xB 48 p0 fun t4 =>
  xB 93 p3 fun t7 =>
  xA 48 fun t8 =>
  xF 48 t4 2 fun t11 =>
  xL 45 t11 fun t12 =>
  xC 33 [.const t12] [45] 45 fun t13 =>
  xF 48 t4 2 fun t14 =>
  xS 45 t14 t13 <|
  xL 48 t4 fun t15 =>
  xC 41 [.const t15, .const p1, .const p2] [48, 3, 3] 78 fun t18 =>
  RngX Try.prog t18 2 (fun vs1 bg1 kn1 _ _ =>
  bg1 <|
  xL 93 t7 fun t21 =>
  OpX Try.prog (.call { callee := .value (.const t21), args := #[.const (nthV vs1 0), .const (nthV vs1 1)], argTypes := #[3, 45] }) 0 fun _ =>
  xC 85 [.const (nthV vs1 1)] [45] 45 fun t27 =>
  OpX Try.prog (.call { callee := .builtin .copy, args := #[.const (nthV vs1 1), .const t27], argTypes := #[45, 45] }) 3 fun _ =>
  kn1)
  (fun r1 =>
  xL 48 t4 fun t29 =>
  xS 48 t8 t29 <|
  closeV (dcons r1 (.tuple #[])) <|
  xD 48 t8 fun t8_1 =>
  K t8_1)
  (fun _ _ => False)
  []
theorem grid_change_link (p0 p1 p2 p3 : Value) : Lk 61 #[p0, p1, p2, p3] (grid_change p0 p1 p2 p3) := lk [p0, p1, p2, p3] [] Try.func61 (by kernel_rfl) fun _ _ => by kernel_rfl
theorem grid_change_b : Bodied Try.prog 61 := bd Try.func61 (by kernel_rfl)
def grid_Resize_1 (p0 p1 p2 : Value) (K : Value → World → Prop) : World → Prop :=
  xL 48 p2 fun t6 =>
  xC 63 [.const t6, .const p0] [48, 3] 45 fun t8 =>
  OpX Try.prog (.call { callee := .builtin .copy, args := #[.const p1, .const t8], argTypes := #[45, 45] }) 3 fun _ =>
  K (.tuple #[])
theorem grid_Resize_1_link (p0 p1 p2 : Value) : Lk 62 #[p0, p1, p2] (grid_Resize_1 p0 p1 p2) := lk [p0, p1, p2] [] Try.func62 (by kernel_rfl) fun _ _ => by kernel_rfl
theorem grid_Resize_1_b : Bodied Try.prog 62 := bd Try.func62 (by kernel_rfl)
def grid_cut (p0 p1 : Value) (K : Value → World → Prop) : World → Prop :=
  xB 48 p0 fun t2 =>
  xF 48 t2 2 fun t5 =>
  xL 45 t5 fun t6 =>
  xF 48 t2 0 fun t8 =>
  xL 3 t8 fun t9 =>
  xO .mul 3 p1 t9 fun t10 =>
  xO .add 3 p1 (.int .i64 1) fun t12 =>
  xF 48 t2 0 fun t13 =>
  xL 3 t13 fun t14 =>
  xO .mul 3 t12 t14 fun t15 =>
  xO .add 3 p1 (.int .i64 1) fun t17 =>
  xF 48 t2 0 fun t18 =>
  xL 3 t18 fun t19 =>
  xO .mul 3 t17 t19 fun t20 =>
  OpX Try.prog (.slice 45 (.const t6) (some (.const t10)) (some (.const t15)) (some (.const t20))) 45 fun t21 =>
  K t21
theorem grid_cut_link (p0 p1 : Value) : Lk 63 #[p0, p1] (grid_cut p0 p1) := lk [p0, p1] [] Try.func63 (by kernel_rfl) fun _ _ => by kernel_rfl
theorem grid_cut_b : Bodied Try.prog 63 := bd Try.func63 (by kernel_rfl)
def grid_rows_1 (p0 p1 p2 p3 : Value) (K : Value → World → Prop) : World → Prop :=
  xL 3 p1 fun t6 =>
  OpX Try.prog (.call { callee := .builtin .max, args := #[.const t6, .const (.int .i64 0)], argTypes := #[3, 3] }) 3 fun t7 =>
  Loop1 t7 fun t5 next1 =>
  xL 3 p2 fun t9 =>
  xF 48 p3 1 fun t10 =>
  xL 3 t10 fun t11 =>
  OpX Try.prog (.call { callee := .builtin .min, args := #[.const t9, .const t11], argTypes := #[3, 3] }) 3 fun t12 =>
  xO .lss 3 t5 t12 fun t13 =>
  xW t13
  (xL 48 p3 fun t18 =>
  xC 63 [.const t18, .const t5] [48, 3] 45 fun t20 =>
  OpX Try.prog (.call { callee := .value (.const p0), args := #[.const t5, .const t20], argTypes := #[3, 45] }) 4 fun t21 =>
  xN 4 t21 fun t22 =>
  xW t22
  (K (.tuple #[])) <|
  xO .add 3 t5 (.int .i64 1) fun t15 =>
  next1 t15) <|
  K (.tuple #[])
theorem grid_rows_1_link (p0 p1 p2 p3 : Value) : Lk 64 #[p0, p1, p2, p3] (grid_rows_1 p0 p1 p2 p3) := lk [p0, p1, p2, p3] [(3, [5])] Try.func64 (by kernel_rfl) fun _ _ => by kernel_rfl
theorem grid_rows_1_b : Bodied Try.prog 64 := bd Try.func64 (by kernel_rfl)
def grid_span (p0 p1 p2 : Value) (K : Value → World → Prop) : World → Prop :=
  Join1 (fun k1 =>
  xO .leq 3 p1 (.int .i64 0) fun t9 =>
  xW t9
  (k1 (.bool true)) <|
  xO .geq 3 p0 p2 fun t13 =>
  xW t13
  (k1 (.bool true)) <|
  xO .lss 3 p0 (.int .i64 0) fun t17 =>
  xW t17
  (xO .add 3 p0 p1 fun t21 =>
  xO .leq 3 t21 (.int .i64 0) fun t22 =>
  k1 t22) <|
  k1 (.bool false)) fun t24 =>
  xW t24
  (K (.tuple #[(.int .i64 0), (.int .i64 0)])) <|
  xO .lss 3 p0 (.int .i64 0) fun t26 =>
  xW t26
  (xO .add 3 p0 p1 fun t29 =>
  OpX Try.prog (.call { callee := .builtin .min, args := #[.const t29, .const p2], argTypes := #[3, 3] }) 3 fun t31 =>
  K (.tuple #[(.int .i64 0), t31])) <|
  xO .sub 3 p2 p0 fun t37 =>
  OpX Try.prog (.call { callee := .builtin .min, args := #[.const p1, .const t37], argTypes := #[3, 3] }) 3 fun t38 =>
  xO .add 3 p0 t38 fun t39 =>
  K (.tuple #[p0, t39])
theorem grid_span_link (p0 p1 p2 : Value) : Lk 71 #[p0, p1, p2] (grid_span p0 p1 p2) := lk [p0, p1, p2] [(4, [24])] Try.func71 (by kernel_rfl) fun _ _ => by kernel_rfl
theorem grid_span_b : Bodied Try.prog 71 := bd Try.func71 (by kernel_rfl)
def grid_Put_1 (p0 p1 p2 p3 p4 p5 : Value) (K : Value → World → Prop) : World → Prop :=
  xL 3 p2 fun t9 =>
  Loop1 t9 fun t8 next1 =>
  xL 3 p3 fun t11 =>
  xO .lss 3 t8 t11 fun t12 =>
  xW t12
  (xL 45 p4 fun t17 =>
  xL 3 p5 fun t19 =>
  xO .sub 3 t8 t19 fun t20 =>
  xI 45 t17 t20 fun t21 =>
  xL 39 t21 fun t22 =>
  xI 45 p1 t8 fun t23 =>
  xS 39 t23 t22 <|
  xO .add 3 t8 (.int .i64 1) fun t14 =>
  next1 t14) <|
  K (.tuple #[])
theorem grid_Put_1_link (p0 p1 p2 p3 p4 p5 : Value) : Lk 72 #[p0, p1, p2, p3, p4, p5] (grid_Put_1 p0 p1 p2 p3 p4 p5) := lk [p0, p1, p2, p3, p4, p5] [(3, [8])] Try.func72 (by kernel_rfl) fun _ _ => by kernel_rfl
theorem grid_Put_1_b : Bodied Try.prog 72 := bd Try.func72 (by kernel_rfl)
def grid_Shift (p0 p1 p2 p3 p4 : Value) (K : Value → World → Prop) : World → Prop :=
  xB 48 p0 fun t5 =>
  xB 3 p1 fun t6 =>
  xB 3 p3 fun t8 =>
  xB 39 p4 fun t9 =>
  xA 48 fun t10 =>
  Join1 (fun k1 =>
  xL 48 t5 fun t13 =>
  xC 24 [.const t13] [48] 4 fun t14 =>
  xN 4 t14 fun t15 =>
  xW t15
  (k1 (.bool true)) <|
  xL 39 t9 fun t17 =>
  xC 60 [.const t17] [39] 4 fun t18 =>
  xN 4 t18 fun t19 =>
  k1 t19) fun t20 =>
  xW t20
  (xL 48 t5 fun t21 =>
  xS 48 t10 t21 <|
  xD 48 t10 fun t10_1 =>
  K t10_1) <|
  DrewW <|
  qL 3 t6 fun t22 =>
  xP (.call { callee := .builtin .max, args := #[.const t22, .const (.int .i64 0)], argTypes := #[3, 3] }) 3 fun t23 =>
  qL 3 t8 fun t24 =>
  qF 48 t5 0 fun t25 =>
  qL 3 t25 fun t26 =>
  xP (.unOp .neg 3 (.const t26)) 3 fun t27 =>
  xP (.call { callee := .builtin .max, args := #[.const t24, .const t27], argTypes := #[3, 3] }) 3 fun t28 =>
  qF 48 t5 0 fun t29 =>
  qL 3 t29 fun t30 =>
  xP (.call { callee := .builtin .min, args := #[.const t28, .const t30], argTypes := #[3, 3] }) 3 fun t31 =>
  xS 3 t6 t23 <|
  xT (qZ 3 t29 t30) <|
  xT (qZ 3 t25 t26) <|
  xT (qZ 3 t8 t24) <|
  xS 3 t8 t31 <|
  xF 48 t5 1 fun t34 =>
  xL 3 t34 fun t35 =>
  xC 71 [.const p2, .const (.int .i64 1), .const t35] [3, 3, 3] 26 fun t36 =>
  xE t36 0 3 fun t37 =>
  xE t36 1 3 fun t38 =>
  xL 48 t5 fun t39 =>
  OpX Try.prog (.makeFunc (.func 97) #[] #[.const t5, .const t6, .const t9, .const t8]) 93 fun t42 =>
  xC 61 [.const t39, .const t37, .const t38, .const t42] [48, 3, 3, 93] 48 fun t43 =>
  xS 48 t10 t43 <|
  xD 48 t10 fun t10_2 =>
  K t10_2
theorem grid_Shift_link (p0 p1 p2 p3 p4 : Value) : Lk 80 #[p0, p1, p2, p3, p4] (grid_Shift p0 p1 p2 p3 p4) := lk [p0, p1, p2, p3, p4] [(4, [20])] Try.func80 (by kernel_rfl) fun _ _ => by kernel_rfl
theorem grid_Shift_b : Bodied Try.prog 80 := bd Try.func80 (by kernel_rfl)
def grid_Row (p0 p1 : Value) (K : Value → World → Prop) : World → Prop :=
  xB 48 p0 fun t2 =>
  Join1 (fun k1 =>
  xL 48 t2 fun t5 =>
  xC 32 [.const t5] [48] 4 fun t6 =>
  xN 4 t6 fun t7 =>
  xW t7
  (k1 (.bool true)) <|
  xO .lss 3 p1 (.int .i64 0) fun t10 =>
  xW t10
  (k1 (.bool true)) <|
  xF 48 t2 1 fun t14 =>
  xL 3 t14 fun t15 =>
  xO .geq 3 p1 t15 fun t16 =>
  k1 t16) fun t17 =>
  xW t17
  (K (.slice none 0 0)) <|
  xL 48 t2 fun t18 =>
  xC 63 [.const t18, .const p1] [48, 3] 45 fun t20 =>
  xC 33 [.const t20] [45] 45 fun t21 =>
  K t21
theorem grid_Row_link (p0 p1 : Value) : Lk 89 #[p0, p1] (grid_Row p0 p1) := lk [p0, p1] [(4, [17])] Try.func89 (by kernel_rfl) fun _ _ => by kernel_rfl
theorem grid_Row_b : Bodied Try.prog 89 := bd Try.func89 (by kernel_rfl)
def grid_Scroll (p0 p1 p2 p3 p4 : Value) (K : Value → World → Prop) : World → Prop :=
  xB 48 p0 fun t5 =>
  xB 3 p1 fun t6 =>
  xB 3 p2 fun t7 =>
  xB 3 p3 fun t8 =>
  xB 39 p4 fun t9 =>
  xA 48 fun t10 =>
  Join1 (fun k1 =>
  xL 48 t5 fun t11 =>
  xC 24 [.const t11] [48] 4 fun t12 =>
  xN 4 t12 fun t13 =>
  xW t13
  (k1 (.bool true)) <|
  xL 39 t9 fun t15 =>
  xC 60 [.const t15] [39] 4 fun t16 =>
  xN 4 t16 fun t17 =>
  k1 t17) fun t18 =>
  xW t18
  (xL 48 t5 fun t19 =>
  xS 48 t10 t19 <|
  xD 48 t10 fun t10_1 =>
  K t10_1) <|
  DrewW <|
  qL 3 t6 fun t20 =>
  xP (.call { callee := .builtin .max, args := #[.const t20, .const (.int .i64 0)], argTypes := #[3, 3] }) 3 fun t21 =>
  qF 48 t5 1 fun t22 =>
  qL 3 t22 fun t23 =>
  xP (.call { callee := .builtin .min, args := #[.const t21, .const t23], argTypes := #[3, 3] }) 3 fun t24 =>
  qL 3 t7 fun t25 =>
  xP (.call { callee := .builtin .max, args := #[.const t25, .const (.int .i64 0)], argTypes := #[3, 3] }) 3 fun t26 =>
  qF 48 t5 1 fun t27 =>
  qL 3 t27 fun t28 =>
  xP (.call { callee := .builtin .min, args := #[.const t26, .const t28], argTypes := #[3, 3] }) 3 fun t29 =>
  xS 3 t6 t24 <|
  xT (qZ 3 t27 t28) <|
  xT (qZ 3 t7 t25) <|
  xS 3 t7 t29 <|
  xL 3 t8 fun t30 =>
  xF 48 t5 1 fun t31 =>
  xL 3 t31 fun t32 =>
  OpX Try.prog (.unOp .neg 3 (.const t32)) 3 fun t33 =>
  OpX Try.prog (.call { callee := .builtin .max, args := #[.const t30, .const t33], argTypes := #[3, 3] }) 3 fun t34 =>
  xF 48 t5 1 fun t35 =>
  xL 3 t35 fun t36 =>
  OpX Try.prog (.call { callee := .builtin .min, args := #[.const t34, .const t36], argTypes := #[3, 3] }) 3 fun t37 =>
  xS 3 t8 t37 <|
  xL 48 t5 fun t38 =>
  xL 3 t6 fun t39 =>
  xL 3 t7 fun t40 =>
  OpX Try.prog (.makeFunc (.func 101) #[] #[.const t8, .const t6, .const t7, .const t9, .const t5]) 93 fun t41 =>
  xC 61 [.const t38, .const t39, .const t40, .const t41] [48, 3, 3, 93] 48 fun t42 =>
  xS 48 t10 t42 <|
  xD 48 t10 fun t10_2 =>
  K t10_2
theorem grid_Scroll_link (p0 p1 p2 p3 p4 : Value) : Lk 91 #[p0, p1, p2, p3, p4] (grid_Scroll p0 p1 p2 p3 p4) := lk [p0, p1, p2, p3, p4] [(4, [18])] Try.func91 (by kernel_rfl) fun _ _ => by kernel_rfl
theorem grid_Scroll_b : Bodied Try.prog 91 := bd Try.func91 (by kernel_rfl)
def grid_Fill (p0 p1 p2 : Value) (K : Value → World → Prop) : World → Prop :=
  xB 48 p0 fun t3 =>
  xB 121 p1 fun t4 =>
  xB 39 p2 fun t5 =>
  xA 48 fun t6 =>
  Join1 (fun k1 =>
  xL 48 t3 fun t11 =>
  xC 24 [.const t11] [48] 4 fun t12 =>
  xN 4 t12 fun t13 =>
  xW t13
  (k1 (.bool true)) <|
  xL 39 t5 fun t15 =>
  xC 60 [.const t15] [39] 4 fun t16 =>
  xN 4 t16 fun t17 =>
  k1 t17) fun t18 =>
  xW t18
  (xL 48 t3 fun t19 =>
  xS 48 t6 t19 <|
  xD 48 t6 fun t6_1 =>
  K t6_1) <|
  xF 121 t4 1 fun t21 =>
  xL 3 t21 fun t22 =>
  xF 121 t4 3 fun t23 =>
  xL 3 t23 fun t24 =>
  xF 48 t3 1 fun t25 =>
  xL 3 t25 fun t26 =>
  xC 71 [.const t22, .const t24, .const t26] [3, 3, 3] 26 fun t27 =>
  xE t27 0 3 fun t28 =>
  xE t27 1 3 fun t29 =>
  xF 121 t4 0 fun t31 =>
  xL 3 t31 fun t32 =>
  xF 121 t4 2 fun t33 =>
  xL 3 t33 fun t34 =>
  xF 48 t3 0 fun t35 =>
  xL 3 t35 fun t36 =>
  xC 71 [.const t32, .const t34, .const t36] [3, 3, 3] 26 fun t37 =>
  xE t37 0 3 fun t38 =>
  xE t37 1 3 fun t39 =>
  xA 3 fun t9 =>
  xA 3 fun t10 =>
  xS 3 t9 t38 <|
  xS 3 t10 t39 <|
  xL 48 t3 fun t40 =>
  OpX Try.prog (.makeFunc (.func 106) #[] #[.const t9, .const t10, .const t5]) 93 fun t43 =>
  xC 61 [.const t40, .const t28, .const t29, .const t43] [48, 3, 3, 93] 48 fun t44 =>
  xS 48 t6 t44 <|
  xD 48 t6 fun t6_2 =>
  K t6_2
theorem grid_Fill_link (p0 p1 p2 : Value) : Lk 95 #[p0, p1, p2] (grid_Fill p0 p1 p2) := lk [p0, p1, p2] [(4, [18])] Try.func95 (by kernel_rfl) fun _ _ => by kernel_rfl
theorem grid_Fill_b : Bodied Try.prog 95 := bd Try.func95 (by kernel_rfl)
def grid_Shift_1 (p0 p1 p2 p3 p4 p5 : Value) (K : Value → World → Prop) : World → Prop :=
  xL 48 p2 fun t10 =>
  xC 63 [.const t10, .const p0] [48, 3] 45 fun t12 =>
  xL 3 p3 fun t13 =>
  Loop1 t13 fun t9 next1 =>
  xF 48 p2 0 fun t15 =>
  xL 3 t15 fun t16 =>
  xO .lss 3 t9 t16 fun t17 =>
  xW t17
  (xL 39 p4 fun t22 =>
  xI 45 p1 t9 fun t23 =>
  xS 39 t23 t22 <|
  Join1 (fun k2 =>
  xL 3 p5 fun t25 =>
  xO .sub 3 t9 t25 fun t26 =>
  xL 3 p3 fun t27 =>
  xO .geq 3 t26 t27 fun t28 =>
  xW t28
  (xL 3 p5 fun t31 =>
  xO .sub 3 t9 t31 fun t32 =>
  xF 48 p2 0 fun t33 =>
  xL 3 t33 fun t34 =>
  xO .lss 3 t32 t34 fun t35 =>
  k2 t35) <|
  k2 (.bool false)) fun t36 =>
  xW t36
  (xL 3 p5 fun t41 =>
  xO .sub 3 t9 t41 fun t42 =>
  xI 45 t12 t42 fun t43 =>
  xL 39 t43 fun t44 =>
  xI 45 p1 t9 fun t45 =>
  xS 39 t45 t44 <|
  xO .add 3 t9 (.int .i64 1) fun t19 =>
  next1 t19) <|
  xO .add 3 t9 (.int .i64 1) fun t19_1 =>
  next1 t19_1) <|
  K (.tuple #[])
theorem grid_Shift_1_link (p0 p1 p2 p3 p4 p5 : Value) : Lk 97 #[p0, p1, p2, p3, p4, p5] (grid_Shift_1 p0 p1 p2 p3 p4 p5) := lk [p0, p1, p2, p3, p4, p5] [(5, [9]), (17, [36])] Try.func97 (by kernel_rfl) fun _ _ => by kernel_rfl
theorem grid_Shift_1_b : Bodied Try.prog 97 := bd Try.func97 (by kernel_rfl)
def grid_Scroll_1 (p0 p1 p2 p3 p4 p5 p6 : Value) (K : Value → World → Prop) : World → Prop :=
  Join1 (fun k1 =>
  xL 3 p2 fun t10 =>
  xO .add 3 p0 t10 fun t11 =>
  xL 3 p3 fun t12 =>
  xO .lss 3 t11 t12 fun t13 =>
  xW t13
  (k1 (.bool true)) <|
  xL 3 p2 fun t16 =>
  xO .add 3 p0 t16 fun t17 =>
  xL 3 p4 fun t18 =>
  xO .geq 3 t17 t18 fun t19 =>
  k1 t19) fun t20 =>
  xW t20
  (xL 39 p5 fun t22 =>
  xC 102 [.const p1, .const t22] [45, 39] 0 fun _ =>
  K (.tuple #[])) <|
  xL 48 p6 fun t25 =>
  xL 3 p2 fun t27 =>
  xO .add 3 p0 t27 fun t28 =>
  xC 63 [.const t25, .const t28] [48, 3] 45 fun t29 =>
  OpX Try.prog (.call { callee := .builtin .copy, args := #[.const p1, .const t29], argTypes := #[45, 45] }) 3 fun _ =>
  K (.tuple #[])
theorem grid_Scroll_1_link (p0 p1 p2 p3 p4 p5 p6 : Value) : Lk 101 #[p0, p1, p2, p3, p4, p5, p6] (grid_Scroll_1 p0 p1 p2 p3 p4 p5 p6) := lk [p0, p1, p2, p3, p4, p5, p6] [(2, [20])] Try.func101 (by kernel_rfl) fun _ _ => by kernel_rfl
theorem grid_Scroll_1_b : Bodied Try.prog 101 := bd Try.func101 (by kernel_rfl)
def grid_fill (p0 p1 : Value) (K : Value → World → Prop) : World → Prop :=
  xB 39 p1 fun t3 =>
  xU p0 45 fun t6 =>
  Loop1 (.int .i64 0) fun t7 next1 =>
  xO .lss 3 t7 t6 fun t8 =>
  xW t8
  (xL 39 t3 fun t12 =>
  xI 45 p0 t7 fun t13 =>
  xS 39 t13 t12 <|
  xO .add 3 t7 (.int .i64 1) fun t14 =>
  next1 t14) <|
  K (.tuple #[])
theorem grid_fill_link (p0 p1 : Value) : Lk 102 #[p0, p1] (grid_fill p0 p1) := lk [p0, p1] [(5, [7])] Try.func102 (by kernel_rfl) fun _ _ => by kernel_rfl
theorem grid_fill_b : Bodied Try.prog 102 := bd Try.func102 (by kernel_rfl)
def grid_Fill_1 (p0 p1 p2 p3 p4 : Value) (K : Value → World → Prop) : World → Prop :=
  DrewW <|
  qL 3 p2 fun t8 =>
  qL 3 p3 fun t9 =>
  xP (.slice 45 (.const p1) (some (.const t8)) (some (.const t9)) none) 45 fun t10 =>
  qL 39 p4 fun t11 =>
  xC 102 [.const t10, .const t11] [45, 39] 0 fun _ =>
  K (.tuple #[])
theorem grid_Fill_1_link (p0 p1 p2 p3 p4 : Value) : Lk 106 #[p0, p1, p2, p3, p4] (grid_Fill_1 p0 p1 p2 p3 p4) := lk [p0, p1, p2, p3, p4] [] Try.func106 (by kernel_rfl) fun _ _ => by kernel_rfl
theorem grid_Fill_1_b : Bodied Try.prog 106 := bd Try.func106 (by kernel_rfl)
end Go.Proofs.Ytjfembffjjijaaa
namespace Go.Proofs.Ytjfembffjjijaaa
open Lyc Go
set_option maxRecDepth 100000
def slices_Clone_api_Cell_api_Cell (p0 : Value) (K : Value → World → Prop) : World → Prop :=
  xO .eql 45 p0 (.slice none 0 0) fun t4 =>
  xW t4
  (K (.slice none 0 0)) <|
  OpX Try.prog (.buildSlice 45 0 #[]) 45 fun t5 =>
  OpX Try.prog (.call { callee := .builtin .append, args := #[.const t5, .const p0], argTypes := #[45, 45] }) 45 fun t7 =>
  K t7
theorem slices_Clone_api_Cell_api_Cell_link (p0 : Value) : Lk 33 #[p0] (slices_Clone_api_Cell_api_Cell p0) := lk [p0] [] Try.func33 (by kernel_rfl) fun _ _ => by kernel_rfl
theorem slices_Clone_api_Cell_api_Cell_b : Bodied Try.prog 33 := bd Try.func33 (by kernel_rfl)
def slices_Repeat_api_Cell_api_Cell (p0 p1 : Value) (K : Value → World → Prop) : World → Prop :=
  Join0 (fun k1 =>
  xO .lss 3 p1 (.int .i64 0) fun t10 =>
  xW t10
  (OpX Try.prog (.makeInterface 9 (.const (.string { data := #[99, 97, 110, 110, 111, 116, 32, 98, 101, 32, 110, 101, 103, 97, 116, 105, 118, 101] }))) 20 fun t11 =>
  OpX Try.prog (.panic (.const t11)) 0 fun _ =>
  k1) <|
  k1) <|
  xU p0 45 fun t14 =>
  OpX Try.prog (.convert 3 110 (.const t14)) 110 fun t15 =>
  OpX Try.prog (.convert 3 110 (.const p1)) 110 fun t17 =>
  xC 88 [.const t15, .const t17] [110, 110] 111 fun t18 =>
  xE t18 0 110 fun t19 =>
  xE t18 1 110 fun t20 =>
  Join0 (fun k2 =>
  Join1 (fun k3 =>
  xO .gtr 110 t19 (.int .u64 0) fun t22 =>
  xW t22
  (k3 (.bool true)) <|
  xO .gtr 110 t20 (.int .u64 9223372036854775807) fun t25 =>
  k3 t25) fun t26 =>
  xW t26
  (OpX Try.prog (.makeInterface 9 (.const (.string { data := #[116, 104, 101, 32, 114, 101, 115, 117, 108, 116, 32, 111, 102, 32, 40, 108, 101, 110, 40, 120, 41, 32, 42, 32, 99, 111, 117, 110, 116, 41, 32, 111, 118, 101, 114, 102, 108, 111, 119, 115] }))) 20 fun t27 =>
  OpX Try.prog (.panic (.const t27)) 0 fun _ =>
  k2) <|
  k2) <|
  OpX Try.prog (.convert 110 3 (.const t20)) 3 fun t29 =>
  OpX Try.prog (.makeSlice 45 (.const t29) (.const t29)) 45 fun t30 =>
  OpX Try.prog (.call { callee := .builtin .copy, args := #[.const t30, .const p0], argTypes := #[45, 45] }) 3 fun t33 =>
  Loop1 t33 fun t8 next4 =>
  xU t30 45 fun t36 =>
  xO .lss 3 t8 t36 fun t37 =>
  xW t37
  (DrewW <|
  xP (.slice 45 (.const t30) (some (.const t8)) none none) 45 fun t41 =>
  xP (.slice 45 (.const t30) none (some (.const t8)) none) 45 fun t44 =>
  OpX Try.prog (.call { callee := .builtin .copy, args := #[.const t41, .const t44], argTypes := #[45, 45] }) 3 fun t45 =>
  qP .add 3 t8 t45 fun t46 =>
  next4 t46) <|
  K t30
theorem slices_Repeat_api_Cell_api_Cell_link (p0 p1 : Value) : Lk 67 #[p0, p1] (slices_Repeat_api_Cell_api_Cell p0 p1) := lk [p0, p1] [(2, []), (10, []), (12, [26]), (22, [8])] Try.func67 (by kernel_rfl) fun _ _ => by kernel_rfl
theorem slices_Repeat_api_Cell_api_Cell_b : Bodied Try.prog 67 := bd Try.func67 (by kernel_rfl)
def math_bits_Mul (p0 p1 : Value) (K : Value → World → Prop) : World → Prop :=
  xC 100 [.const p0, .const p1] [125, 125] 126 fun t25 =>
  xE t25 0 125 fun t26 =>
  xE t25 1 125 fun t27 =>
  K (.tuple #[t26, t27])
theorem math_bits_Mul_link (p0 p1 : Value) : Lk 88 #[p0, p1] (math_bits_Mul p0 p1) := lk [p0, p1] [] Try.func88 (by kernel_rfl) fun _ _ => by kernel_rfl
theorem math_bits_Mul_b : Bodied Try.prog 88 := bd Try.func88 (by kernel_rfl)
def math_bits_Mul32 (p0 p1 : Value) (K : Value → World → Prop) : World → Prop :=
  OpX Try.prog (.convert 122 125 (.const p0)) 125 fun t8 =>
  OpX Try.prog (.convert 122 125 (.const p1)) 125 fun t10 =>
  xO .mul 125 t8 t10 fun t11 =>
  xO .shr 125 t11 (.int .u64 32) fun t13 =>
  OpX Try.prog (.convert 125 122 (.const t13)) 122 fun t14 =>
  OpX Try.prog (.convert 125 122 (.const t11)) 122 fun t16 =>
  K (.tuple #[t14, t16])
theorem math_bits_Mul32_link (p0 p1 : Value) : Lk 99 #[p0, p1] (math_bits_Mul32 p0 p1) := lk [p0, p1] [] Try.func99 (by kernel_rfl) fun _ _ => by kernel_rfl
theorem math_bits_Mul32_b : Bodied Try.prog 99 := bd Try.func99 (by kernel_rfl)
def math_bits_Mul64 (p0 p1 : Value) (K : Value → World → Prop) : World → Prop :=
  xO .and 125 p0 (.int .u64 4294967295) fun t15 =>
  xO .shr 125 p0 (.int .u64 32) fun t17 =>
  xO .and 125 p1 (.int .u64 4294967295) fun t19 =>
  xO .shr 125 p1 (.int .u64 32) fun t21 =>
  xO .mul 125 t15 t19 fun t24 =>
  xO .mul 125 t17 t19 fun t27 =>
  xO .shr 125 t24 (.int .u64 32) fun t29 =>
  xO .add 125 t27 t29 fun t30 =>
  xO .and 125 t30 (.int .u64 4294967295) fun t32 =>
  xO .shr 125 t30 (.int .u64 32) fun t34 =>
  xO .mul 125 t15 t21 fun t38 =>
  xO .add 125 t32 t38 fun t39 =>
  xO .mul 125 t17 t21 fun t42 =>
  xO .add 125 t42 t34 fun t44 =>
  xO .shr 125 t39 (.int .u64 32) fun t46 =>
  xO .add 125 t44 t46 fun t47 =>
  xO .mul 125 p0 p1 fun t50 =>
  K (.tuple #[t47, t50])
theorem math_bits_Mul64_link (p0 p1 : Value) : Lk 100 #[p0, p1] (math_bits_Mul64 p0 p1) := lk [p0, p1] [] Try.func100 (by kernel_rfl) fun _ _ => by kernel_rfl
theorem math_bits_Mul64_b : Bodied Try.prog 100 := bd Try.func100 (by kernel_rfl)
end Go.Proofs.Ytjfembffjjijaaa
namespace Lyc
open Go
section
variable {P : Program}
@[go_sem] theorem nthV_zero (v : Value) (l : List Value) : nthV (v :: l) 0 = v := rfl
@[go_sem] theorem nthV_succ (v : Value) (l : List Value) (n : Nat) : nthV (v :: l) (n + 1) = nthV l n := rfl
@[go_sem] theorem nthV_one (v u : Value) (l : List Value) : nthV (v :: u :: l) 1 = u := rfl
theorem close_one (r : Nat) (K : World → Prop) (w : World) : closeV (dcons r (.tuple #[])) K w = (w.heap[r]? = some (.deferred (some [])) ∧ K (setBlk w r (.deferred none))) := by
  show closeA [.int .i64 (r : Int)] K w = _
  simp [closeA]
theorem close_by {r : Nat} {K : World → Prop} {w : World} (h : w.heap[r]? = some (.deferred (some []))) (hk : K (setBlk w r (.deferred none))) : closeV (dcons r (.tuple #[])) K w := by
  rw [close_one]; exact ⟨h, hk⟩
theorem close_two {r s : Nat} {K : World → Prop} {w : World} (hne : r ≠ s) (h : w.heap[r]? = some (.deferred (some []))) (h2 : w.heap[s]? = some (.deferred (some []))) (hk : K (setBlk (setBlk w s (.deferred none)) r (.deferred none))) : closeV (dcons s (dcons r (.tuple #[]))) K w := by
  show closeA [.int .i64 (s : Int), .int .i64 (r : Int)] K w
  simp only [closeA, Int.toNat_natCast]
  refine ⟨h2, ?_, hk⟩
  rw [heap_set_other _ _ _ _ hne]; exact h
theorem Chg.low_drew {F : List Nat} {w w' : World} (h : Chg F w.drew w') : Chg F w w' := ⟨h.os, h.tape, h.output, h.size, h.same⟩
theorem OpX.gen {o : Op} {ty : TypeId} {K : Value → World → Prop} {w : World} (h : ∀ w0, w0 = w → OpX P o ty K w0) : OpX P o ty K w := h w rfl
theorem chg_a1 (w : World) (x : Obj) : Chg [] w (w.alloc x) := (Chg.refl _ _).alloc _
theorem chg_a2 (w : World) (x y : Obj) : Chg [] w ((w.alloc x).alloc y) := (chg_a1 _ _).alloc _
theorem chg_a3 (w : World) (x y z : Obj) : Chg [] w (((w.alloc x).alloc y).alloc z) := (chg_a2 _ _ _).alloc _
theorem chg_a4 (w : World) (x y z u : Obj) : Chg [] w ((((w.alloc x).alloc y).alloc z).alloc u) := (chg_a3 _ _ _ _).alloc _
theorem chg_a5 (w : World) (x y z u v : Obj) : Chg [] w (((((w.alloc x).alloc y).alloc z).alloc u).alloc v) := (chg_a4 _ _ _ _ _).alloc _
theorem chg_a6 (w : World) (x y z u v t : Obj) : Chg [] w ((((((w.alloc x).alloc y).alloc z).alloc u).alloc v).alloc t) := (chg_a5 _ _ _ _ _ _).alloc _
theorem argV_map : ∀ vs : List Value, argV (vs.map Operand.const) = some vs
  | [] => rfl
  | v :: vs => by simp [argV, argV_map vs]
theorem YCall.of {f : FuncId} {us cs vs : List Value} {K : Value → World → Prop} {w : World} (hb : Bodied P f) (h : Calls P f (us ++ vs ++ cs).toArray w (retK K)) : YCall P (.func (.func f) us.toArray cs.toArray) vs K w :=
  fun _ _ => OpX.callV hb (argV_map vs) h
theorem YCall.use {yv : Value} {vs : List Value} {K K' : Value → World → Prop} {w : World} {ats : Array TypeId} {ty : TypeId} (h : YCall P yv vs K w) (hk : ∀ v w', K v w' → K' v w') :
    OpX P (.call { callee := .value (.const yv), args := (vs.map Operand.const).toArray, argTypes := ats }) ty K' w := by
  obtain ⟨h⟩ := h ats ty
  refine ⟨fun ρ hg => ?_⟩
  have := h ρ hg
  revert this
  generalize (execOp ρ _).run P w = r
  intro this
  unfold Upon at this ⊢
  split at this
  · exact hk _ _ this
  · exact hk _ _ this
  · exact Calls.ret this hk
  · obtain ⟨h⟩ := this
    exact ⟨fun c cs => let ⟨v, w', h1, h2⟩ := h c cs; ⟨v, w', hk _ _ h1, h2⟩⟩
  · exact fun c cs => by
      obtain ⟨v, w', h1, h2⟩ := this c cs
      exact ⟨v, w', hk _ _ h1, h2⟩
  · obtain ⟨h1, ⟨h2⟩⟩ := this
    exact ⟨h1, ⟨fun fr cs es he => let ⟨v, w', h3, h4⟩ := h2 fr cs es he; ⟨v, w', hk _ _ h3, h4⟩⟩⟩
  · exact this.elim
@[go_sem] theorem x_buildSlice0 (t ty : TypeId) (K : Value → World → Prop) (w : World) :
    OpX P (.buildSlice t 0 #[]) ty K w = OrK (tbs P t) (fun q => K (.slice (some ⟨w.heap.size, 0, none⟩) 0 0) (w.alloc (.cells #[] q.1))) (OpX P (.buildSlice t 0 #[]) ty K w) () := by
  refine OrK_by (fun q h => ?_) rfl
  obtain ⟨e, m, zs⟩ := q
  obtain ⟨hu, i, z, hi, hz, hs, hzs, hzn, h0⟩ := tbs_spec h
  refine OpX_ok fun ρ hg => ?_
  simp [execOp, mkOper, Instr.buildSlice, run_underlying hu, Go.sizeOf, typeInfo, hi, newRow, Instr.fill]
  congr 2
  apply Array.ext <;> simp
theorem copy_raw {t t' ty : TypeId} {m b o dl dc : Nat} {pre old new post : List Value} {e : TypeId} {b' o' sl sc : Nat} {K : Value → World → Prop} {w : World} (ht : tslice P t = some m)
    (hb : w.heap[b]? = some (.cells (pre ++ old ++ post).toArray e)) (ho : pre.length = o) (hlen : new.length = old.length) (hn : new.length = min sl dl * m) (hok : okCells new = true)
    (hsrc : ∀ j u, new[j]? = some u → cellAt w.heap[b']? (o' + j) = some u) (hk : K (.int .i64 (min sl dl : Nat)) (setBlk w b (.cells (pre ++ new ++ post).toArray e))) :
    OpX P (.call { callee := .builtin .copy, args := #[.const (.slice (some ⟨b, o, none⟩) dl dc), .const (.slice (some ⟨b', o', none⟩) sl sc)], argTypes := #[t, t'] }) ty K w := by
  rw [copy_ok (cs := new) (x' := .cells (pre ++ new ++ post).toArray e) ht hn hsrc hok (by rw [hb]; exact putAt_mid pre old new post e o ho hlen)]
  exact hk
theorem r_slice_lo_nil (t ty : TypeId) (len cap n : Nat) (h : tslice P t = some n) : PureRun P (.slice t (.const (.slice none len cap)) (some (.const (.int .i64 0))) none none) ty (.slice none len cap) := by
  obtain ⟨e, hu, hs⟩ := tslice_u h
  refine ⟨fun ρ hg w => ?_⟩
  simp [execOp, mkOper, hg.1, Instr.sliceAt, Instr.slice, Instr.sliceBounds, Instr.sliceBound, asIntOf, run_underlying hu, run_size hs]
@[go_sem] theorem x_slice_lo_nil (t ty : TypeId) (len cap : Nat) (K : Value → World → Prop) (w : World) : OpX P (.slice t (.const (.slice none len cap)) (some (.const (.int .i64 0))) none none) ty K w = OrK (tslice P t) (fun _ => K (.slice none len cap) w) (OpX P (.slice t (.const (.slice none len cap)) (some (.const (.int .i64 0))) none none) ty K w) () :=
  OrK_by (fun _ h => (r_slice_lo_nil t ty len cap _ h).op K w) rfl
end
end Lyc
namespace Go.Proofs.Ytjfembffjjijaaa
open Lyc Go
theorem clone_c {w : World} {e : Option TypeId} {a : Option Addr} {l : List Cel} (hs : SxC w e a l) (cap : Nat) (hl : l.length ≤ 100000) : Calls Try.prog 33 #[.slice a l.length cap] w (retK fun v w' => Ox w.heap.size w' 39 4 Cel.cells v l ∧ Chg [] w w') := by
  apply slices_Clone_api_Cell_api_Cell_link
  intro K hK
  unfold slices_Clone_api_Cell_api_Cell
  simp -dsimp (disch := first | omega | (simp only [go_sem, seval]; first | done | omega)) only [go_sem, seval]
  refine BrW.by (fun h => ?_) (fun h => ?_)
  · have hl0 : l = [] := by
      cases a with
      | none =>
        cases l with
        | nil => rfl
        | cons x l => obtain ⟨b, o, _, _, _, _, _, h, _⟩ := hs.at_ (by simp); simp at h
      | some x => simp at h
    subst hl0
    exact hK _ _ ⟨Ox.nil _ _ _ _ _, Chg.refl _ _⟩
  · simp -dsimp (disch := first | omega | (simp only [go_sem, seval]; first | done | omega)) only [go_sem, seval]
    have hc := (Chg.refl [] w).alloc (.cells #[] 39)
    have ho : Ox w.heap.size (w.alloc (.cells #[] 39)) 39 4 Cel.cells (.slice (some ⟨w.heap.size, 0, none⟩) 0 0) [] := Ox.built (c := []) (by simp -dsimp (disch := first | omega | (simp only [go_sem, seval]; first | done | omega)) only [go_sem, seval]) Cel.len (Nat.le_refl _) rfl rfl (by omega) rfl
    refine app_x (l := []) (l2 := l) ty45ap Cel.len Cel.ok ho (hs.chg0 hc) rfl (by simp; omega) (by omega) (by simp -dsimp (disch := first | omega | (simp only [go_sem, seval]; first | done | omega)) only [go_sem, seval]; omega) ?_
    intro v' w' ho' hc' _
    exact hK _ _ ⟨by simpa using ho', own_chg ho hc hc'⟩
theorem fits_c (w : World) (x y : Int) : Calls Try.prog 43 #[.int .i64 x, .int .i64 y] w (retK fun v w' => v = .bool (fitsG x y) ∧ w' = w) := by
  apply grid_fits_link
  intro K hK
  unfold grid_fits
  refine Join1.inl ?_
  simp -dsimp (disch := first | omega | (simp only [go_sem, seval]; first | done | omega)) only [go_sem, seval]
  refine BrW.dec (fun h1 => ?_) (fun h1 => ?_)
  · simp -dsimp (disch := first | omega | (simp only [go_sem, seval]; first | done | omega)) only [go_sem, seval]
    refine BrW.dec (fun h2 => ?_) (fun h2 => ?_)
    · simp -dsimp (disch := first | omega | (simp only [go_sem, seval]; first | done | omega)) only [go_sem, seval]
      refine BrW.dec (fun h3 => ?_) (fun h3 => ?_)
      · simp -dsimp (disch := first | omega | (simp only [go_sem, seval]; first | done | omega)) only [go_sem, seval]
        refine hK _ _ ⟨?_, rfl⟩
        simp [fitsG, h1, h2, h3]
      · simp -dsimp (disch := first | omega | (simp only [go_sem, seval]; first | done | omega)) only [go_sem, seval]
        refine hK _ _ ⟨?_, rfl⟩
        simp [fitsG, h3]
    · simp -dsimp (disch := first | omega | (simp only [go_sem, seval]; first | done | omega)) only [go_sem, seval]
      refine hK _ _ ⟨?_, rfl⟩
      simp [fitsG, h2]
  · simp -dsimp (disch := first | omega | (simp only [go_sem, seval]; first | done | omega)) only [go_sem, seval]
    refine hK _ _ ⟨?_, rfl⟩
    simp [fitsG, h1]
theorem span_c (w : World) (x n size : Int) (hs : 0 ≤ size) (hs2 : size ≤ 1000) (h1 : -9223372036854775808 ≤ x) (h2 : x ≤ 9223372036854775807) (h4 : n ≤ 9223372036854775807) : Calls Try.prog 71 #[.int .i64 x, .int .i64 n, .int .i64 size] w (retK fun v w' => v = .tuple #[.int .i64 (spanG x n size).1, .int .i64 (spanG x n size).2] ∧ w' = w) := by
  apply grid_span_link
  intro K hK
  unfold grid_span
  refine Join1.cut (fun v w' => v = .bool (decide (n ≤ 0 ∨ size ≤ x ∨ (x < 0 ∧ x + n ≤ 0))) ∧ w' = w) ?_ ?_
  · simp -dsimp (disch := first | omega | (simp only [go_sem, seval]; first | done | omega)) only [go_sem, seval]
    refine BrW.dec (fun h => ⟨by simp [h], rfl⟩) (fun h3 => ?_)
    simp -dsimp (disch := first | omega | (simp only [go_sem, seval]; first | done | omega)) only [go_sem, seval]
    refine BrW.dec (fun h => ⟨by simp [h], rfl⟩) (fun h5 => ?_)
    simp -dsimp (disch := first | omega | (simp only [go_sem, seval]; first | done | omega)) only [go_sem, seval]
    refine BrW.dec (fun h6 => ?_) (fun h6 => ?_)
    · simp -dsimp (disch := first | omega | (simp only [go_sem, seval]; first | done | omega)) only [go_sem, seval]
      simp [h3, h5, h6]
    · refine ⟨?_, rfl⟩
      congr 1
      simp [h3, h5, h6]
  · rintro v w1 ⟨rfl, rfl⟩
    refine BrW.dec (fun h => ?_) (fun h => ?_)
    · exact hK _ _ ⟨by unfold spanG; rw [if_pos h], rfl⟩
    · have h' : 0 < n ∧ x < size ∧ (0 ≤ x ∨ 0 < x + n) := by omega
      simp -dsimp (disch := first | omega | (simp only [go_sem, seval]; first | done | omega)) only [go_sem, seval]
      refine BrW.dec (fun h6 => ?_) (fun h6 => ?_)
      · simp -dsimp (disch := first | omega | (simp only [go_sem, seval]; first | done | omega)) only [go_sem, seval]
        exact hK _ _ ⟨by unfold spanG; rw [if_neg h]; simp [h6], rfl⟩
      · simp -dsimp (disch := first | omega | (simp only [go_sem, seval]; first | done | omega)) only [go_sem, seval]
        exact hK _ _ ⟨by unfold spanG; rw [if_neg h]; simp [h6], rfl⟩
theorem usual_c (w : World) (c : Cel) : Calls Try.prog 60 #[c.val] w (retK fun v w' => v = .bool c.usual ∧ Chg [] w w') := by
  apply grid_usual_link
  intro K hK
  unfold grid_usual
  simp -dsimp (disch := first | omega | (simp only [go_sem, seval]; first | done | omega)) only [go_sem, seval]
  have hc1 := (Chg.refl [] w).alloc (.cells c.cells.toArray 39)
  have hh1 : (w.alloc (.cells c.cells.toArray 39)).heap[w.heap.size]? = some (.cells c.cells.toArray 39) := by simp -dsimp (disch := first | omega | (simp only [go_sem, seval]; first | done | omega)) only [go_sem, seval]
  refine Join1.inl ?_
  simp -dsimp (disch := first | omega | (simp only [go_sem, seval]; first | done | omega)) only [go_sem, seval]
  refine OpX.call cell_Check_b rfl (Calls.ret (check_c _ c) ?_)
  rintro v w1 ⟨rfl, hc2⟩
  have hh2 := hc2.keep hh1 (by simp)
  refine BrW.by (fun h => ?_) (fun h => ?_)
  · simp -dsimp (disch := first | omega | (simp only [go_sem, seval]; first | done | omega)) only [go_sem, seval, hh2]
    refine hK _ _ ⟨?_, hc1.trans0 hc2⟩
    simp [Cel.usual, h, Cel.plain]
  · simp -dsimp (disch := first | omega | (simp only [go_sem, seval]; first | done | omega)) only [go_sem, seval]
    refine hK _ _ ⟨?_, hc1.trans0 hc2⟩
    simp [Cel.usual, h]
theorem cut_c {w : World} {g : Gr} (hg : g.ok) (b o cap : Nat) (hcap : g.cs.length ≤ cap) (y : Nat) (hy : y < g.h) : Calls Try.prog 63 #[g.val (some ⟨b, o, none⟩) cap, .int .i64 y] w
    (retK fun v w' => v = .slice (some ⟨b, o + y * g.w * 4, none⟩) g.w g.w ∧ Chg [] w w') := by
  have h1 := hg.row_lt hy
  have h2 := hg.le
  have h3 := hg.w0
  have h4 := hg.w1
  have h5 := hg.h1
  apply grid_cut_link
  intro K hK
  unfold grid_cut
  simp -dsimp (disch := first | omega | (simp only [go_sem, seval]; first | done | omega)) only [go_sem, seval, Gr.val]
  have e1 : (y : Int) * (g.w : Int) = ((y * g.w : Nat) : Int) := by simp
  have e2 : ((y : Int) + 1) * (g.w : Int) = ((y * g.w + g.w : Nat) : Int) := by rw [Int.add_mul]; simp
  have hm := Nat.mul_le_mul (show y ≤ 60 by omega) h4
  simp -dsimp (disch := first | omega | (simp only [go_sem, seval]; first | done | omega)) only [go_sem, seval, e1, e2]
  have e3 : slo o (y * g.w + g.w) (y * g.w) 4 = o + y * g.w * 4 := by unfold slo; rw [if_neg (by omega)]
  have e4 : y * g.w + g.w - y * g.w = g.w := by omega
  rw [e3, e4]
  exact hK _ _ ⟨rfl, (Chg.refl _ _).alloc _⟩
end Go.Proofs.Ytjfembffjjijaaa
