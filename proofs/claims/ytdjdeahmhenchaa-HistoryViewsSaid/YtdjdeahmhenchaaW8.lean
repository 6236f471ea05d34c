/- Written by a program (gen.py): functions of the translation as transformers, with the link to Calls. -/
import Derived.Test.YtdjdeahmhenchaaLycDef
import Derived.Test.YtdjdeahmhenchaaLycTy
import Derived.Test.YtdjdeahmhenchaaW0
set_option linter.unusedSimpArgs false
set_option linter.unusedVariables false
namespace Go.Proofs.Ytdjdeahmhenchaa
open Lyc Go
set_option maxRecDepth 100000

/- lyceum/lyceumref06.New -/
def lyceumref06_New (p0 p1 : Value) (K : Value → World → Prop) : World → Prop :=
  xA 54 fun t4 =>
  xC 70 [.const p0, .const p1] [3, 3] 4 fun t10 =>
  xN 4 t10 fun t12 =>
  xW t12
  (OpX Try.prog (.build 54 #[]) 54 fun t13 =>
  xS 54 t4 t13 <|
  xD 54 t4 fun t4_1 =>
  K t4_1) <|
  OpX Try.prog (.build 54 #[(0, .const p0), (1, .const p1)]) 54 fun t16 =>
  xA 54 fun t6 =>
  xS 54 t6 t16 <|
  Loop1 (.int .i64 0) fun t7 next1 =>
  xO .mul 3 p0 p1 fun t20 =>
  xO .lss 3 t7 t20 fun t21 =>
  xW t21
  (DrewW <|
  qF 54 t6 2 fun t24 =>
  qL 45 t24 fun t25 =>
  xC 71 [] [] 44 fun t26 =>
  xT (qZ 45 t24 t25) <|
  OpX Try.prog (.buildSlice 45 1 #[(0, .const t26)]) 45 fun t27 =>
  xT (qZ 45 t24 t25) <|
  OpX Try.prog (.call { callee := .builtin .append, args := #[.const t25, .const t27], argTypes := #[45, 45] }) 45 fun t28 =>
  qF 54 t6 2 fun t29 =>
  xS 45 t29 t28 <|
  xO .add 3 t7 (.int .i64 1) fun t23 =>
  next1 t23) <|
  xL 54 t6 fun t30 =>
  xS 54 t4 t30 <|
  xD 54 t4 fun t4_2 =>
  K t4_2
theorem lyceumref06_New_link (p0 p1 : Value) : Lk 37 #[p0, p1] (lyceumref06_New p0 p1) := lk [p0, p1] [(18, [7])] Try.func37 (by kernel_rfl) fun _ _ => by kernel_rfl
theorem lyceumref06_New_b : Bodied Try.prog 37 := bd Try.func37 (by kernel_rfl)

/- lyceum/lyceumref06.Same -/
def lyceumref06_Same (p0 p1 : Value) (K : Value → World → Prop) : World → Prop :=
  xB 54 p0 fun t2 =>
  xB 54 p1 fun t3 =>
  xF 54 t2 2 fun t6 =>
  xL 45 t6 fun t7 =>
  xF 54 t3 2 fun t8 =>
  xL 45 t8 fun t9 =>
  xC 35 [.const t7, .const t9] [45, 45] 4 fun t10 =>
  Join1 (fun k1 =>
  xW t10
  (xF 54 t2 0 fun t13 =>
  xL 3 t13 fun t14 =>
  xF 54 t3 0 fun t15 =>
  xL 3 t15 fun t16 =>
  xO .eql 3 t14 t16 fun t17 =>
  xW t17
  (xF 54 t2 1 fun t20 =>
  xL 3 t20 fun t21 =>
  xF 54 t3 1 fun t22 =>
  xL 3 t22 fun t23 =>
  xO .eql 3 t21 t23 fun t24 =>
  k1 t24) <|
  k1 (.bool false)) <|
  k1 (.bool false)) fun t4 =>
  K t4
theorem lyceumref06_Same_link (p0 p1 : Value) : Lk 39 #[p0, p1] (lyceumref06_Same p0 p1) := lk [p0, p1] [(5, [4])] Try.func39 (by kernel_rfl) fun _ _ => by kernel_rfl
theorem lyceumref06_Same_b : Bodied Try.prog 39 := bd Try.func39 (by kernel_rfl)

/- lyceum/lyceumref06.At -/
def lyceumref06_At (p0 p1 p2 : Value) (K : Value → World → Prop) : World → Prop :=
  xB 54 p0 fun t3 =>
  xA 44 fun t6 =>
  xL 54 t3 fun t8 =>
  xC 77 [.const t8, .const p2] [54, 3] 45 fun t10 =>
  Join1 (fun k1 =>
  xO .lss 3 p1 (.int .i64 0) fun t12 =>
  xW t12
  (k1 (.bool true)) <|
  xU t10 45 fun t16 =>
  xO .geq 3 p1 t16 fun t17 =>
  k1 t17) fun t18 =>
  xW t18
  (OpX Try.prog (.build 44 #[]) 44 fun t19 =>
  xS 44 t6 t19 <|
  xD 44 t6 fun t6_1 =>
  K t6_1) <|
  xI 45 t10 p1 fun t22 =>
  xL 44 t22 fun t23 =>
  xS 44 t6 t23 <|
  xD 44 t6 fun t6_2 =>
  K t6_2
theorem lyceumref06_At_link (p0 p1 p2 : Value) : Lk 41 #[p0, p1, p2] (lyceumref06_At p0 p1 p2) := lk [p0, p1, p2] [(6, [18])] Try.func41 (by kernel_rfl) fun _ _ => by kernel_rfl
theorem lyceumref06_At_b : Bodied Try.prog 41 := bd Try.func41 (by kernel_rfl)

/- lyceum/lyceumref06.size -/
def lyceumref06_size (p0 p1 : Value) (K : Value → World → Prop) : World → Prop :=
  Join1 (fun k1 =>
  xO .geq 3 p0 (.int .i64 1) fun t6 =>
  xW t6
  (xO .leq 3 p0 (.int .i64 200) fun t9 =>
  xW t9
  (xO .geq 3 p1 (.int .i64 1) fun t13 =>
  xW t13
  (xO .leq 3 p1 (.int .i64 60) fun t17 =>
  k1 t17) <|
  k1 (.bool false)) <|
  k1 (.bool false)) <|
  k1 (.bool false)) fun t4 =>
  K t4
theorem lyceumref06_size_link (p0 p1 : Value) : Lk 70 #[p0, p1] (lyceumref06_size p0 p1) := lk [p0, p1] [(3, [4])] Try.func70 (by kernel_rfl) fun _ _ => by kernel_rfl
theorem lyceumref06_size_b : Bodied Try.prog 70 := bd Try.func70 (by kernel_rfl)

/- lyceum/lyceumref06.Row -/
def lyceumref06_Row (p0 p1 : Value) (K : Value → World → Prop) : World → Prop :=
  xB 54 p0 fun t2 =>
  DrewW <|
  Join1 (fun k1 =>
  qP .lss 3 p1 (.int .i64 0) fun t6 =>
  xW t6
  (k1 (.bool true)) <|
  qF 54 t2 1 fun t9 =>
  qL 3 t9 fun t10 =>
  qP .geq 3 p1 t10 fun t11 =>
  xW t11
  (k1 (.bool true)) <|
  qF 54 t2 0 fun t14 =>
  qL 3 t14 fun t15 =>
  qP .lss 3 t15 (.int .i64 1) fun t16 =>
  xW t16
  (k1 (.bool true)) <|
  qF 54 t2 1 fun t19 =>
  qL 3 t19 fun t20 =>
  qF 54 t2 2 fun t21 =>
  qL 45 t21 fun t22 =>
  xR (.call { callee := .builtin .len, args := #[.const t22], argTypes := #[45] }) 3 fun t23 =>
  qF 54 t2 0 fun t24 =>
  qL 3 t24 fun t25 =>
  qP .quo 3 t23 t25 fun t26 =>
  qP .gtr 3 t20 t26 fun t27 =>
  k1 t27) fun t28 =>
  xW t28
  (K (.slice none 0 0)) <|
  OpX Try.prog (.buildSlice 45 0 #[]) 45 fun t29 =>
  xF 54 t2 2 fun t30 =>
  xL 45 t30 fun t31 =>
  xF 54 t2 0 fun t33 =>
  xL 3 t33 fun t34 =>
  xO .mul 3 p1 t34 fun t35 =>
  xF 54 t2 0 fun t37 =>
  xL 3 t37 fun t38 =>
  xO .mul 3 p1 t38 fun t39 =>
  xF 54 t2 0 fun t40 =>
  xL 3 t40 fun t41 =>
  xO .add 3 t39 t41 fun t42 =>
  OpX Try.prog (.slice 45 (.const t31) (some (.const t35)) (some (.const t42)) none) 45 fun t43 =>
  OpX Try.prog (.call { callee := .builtin .append, args := #[.const t29, .const t43], argTypes := #[45, 45] }) 45 fun t44 =>
  K t44
theorem lyceumref06_Row_link (p0 p1 : Value) : Lk 77 #[p0, p1] (lyceumref06_Row p0 p1) := lk [p0, p1] [(4, [28])] Try.func77 (by kernel_rfl) fun _ _ => by kernel_rfl
theorem lyceumref06_Row_b : Bodied Try.prog 77 := bd Try.func77 (by kernel_rfl)

/- lyceum/lyceumref06.Put -/
def lyceumref06_Put (p0 p1 p2 p3 : Value) (K : Value → World → Prop) : World → Prop :=
  xB 54 p0 fun t4 =>
  xA 54 fun t8 =>
  xL 54 t4 fun t13 =>
  xC 107 [.const t13] [54] 4 fun t14 =>
  Join1 (fun k1 =>
  xN 4 t14 fun t16 =>
  xW t16
  (k1 (.bool true)) <|
  xO .lss 3 p2 (.int .i64 0) fun t19 =>
  xW t19
  (k1 (.bool true)) <|
  xF 54 t4 1 fun t23 =>
  xL 3 t23 fun t24 =>
  xO .geq 3 p2 t24 fun t25 =>
  k1 t25) fun t26 =>
  xW t26
  (xL 54 t4 fun t27 =>
  xS 54 t8 t27 <|
  xD 54 t8 fun t8_1 =>
  K t8_1) <|
  xF 54 t4 1 fun t28 =>
  xL 3 t28 fun t29 =>
  OpX Try.prog (.makeSlice 136 (.const t29) (.const t29)) 136 fun t30 =>
  xI 136 t30 p2 fun t33 =>
  xS 4 t33 (.bool true) <|
  OpX Try.prog (.buildSlice 45 0 #[]) 45 fun t34 =>
  xF 54 t4 2 fun t35 =>
  xL 45 t35 fun t36 =>
  OpX Try.prog (.call { callee := .builtin .append, args := #[.const t34, .const t36], argTypes := #[45, 45] }) 45 fun t37 =>
  Loop1 (.int .i64 0) fun t12 next2 =>
  xU p3 45 fun t40 =>
  xO .lss 3 t12 t40 fun t41 =>
  xW t41
  (Join1 (fun k3 =>
  xO .geq 3 p1 (.int .i64 0) fun t45 =>
  xW t45
  (xF 54 t4 0 fun t48 =>
  xL 3 t48 fun t49 =>
  xO .sub 3 t49 t12 fun t51 =>
  xO .lss 3 p1 t51 fun t52 =>
  xW t52
  (k3 (.bool true)) <|
  xO .lss 3 p1 (.int .i64 0) fun t56 =>
  xW t56
  (xO .add 3 p1 t12 fun t60 =>
  xO .geq 3 t60 (.int .i64 0) fun t61 =>
  xW t61
  (xO .add 3 p1 t12 fun t66 =>
  xF 54 t4 0 fun t67 =>
  xL 3 t67 fun t68 =>
  xO .lss 3 t66 t68 fun t69 =>
  k3 t69) <|
  k3 (.bool false)) <|
  k3 (.bool false)) <|
  xO .lss 3 p1 (.int .i64 0) fun t56_1 =>
  xW t56_1
  (xO .add 3 p1 t12 fun t60_1 =>
  xO .geq 3 t60_1 (.int .i64 0) fun t61_1 =>
  xW t61_1
  (xO .add 3 p1 t12 fun t66_1 =>
  xF 54 t4 0 fun t67_1 =>
  xL 3 t67_1 fun t68_1 =>
  xO .lss 3 t66_1 t68_1 fun t69_1 =>
  k3 t69_1) <|
  k3 (.bool false)) <|
  k3 (.bool false)) fun t71 =>
  xW t71
  (DrewW <|
  qF 54 t4 0 fun t74 =>
  qL 3 t74 fun t75 =>
  qP .mul 3 p2 t75 fun t76 =>
  qP .add 3 t76 p1 fun t78 =>
  qP .add 3 t78 t12 fun t80 =>
  xP (.indexAddr 45 (.const p3) (.const t12)) 0 fun t83 =>
  qL 44 t83 fun t84 =>
  xP (.indexAddr 45 (.const t37) (.const t80)) 0 fun t85 =>
  xS 44 t85 t84 <|
  xO .add 3 t12 (.int .i64 1) fun t43 =>
  next2 t43) <|
  xO .add 3 t12 (.int .i64 1) fun t43_1 =>
  next2 t43_1) <|
  xF 54 t4 0 fun t86 =>
  xL 3 t86 fun t87 =>
  xF 54 t4 1 fun t88 =>
  xL 3 t88 fun t89 =>
  xC 108 [.const t87, .const t89, .const t30, .const t37] [3, 3, 136, 45] 54 fun t92 =>
  xS 54 t8 t92 <|
  xD 54 t8 fun t8_2 =>
  K t8_2
theorem lyceumref06_Put_link (p0 p1 p2 p3 : Value) : Lk 83 #[p0, p1, p2, p3] (lyceumref06_Put p0 p1 p2 p3) := lk [p0, p1, p2, p3] [(6, [26]), (22, [12]), (32, [71])] Try.func83 (by kernel_rfl) fun _ _ => by kernel_rfl
theorem lyceumref06_Put_b : Bodied Try.prog 83 := bd Try.func83 (by kernel_rfl)

/- lyceum/lyceumref06.Check -/
def lyceumref06_Check (p0 : Value) (K : Value → World → Prop) : World → Prop :=
  xB 54 p0 fun t1 =>
  xF 54 t1 0 fun t6 =>
  xL 3 t6 fun t7 =>
  xF 54 t1 1 fun t8 =>
  xL 3 t8 fun t9 =>
  xC 70 [.const t7, .const t9] [3, 3] 4 fun t10 =>
  Join1 (fun k1 =>
  xN 4 t10 fun t12 =>
  xW t12
  (k1 (.bool true)) <|
  xF 54 t1 2 fun t14 =>
  xL 45 t14 fun t15 =>
  xU t15 45 fun t16 =>
  xF 54 t1 0 fun t17 =>
  xL 3 t17 fun t18 =>
  xF 54 t1 1 fun t19 =>
  xL 3 t19 fun t20 =>
  xO .mul 3 t18 t20 fun t21 =>
  xO .neq 3 t16 t21 fun t22 =>
  k1 t22) fun t23 =>
  xW t23
  (K (.bool false)) <|
  Loop1 (.int .i64 0) fun t4 next2 =>
  xF 54 t1 1 fun t25 =>
  xL 3 t25 fun t26 =>
  xO .lss 3 t4 t26 fun t27 =>
  xW t27
  (xL 54 t1 fun t30 =>
  xC 77 [.const t30, .const t4] [54, 3] 45 fun t32 =>
  xC 120 [.const t32] [45] 4 fun t33 =>
  xN 4 t33 fun t35 =>
  xW t35
  (K (.bool false)) <|
  xO .add 3 t4 (.int .i64 1) fun t29 =>
  next2 t29) <|
  K (.bool true)
theorem lyceumref06_Check_link (p0 : Value) : Lk 107 #[p0] (lyceumref06_Check p0) := lk [p0] [(6, [23]), (16, [4])] Try.func107 (by kernel_rfl) fun _ _ => by kernel_rfl
theorem lyceumref06_Check_b : Bodied Try.prog 107 := bd Try.func107 (by kernel_rfl)

/- lyceum/lyceumref06.all -/
def lyceumref06_all (p0 p1 p2 p3 : Value) (K : Value → World → Prop) : World → Prop :=
  xA 54 fun t8 =>
  OpX Try.prog (.build 54 #[(0, .const p0), (1, .const p1)]) 54 fun t14 =>
  xA 54 fun t9 =>
  xS 54 t9 t14 <|
  Loop1 (.int .i64 0) fun t10 next1 =>
  xO .lss 3 t10 p1 fun t17 =>
  xW t17
  (xO .mul 3 t10 p0 fun t23 =>
  xO .mul 3 t10 p0 fun t26 =>
  xO .add 3 t26 p0 fun t28 =>
  OpX Try.prog (.slice 45 (.const p3) (some (.const t23)) (some (.const t28)) none) 45 fun t29 =>
  Join1 (fun k2 =>
  xI 136 p2 t10 fun t32 =>
  xL 4 t32 fun t33 =>
  xW t33
  (xC 121 [.const t29] [45] 45 fun t35 =>
  k2 t35) <|
  k2 t29) fun t11 =>
  xF 54 t9 2 fun t36 =>
  xL 45 t36 fun t37 =>
  OpX Try.prog (.call { callee := .builtin .append, args := #[.const t37, .const t11], argTypes := #[45, 45] }) 45 fun t39 =>
  xF 54 t9 2 fun t40 =>
  xS 45 t40 t39 <|
  xO .add 3 t10 (.int .i64 1) fun t19 =>
  next1 t19) <|
  xL 54 t9 fun t41 =>
  xS 54 t8 t41 <|
  xD 54 t8 fun t8_1 =>
  K t8_1
theorem lyceumref06_all_link (p0 p1 p2 p3 : Value) : Lk 108 #[p0, p1, p2, p3] (lyceumref06_all p0 p1 p2 p3) := lk [p0, p1, p2, p3] [(8, [10]), (19, [11])] Try.func108 (by kernel_rfl) fun _ _ => by kernel_rfl
theorem lyceumref06_all_b : Bodied Try.prog 108 := bd Try.func108 (by kernel_rfl)

/- lyceum/lyceumlaw06.GridBeside -/
def lyceumlaw06_GridBeside (p0 p1 p2 : Value) (K : Value → World → Prop) : World → Prop :=
  xB 62 p0 fun t3 =>
  xB 63 p1 fun t4 =>
  xC 43 [] [] 4 fun t17 =>
  xL 62 t3 fun t18 =>
  xC 44 [.const t18] [62] 54 fun t19 =>
  xA 54 fun t8 =>
  xS 54 t8 t19 <|
  xI 63 t4 (.int .i64 0) fun t20 =>
  xL 3 t20 fun t21 =>
  xO .and 3 t21 (.int .i64 31) fun t22 =>
  xO .sub 3 t22 (.int .i64 8) fun t23 =>
  xI 63 t4 (.int .i64 1) fun t24 =>
  xL 3 t24 fun t25 =>
  xO .and 3 t25 (.int .i64 31) fun t26 =>
  xO .sub 3 t26 (.int .i64 8) fun t27 =>
  xI 63 t4 (.int .i64 2) fun t28 =>
  xL 3 t28 fun t29 =>
  xO .and 3 t29 (.int .i64 31) fun t30 =>
  xO .sub 3 t30 (.int .i64 8) fun t31 =>
  xI 63 t4 (.int .i64 3) fun t32 =>
  xL 3 t32 fun t33 =>
  xO .and 3 t33 (.int .i64 31) fun t34 =>
  xO .sub 3 t34 (.int .i64 8) fun t35 =>
  OpX Try.prog (.build 66 #[(0, .const t23), (1, .const t27), (2, .const t31), (3, .const t35)]) 66 fun t36 =>
  xA 66 fun t9 =>
  xS 66 t9 t36 <|
  DrewW <|
  Join1 (fun k1 =>
  qL 54 t8 fun t37 =>
  qL 66 t9 fun t38 =>
  xT (xC 46 [.const p2] [3] 44 fun t40 =>
  xT (qZ 66 t9 t38) <|
  xT (qZ 54 t8 t37) <|
  xT (xC 45 [.const t37, .const t38, .const t40] [54, 66, 44] 54 fun t41 =>
  xA 54 fun t10 =>
  xS 54 t10 t41 <|
  k1 t10) <|
  xA 54 fun t10_1 =>
  xT (qZ 66 t9 t38) <|
  xT (qZ 54 t8 t37) <|
  xC 45 [.const t37, .const t38, .const t40] [54, 66, 44] 54 fun t41_1 =>
  xS 54 t10_1 t41_1 <|
  k1 t10_1) <|
  xA 54 fun t10_2 =>
  xT (qZ 66 t9 t38) <|
  xT (qZ 54 t8 t37) <|
  xC 46 [.const p2] [3] 44 fun t40_1 =>
  xT (qZ 66 t9 t38) <|
  xT (qZ 54 t8 t37) <|
  xC 45 [.const t37, .const t38, .const t40_1] [54, 66, 44] 54 fun t41_2 =>
  xS 54 t10_2 t41_2 <|
  k1 t10_2) fun t10_3 =>
  Join1 (fun k2 =>
  xF 54 t10_3 0 fun t42 =>
  xL 3 t42 fun t43 =>
  xF 54 t8 0 fun t44 =>
  xL 3 t44 fun t45 =>
  xO .neq 3 t43 t45 fun t46 =>
  xW t46
  (k2 (.bool true)) <|
  xF 54 t10_3 1 fun t48 =>
  xL 3 t48 fun t49 =>
  xF 54 t8 1 fun t50 =>
  xL 3 t50 fun t51 =>
  xO .neq 3 t49 t51 fun t52 =>
  xW t52
  (k2 (.bool true)) <|
  xF 54 t10_3 2 fun t55 =>
  xL 45 t55 fun t56 =>
  xU t56 45 fun t57 =>
  xF 54 t8 2 fun t58 =>
  xL 45 t58 fun t59 =>
  xU t59 45 fun t60 =>
  xO .neq 3 t57 t60 fun t61 =>
  k2 t61) fun t62 =>
  xW t62
  (K (.bool false)) <|
  Loop1 (.int .i64 0) fun t11 next3 =>
  xF 54 t8 1 fun t64 =>
  xL 3 t64 fun t65 =>
  xO .lss 3 t11 t65 fun t66 =>
  xW t66
  (Loop1 (.int .i64 0) fun t12 next4 =>
  xF 54 t8 0 fun t70 =>
  xL 3 t70 fun t71 =>
  xO .lss 3 t12 t71 fun t72 =>
  xW t72
  (Join1 (fun k5 =>
  xF 66 t9 0 fun t76 =>
  xL 3 t76 fun t77 =>
  xO .geq 3 t12 t77 fun t78 =>
  xW t78
  (xF 66 t9 0 fun t81 =>
  xL 3 t81 fun t82 =>
  xF 66 t9 2 fun t83 =>
  xL 3 t83 fun t84 =>
  xO .add 3 t82 t84 fun t85 =>
  xO .lss 3 t12 t85 fun t86 =>
  xW t86
  (xF 66 t9 1 fun t90 =>
  xL 3 t90 fun t91 =>
  xO .geq 3 t11 t91 fun t92 =>
  xW t92
  (xF 66 t9 1 fun t96 =>
  xL 3 t96 fun t97 =>
  xF 66 t9 3 fun t98 =>
  xL 3 t98 fun t99 =>
  xO .add 3 t97 t99 fun t100 =>
  xO .lss 3 t11 t100 fun t101 =>
  k5 t101) <|
  k5 (.bool false)) <|
  k5 (.bool false)) <|
  k5 (.bool false)) fun t13 =>
  xF 54 t8 2 fun t103 =>
  xL 45 t103 fun t104 =>
  xF 54 t8 0 fun t106 =>
  xL 3 t106 fun t107 =>
  xO .mul 3 t11 t107 fun t108 =>
  xO .add 3 t108 t12 fun t110 =>
  xI 45 t104 t110 fun t111 =>
  xL 44 t111 fun t112 =>
  xA 44 fun t14 =>
  xS 44 t14 t112 <|
  xF 54 t10_3 2 fun t113 =>
  xL 45 t113 fun t114 =>
  xF 54 t8 0 fun t116 =>
  xL 3 t116 fun t117 =>
  xO .mul 3 t11 t117 fun t118 =>
  xO .add 3 t118 t12 fun t120 =>
  xI 45 t114 t120 fun t121 =>
  xL 44 t121 fun t122 =>
  xA 44 fun t15 =>
  xS 44 t15 t122 <|
  Join1 (fun k6 =>
  xF 66 t9 1 fun t124 =>
  xL 3 t124 fun t125 =>
  xO .geq 3 t11 t125 fun t126 =>
  xW t126
  (xF 66 t9 1 fun t129 =>
  xL 3 t129 fun t130 =>
  xF 66 t9 3 fun t131 =>
  xL 3 t131 fun t132 =>
  xO .add 3 t130 t132 fun t133 =>
  xO .lss 3 t11 t133 fun t134 =>
  xW t134
  (xF 44 t14 3 fun t137 =>
  xL 5 t137 fun t138 =>
  xO .geq 5 t138 (.int .u8 64) fun t139 =>
  xW t139
  (xF 66 t9 0 fun t143 =>
  xL 3 t143 fun t144 =>
  xO .sub 3 t144 (.int .i64 1) fun t145 =>
  xO .eql 3 t12 t145 fun t146 =>
  xW t146
  (k6 (.bool true)) <|
  xF 66 t9 0 fun t149 =>
  xL 3 t149 fun t150 =>
  xF 66 t9 2 fun t151 =>
  xL 3 t151 fun t152 =>
  xO .add 3 t150 t152 fun t153 =>
  xO .eql 3 t12 t153 fun t154 =>
  k6 t154) <|
  k6 (.bool false)) <|
  k6 (.bool false)) <|
  k6 (.bool false)) fun t16 =>
  DrewW <|
  Join1 (fun k7 =>
  xW t13
  (qL 44 t15 fun t159 =>
  xC 46 [.const p2] [3] 44 fun t161 =>
  xT (qZ 44 t15 t159) <|
  qR .neq 44 t159 t161 fun t162 =>
  xW t162
  (k7 (.bool true)) <|
  xP (.unOp .not 4 (.const t13)) 4 fun t166 =>
  xW t166
  (qL 44 t14 fun t168 =>
  qL 44 t15 fun t169 =>
  qR .neq 44 t168 t169 fun t170 =>
  xW t170
  (xP (.unOp .not 4 (.const t16)) 4 fun t174 =>
  k7 t174) <|
  k7 (.bool false)) <|
  k7 (.bool false)) <|
  xP (.unOp .not 4 (.const t13)) 4 fun t166_1 =>
  xW t166_1
  (qL 44 t14 fun t168_1 =>
  qL 44 t15 fun t169_1 =>
  qR .neq 44 t168_1 t169_1 fun t170_1 =>
  xW t170_1
  (xP (.unOp .not 4 (.const t16)) 4 fun t174_1 =>
  k7 t174_1) <|
  k7 (.bool false)) <|
  k7 (.bool false)) fun t176 =>
  xW t176
  (K (.bool false)) <|
  xO .add 3 t12 (.int .i64 1) fun t74 =>
  next4 t74) <|
  xO .add 3 t11 (.int .i64 1) fun t68 =>
  next3 t68) <|
  K t17
theorem lyceumlaw06_GridBeside_link (p0 p1 p2 : Value) : Lk 10 #[p0, p1, p2] (lyceumlaw06_GridBeside p0 p1 p2) := lk [p0, p1, p2] [(9, [10]), (12, [62]), (22, [11]), (34, [12]), (44, [13]), (50, [16]), (52, [176])] Try.func10 (by kernel_rfl) fun _ _ => by kernel_rfl
theorem lyceumlaw06_GridBeside_b : Bodied Try.prog 10 := bd Try.func10 (by kernel_rfl)

/- lyceum/lyceumlaw06.GridScrolls -/
def lyceumlaw06_GridScrolls (p0 p1 : Value) (K : Value → World → Prop) : World → Prop :=
  xB 62 p0 fun t2 =>
  xB 70 p1 fun t3 =>
  xC 43 [] [] 4 fun t19 =>
  xL 62 t2 fun t20 =>
  xC 44 [.const t20] [62] 54 fun t21 =>
  xA 54 fun t6 =>
  xS 54 t6 t21 <|
  xI 70 t3 (.int .i64 0) fun t22 =>
  xL 3 t22 fun t23 =>
  xO .and 3 t23 (.int .i64 7) fun t24 =>
  xI 70 t3 (.int .i64 1) fun t25 =>
  xL 3 t25 fun t26 =>
  xO .and 3 t26 (.int .i64 7) fun t27 =>
  xI 70 t3 (.int .i64 2) fun t28 =>
  xL 3 t28 fun t29 =>
  xO .and 3 t29 (.int .i64 7) fun t30 =>
  OpX Try.prog (.build 44 #[(0, .const (.int .i32 95))]) 44 fun t31 =>
  xA 44 fun t10 =>
  xS 44 t10 t31 <|
  xL 54 t6 fun t32 =>
  xL 44 t10 fun t36 =>
  xC 47 [.const t32, .const t24, .const t27, .const t30, .const t36] [54, 3, 3, 3, 44] 54 fun t37 =>
  xA 54 fun t11 =>
  xS 54 t11 t37 <|
  xL 54 t11 fun t38 =>
  OpX Try.prog (.unOp .neg 3 (.const t30)) 3 fun t42 =>
  xL 44 t10 fun t43 =>
  xC 47 [.const t38, .const t24, .const t27, .const t42, .const t43] [54, 3, 3, 3, 44] 54 fun t44 =>
  xA 54 fun t12 =>
  xS 54 t12 t44 <|
  Join1 (fun k1 =>
  xF 54 t12 0 fun t45 =>
  xL 3 t45 fun t46 =>
  xF 54 t6 0 fun t47 =>
  xL 3 t47 fun t48 =>
  xO .neq 3 t46 t48 fun t49 =>
  xW t49
  (k1 (.bool true)) <|
  xF 54 t12 1 fun t51 =>
  xL 3 t51 fun t52 =>
  xF 54 t6 1 fun t53 =>
  xL 3 t53 fun t54 =>
  xO .neq 3 t52 t54 fun t55 =>
  xW t55
  (k1 (.bool true)) <|
  xF 54 t12 2 fun t58 =>
  xL 45 t58 fun t59 =>
  xU t59 45 fun t60 =>
  xF 54 t6 2 fun t61 =>
  xL 45 t61 fun t62 =>
  xU t62 45 fun t63 =>
  xO .neq 3 t60 t63 fun t64 =>
  xW t64
  (k1 (.bool true)) <|
  xF 54 t11 2 fun t67 =>
  xL 45 t67 fun t68 =>
  xU t68 45 fun t69 =>
  xF 54 t6 2 fun t70 =>
  xL 45 t70 fun t71 =>
  xU t71 45 fun t72 =>
  xO .neq 3 t69 t72 fun t73 =>
  k1 t73) fun t74 =>
  xW t74
  (K (.bool false)) <|
  xF 54 t6 1 fun t76 =>
  xL 3 t76 fun t77 =>
  OpX Try.prog (.call { callee := .builtin .min, args := #[.const t27, .const t77], argTypes := #[3, 3] }) 3 fun t78 =>
  Loop1 (.int .i64 0) fun t14 next2 =>
  xF 54 t6 1 fun t80 =>
  xL 3 t80 fun t81 =>
  xO .lss 3 t14 t81 fun t82 =>
  xW t82
  (Join1 (fun k3 =>
  xO .geq 3 t14 t24 fun t87 =>
  xW t87
  (xO .lss 3 t14 t78 fun t91 =>
  k3 t91) <|
  k3 (.bool false)) fun t15 =>
  Join1 (fun k4 =>
  xW t15
  (xO .add 3 t24 t30 fun t98 =>
  xO .lss 3 t14 t98 fun t99 =>
  k4 t99) <|
  k4 (.bool false)) fun t16 =>
  Loop1 (.int .i64 0) fun t17 next5 =>
  xF 54 t6 0 fun t102 =>
  xL 3 t102 fun t103 =>
  xO .lss 3 t17 t103 fun t104 =>
  xW t104
  (xF 54 t6 2 fun t107 =>
  xL 45 t107 fun t108 =>
  xF 54 t6 0 fun t110 =>
  xL 3 t110 fun t111 =>
  xO .mul 3 t14 t111 fun t112 =>
  xO .add 3 t112 t17 fun t114 =>
  xI 45 t108 t114 fun t115 =>
  xL 44 t115 fun t116 =>
  xA 44 fun t18 =>
  xS 44 t18 t116 <|
  Join0 (fun k6 =>
  xW t16
  (xL 44 t10 fun t118 =>
  xS 44 t18 t118 <|
  k6) <|
  k6) <|
  DrewW <|
  qF 54 t12 2 fun t119 =>
  qL 45 t119 fun t120 =>
  qF 54 t6 0 fun t122 =>
  qL 3 t122 fun t123 =>
  qP .mul 3 t14 t123 fun t124 =>
  qP .add 3 t124 t17 fun t126 =>
  xP (.indexAddr 45 (.const t120) (.const t126)) 0 fun t127 =>
  qL 44 t127 fun t128 =>
  qL 44 t18 fun t129 =>
  qR .neq 44 t128 t129 fun t130 =>
  xW t130
  (K (.bool false)) <|
  DrewW <|
  Join1 (fun k7 =>
  xW t15
  (qP .add 3 t14 t30 fun t135 =>
  qP .lss 3 t135 t78 fun t137 =>
  xW t137
  (qF 54 t11 2 fun t140 =>
  qL 45 t140 fun t141 =>
  qF 54 t6 0 fun t143 =>
  qL 3 t143 fun t144 =>
  qP .mul 3 t14 t144 fun t145 =>
  qP .add 3 t145 t17 fun t147 =>
  xP (.indexAddr 45 (.const t141) (.const t147)) 0 fun t148 =>
  qL 44 t148 fun t149 =>
  qF 54 t6 2 fun t150 =>
  qL 45 t150 fun t151 =>
  qP .add 3 t14 t30 fun t154 =>
  qF 54 t6 0 fun t155 =>
  qL 3 t155 fun t156 =>
  qP .mul 3 t154 t156 fun t157 =>
  qP .add 3 t157 t17 fun t159 =>
  xP (.indexAddr 45 (.const t151) (.const t159)) 0 fun t160 =>
  qL 44 t160 fun t161 =>
  qR .neq 44 t149 t161 fun t162 =>
  xW t162
  (k7 (.bool true)) <|
  xW t15
  (qP .add 3 t14 t30 fun t169 =>
  qP .geq 3 t169 t78 fun t171 =>
  xW t171
  (qF 54 t11 2 fun t174 =>
  qL 45 t174 fun t175 =>
  qF 54 t6 0 fun t177 =>
  qL 3 t177 fun t178 =>
  qP .mul 3 t14 t178 fun t179 =>
  qP .add 3 t179 t17 fun t181 =>
  xP (.indexAddr 45 (.const t175) (.const t181)) 0 fun t182 =>
  qL 44 t182 fun t183 =>
  qL 44 t10 fun t184 =>
  qR .neq 44 t183 t184 fun t185 =>
  k7 t185) <|
  k7 (.bool false)) <|
  k7 (.bool false)) <|
  xW t15
  (qP .add 3 t14 t30 fun t169_1 =>
  qP .geq 3 t169_1 t78 fun t171_1 =>
  xW t171_1
  (qF 54 t11 2 fun t174_1 =>
  qL 45 t174_1 fun t175_1 =>
  qF 54 t6 0 fun t177_1 =>
  qL 3 t177_1 fun t178_1 =>
  qP .mul 3 t14 t178_1 fun t179_1 =>
  qP .add 3 t179_1 t17 fun t181_1 =>
  xP (.indexAddr 45 (.const t175_1) (.const t181_1)) 0 fun t182_1 =>
  qL 44 t182_1 fun t183_1 =>
  qL 44 t10 fun t184_1 =>
  qR .neq 44 t183_1 t184_1 fun t185_1 =>
  k7 t185_1) <|
  k7 (.bool false)) <|
  k7 (.bool false)) <|
  xW t15
  (qP .add 3 t14 t30 fun t169_2 =>
  qP .geq 3 t169_2 t78 fun t171_2 =>
  xW t171_2
  (qF 54 t11 2 fun t174_2 =>
  qL 45 t174_2 fun t175_2 =>
  qF 54 t6 0 fun t177_2 =>
  qL 3 t177_2 fun t178_2 =>
  qP .mul 3 t14 t178_2 fun t179_2 =>
  qP .add 3 t179_2 t17 fun t181_2 =>
  xP (.indexAddr 45 (.const t175_2) (.const t181_2)) 0 fun t182_2 =>
  qL 44 t182_2 fun t183_2 =>
  qL 44 t10 fun t184_2 =>
  qR .neq 44 t183_2 t184_2 fun t185_2 =>
  k7 t185_2) <|
  k7 (.bool false)) <|
  k7 (.bool false)) fun t187 =>
  xW t187
  (K (.bool false)) <|
  xO .add 3 t17 (.int .i64 1) fun t106 =>
  next5 t106) <|
  xO .add 3 t14 (.int .i64 1) fun t84 =>
  next2 t84) <|
  K t19
theorem lyceumlaw06_GridScrolls_link (p0 p1 : Value) : Lk 11 #[p0, p1] (lyceumlaw06_GridScrolls p0 p1) := lk [p0, p1] [(20, [74]), (32, [14]), (42, [15]), (44, [16]), (48, [17]), (59, []), (74, [187])] Try.func11 (by kernel_rfl) fun _ _ => by kernel_rfl
theorem lyceumlaw06_GridScrolls_b : Bodied Try.prog 11 := bd Try.func11 (by kernel_rfl)

/- lyceum/lyceumlaw06.GridLays -/
def lyceumlaw06_GridLays (p0 p1 p2 : Value) (K : Value → World → Prop) : World → Prop :=
  xB 62 p0 fun t3 =>
  xB 62 p1 fun t4 =>
  xB 73 p2 fun t5 =>
  xC 43 [] [] 4 fun t18 =>
  xF 62 t3 0 fun t19 =>
  xL 3 t19 fun t20 =>
  xF 62 t4 0 fun t21 =>
  xS 3 t21 t20 <|
  xF 62 t3 1 fun t22 =>
  xL 3 t22 fun t23 =>
  xF 62 t4 1 fun t24 =>
  xS 3 t24 t23 <|
  xL 62 t3 fun t25 =>
  xC 44 [.const t25] [62] 54 fun t26 =>
  xA 54 fun t8 =>
  xS 54 t8 t26 <|
  xL 62 t4 fun t27 =>
  xC 44 [.const t27] [62] 54 fun t28 =>
  xA 54 fun t9 =>
  xS 54 t9 t28 <|
  xL 54 t8 fun t29 =>
  xL 54 t9 fun t30 =>
  xC 48 [.const t29, .const t30, .const (.int .i64 0), .const (.int .i64 0)] [54, 54, 3, 3] 54 fun t31 =>
  xA 54 fun t10 =>
  xS 54 t10 t31 <|
  xI 73 t5 (.int .i64 0) fun t32 =>
  xL 3 t32 fun t33 =>
  xO .rem 3 t33 (.int .i64 12) fun t34 =>
  xO .add 3 t34 (.int .i64 12) fun t35 =>
  xO .rem 3 t35 (.int .i64 12) fun t36 =>
  xO .add 3 (.int .i64 1) t36 fun t37 =>
  xI 73 t5 (.int .i64 1) fun t38 =>
  xL 3 t38 fun t39 =>
  xO .rem 3 t39 (.int .i64 6) fun t40 =>
  xO .add 3 t40 (.int .i64 6) fun t41 =>
  xO .rem 3 t41 (.int .i64 6) fun t42 =>
  xO .add 3 (.int .i64 1) t42 fun t43 =>
  xL 54 t8 fun t44 =>
  OpX Try.prog (.build 44 #[(0, .const (.int .i32 32))]) 44 fun t47 =>
  xC 49 [.const t44, .const t37, .const t43, .const t47] [54, 3, 3, 44] 54 fun t48 =>
  xA 54 fun t13 =>
  xS 54 t13 t48 <|
  Join1 (fun k1 =>
  xL 54 t10 fun t49 =>
  xL 54 t9 fun t50 =>
  xC 50 [.const t49, .const t50] [54, 54] 4 fun t51 =>
  xN 4 t51 fun t52 =>
  xW t52
  (k1 (.bool true)) <|
  xF 54 t13 0 fun t54 =>
  xL 3 t54 fun t55 =>
  xO .neq 3 t55 t37 fun t57 =>
  xW t57
  (k1 (.bool true)) <|
  xF 54 t13 1 fun t60 =>
  xL 3 t60 fun t61 =>
  xO .neq 3 t61 t43 fun t63 =>
  xW t63
  (k1 (.bool true)) <|
  xL 54 t13 fun t66 =>
  xC 51 [.const t66] [54] 4 fun t67 =>
  xN 4 t67 fun t68 =>
  k1 t68) fun t69 =>
  xW t69
  (K (.bool false)) <|
  Loop1 (.int .i64 0) fun t14 next2 =>
  xF 54 t8 1 fun t72 =>
  xL 3 t72 fun t73 =>
  OpX Try.prog (.call { callee := .builtin .min, args := #[.const t43, .const t73], argTypes := #[3, 3] }) 3 fun t74 =>
  xO .lss 3 t14 t74 fun t75 =>
  xW t75
  (Loop1 (.int .i64 0) fun t15 next3 =>
  xF 54 t8 0 fun t80 =>
  xL 3 t80 fun t81 =>
  OpX Try.prog (.call { callee := .builtin .min, args := #[.const t37, .const t81], argTypes := #[3, 3] }) 3 fun t82 =>
  xO .lss 3 t15 t82 fun t83 =>
  xW t83
  (xL 54 t13 fun t86 =>
  xC 42 [.const t86, .const t15, .const t14] [54, 3, 3] 44 fun t89 =>
  xA 44 fun t16 =>
  xS 44 t16 t89 <|
  xL 54 t8 fun t90 =>
  xC 42 [.const t90, .const t15, .const t14] [54, 3, 3] 44 fun t93 =>
  xA 44 fun t17 =>
  xS 44 t17 t93 <|
  Join1 (fun k4 =>
  xL 44 t16 fun t94 =>
  xL 44 t17 fun t95 =>
  xO .neq 44 t94 t95 fun t96 =>
  xW t96
  (xO .sub 3 t37 (.int .i64 1) fun t100 =>
  xO .neq 3 t15 t100 fun t101 =>
  xW t101
  (k4 (.bool true)) <|
  xF 44 t17 3 fun t103 =>
  xL 5 t103 fun t104 =>
  xO .lss 5 t104 (.int .u8 64) fun t105 =>
  xW t105
  (k4 (.bool true)) <|
  xF 44 t16 0 fun t108 =>
  xL 21 t108 fun t109 =>
  xO .neq 21 t109 (.int .i32 32) fun t110 =>
  k4 t110) <|
  k4 (.bool false)) fun t112 =>
  xW t112
  (K (.bool false)) <|
  xO .add 3 t15 (.int .i64 1) fun t85 =>
  next3 t85) <|
  xO .add 3 t14 (.int .i64 1) fun t77 =>
  next2 t77) <|
  DrewW <|
  Join1 (fun k5 =>
  xW t18
  (qL 54 t8 fun t115 =>
  qF 54 t8 0 fun t116 =>
  qL 3 t116 fun t117 =>
  qF 54 t8 1 fun t118 =>
  qL 3 t118 fun t119 =>
  qL 54 t8 fun t122 =>
  OpX Try.prog (.build 44 #[(0, .const (.int .i32 46))]) 44 fun t120 =>
  xT (qZ 54 t8 t122) <|
  xT (qZ 3 t118 t119) <|
  xT (qZ 3 t116 t117) <|
  xT (qZ 54 t8 t115) <|
  xC 49 [.const t115, .const t117, .const t119, .const t120] [54, 3, 3, 44] 54 fun t121 =>
  xT (qZ 54 t8 t122) <|
  xC 50 [.const t121, .const t122] [54, 54] 4 fun t123 =>
  k5 t123) <|
  k5 (.bool false)) fun t6 =>
  K t6
theorem lyceumlaw06_GridLays_link (p0 p1 p2 : Value) : Lk 12 #[p0, p1, p2] (lyceumlaw06_GridLays p0 p1 p2) := lk [p0, p1, p2] [(22, [69]), (32, [14]), (44, [15]), (58, [112]), (67, [6])] Try.func12 (by kernel_rfl) fun _ _ => by kernel_rfl
theorem lyceumlaw06_GridLays_b : Bodied Try.prog 12 := bd Try.func12 (by kernel_rfl)

/- lyceum/lyceumlaw06.awake -/
def lyceumlaw06_awake (K : Value → World → Prop) : World → Prop :=
  xC 79 [.const (.int .i64 3), .const (.int .i64 1)] [3, 3] 54 fun t3 =>
  OpX Try.prog (.buildSlice 50 3 #[(0, .const (.int .i64 2)), (1, .const (.int .i64 3)), (2, .const (.int .i64 6))]) 50 fun t4 =>
  xC 80 [.const t4] [50] 45 fun t5 =>
  xC 38 [.const t3, .const (.int .i64 0), .const (.int .i64 0), .const t5] [54, 3, 3, 45] 54 fun t6 =>
  xA 54 fun t1 =>
  xS 54 t1 t6 <|
  xL 54 t1 fun t7 =>
  OpX Try.prog (.build 44 #[(0, .const (.int .i32 32))]) 44 fun t8 =>
  xC 82 [.const t7, .const (.int .i64 1), .const (.int .i64 0), .const (.int .i64 1), .const t8] [54, 3, 3, 3, 44] 54 fun t9 =>
  xC 81 [.const t9] [54] 113 fun t10 =>
  Join1 (fun k1 =>
  xU t10 113 fun t12 =>
  xO .eql 3 t12 (.int .i64 1) fun t13 =>
  xW t13
  (xI 113 t10 (.int .i64 0) fun t16 =>
  xL 9 t16 fun t17 =>
  xO .eql 9 t17 (.string { data := #[97, 32, 98] }) fun t18 =>
  k1 t18) <|
  k1 (.bool false)) fun t0 =>
  K t0
theorem lyceumlaw06_awake_link : Lk 43 #[] (lyceumlaw06_awake) := lk [] [(7, [0])] Try.func43 (by kernel_rfl) fun _ _ => by kernel_rfl
theorem lyceumlaw06_awake_b : Bodied Try.prog 43 := bd Try.func43 (by kernel_rfl)

/- (lyceum/lyceumlaw06.Num).grid -/
def lyceumlaw06_Num_grid (p0 : Value) (K : Value → World → Prop) : World → Prop :=
  xB 62 p0 fun t1 =>
  xA 54 fun t2 =>
  xF 62 t1 0 fun t7 =>
  xL 3 t7 fun t8 =>
  xO .rem 3 t8 (.int .i64 12) fun t9 =>
  xO .add 3 t9 (.int .i64 12) fun t10 =>
  xO .rem 3 t10 (.int .i64 12) fun t11 =>
  xO .add 3 (.int .i64 1) t11 fun t12 =>
  xF 62 t1 1 fun t13 =>
  xL 3 t13 fun t14 =>
  xO .rem 3 t14 (.int .i64 6) fun t15 =>
  xO .add 3 t15 (.int .i64 6) fun t16 =>
  xO .rem 3 t16 (.int .i64 6) fun t17 =>
  xO .add 3 (.int .i64 1) t17 fun t18 =>
  xC 37 [.const t12, .const t18] [3, 3] 54 fun t19 =>
  xA 54 fun t3 =>
  xS 54 t3 t19 <|
  xF 62 t1 2 fun t20 =>
  xL 50 t20 fun t21 =>
  xC 80 [.const t21] [50] 45 fun t22 =>
  Loop2 t22 (.int .i64 0) fun t4 t5 next1 =>
  xF 54 t3 1 fun t24 =>
  xL 3 t24 fun t25 =>
  xO .lss 3 t5 t25 fun t26 =>
  xW t26
  (xU t4 45 fun t30 =>
  xF 54 t3 0 fun t31 =>
  xL 3 t31 fun t32 =>
  OpX Try.prog (.call { callee := .builtin .min, args := #[.const t30, .const t32], argTypes := #[3, 3] }) 3 fun t33 =>
  DrewW <|
  qL 54 t3 fun t34 =>
  xP (.slice 45 (.const t4) none (some (.const t33)) none) 45 fun t38 =>
  xC 83 [.const t34, .const (.int .i64 0), .const t5, .const t38] [54, 3, 3, 45] 54 fun t39 =>
  xS 54 t3 t39 <|
  OpX Try.prog (.slice 45 (.const t4) (some (.const t33)) none none) 45 fun t42 =>
  xO .add 3 t5 (.int .i64 1) fun t28 =>
  next1 t42 t28) <|
  xL 54 t3 fun t43 =>
  xS 54 t2 t43 <|
  xD 54 t2 fun t2_1 =>
  K t2_1
theorem lyceumlaw06_Num_grid_link (p0 : Value) : Lk 44 #[p0] (lyceumlaw06_Num_grid p0) := lk [p0] [(10, [4, 5])] Try.func44 (by kernel_rfl) fun _ _ => by kernel_rfl
theorem lyceumlaw06_Num_grid_b : Bodied Try.prog 44 := bd Try.func44 (by kernel_rfl)

/- lyceum/lyceumlaw06.plain -/
def lyceumlaw06_plain (p0 : Value) (K : Value → World → Prop) : World → Prop :=
  xA 44 fun t2 =>
  OpX Try.prog (.build 118 #[(0, .const (.int .i32 32)), (1, .const (.int .i32 46)), (2, .const (.int .i32 45)), (3, .const (.int .i32 122))]) 118 fun t4 =>
  xA 118 fun t3 =>
  xS 118 t3 t4 <|
  xO .and 3 p0 (.int .i64 3) fun t6 =>
  xI 118 t3 t6 fun t7 =>
  xL 21 t7 fun t8 =>
  xO .shr 3 p0 (.int .u64 2) fun t10 =>
  xO .and 3 t10 (.int .i64 3) fun t11 =>
  OpX Try.prog (.convert 3 5 (.const t11)) 5 fun t12 =>
  xO .shr 3 p0 (.int .u64 4) fun t14 =>
  xO .and 3 t14 (.int .i64 3) fun t15 =>
  OpX Try.prog (.convert 3 5 (.const t15)) 5 fun t16 =>
  OpX Try.prog (.build 44 #[(0, .const t8), (2, .const t12), (3, .const t16)]) 44 fun t17 =>
  xS 44 t2 t17 <|
  xD 44 t2 fun t2_1 =>
  K t2_1
theorem lyceumlaw06_plain_link (p0 : Value) : Lk 46 #[p0] (lyceumlaw06_plain p0) := lk [p0] [] Try.func46 (by kernel_rfl) fun _ _ => by kernel_rfl
theorem lyceumlaw06_plain_b : Bodied Try.prog 46 := bd Try.func46 (by kernel_rfl)

/- lyceum/lyceumlaw06.cells -/
def lyceumlaw06_cells (p0 : Value) (K : Value → World → Prop) : World → Prop :=
  OpX Try.prog (.build 135 #[(0, .const (.int .i32 32)), (1, .const (.int .i32 32)), (2, .const (.int .i32 97)), (3, .const (.int .i32 98)), (4, .const (.int .i32 19968)), (5, .const (.int .i32 19969)), (6, .const (.int .i32 99)), (7, .const (.int .i32 32)), (8, .const (.int .i32 8364)), (9, .const (.int .i32 128512)), (10, .const (.int .i32 120)), (11, .const (.int .i32 97)), (12, .const (.int .i32 100)), (13, .const (.int .i32 32)), (14, .const (.int .i32 12354)), (15, .const (.int .i32 35))]) 135 fun t7 =>
  xA 135 fun t3 =>
  xS 135 t3 t7 <|
  Loop2 (.slice none 0 0) (.int .i64 0) fun t4 t5 next1 =>
  Join1 (fun k2 =>
  xU p0 50 fun t10 =>
  xO .lss 3 t5 t10 fun t11 =>
  xW t11
  (xO .lss 3 t5 (.int .i64 80) fun t14 =>
  k2 t14) <|
  k2 (.bool false)) fun t15 =>
  xW t15
  (xI 50 p0 t5 fun t20 =>
  xL 3 t20 fun t21 =>
  xO .and 3 t21 (.int .i64 15) fun t24 =>
  xI 135 t3 t24 fun t25 =>
  xL 21 t25 fun t26 =>
  xO .shr 3 t21 (.int .u64 4) fun t28 =>
  xO .and 3 t28 (.int .i64 3) fun t29 =>
  OpX Try.prog (.convert 3 5 (.const t29)) 5 fun t30 =>
  xO .shr 3 t21 (.int .u64 6) fun t32 =>
  xO .and 3 t32 (.int .i64 1) fun t33 =>
  OpX Try.prog (.convert 3 5 (.const t33)) 5 fun t34 =>
  OpX Try.prog (.build 44 #[(1, .const t30), (3, .const t34)]) 44 fun t35 =>
  xC 68 [.const t26, .const t35] [21, 44] 45 fun t36 =>
  OpX Try.prog (.call { callee := .builtin .append, args := #[.const t4, .const t36], argTypes := #[45, 45] }) 45 fun t37 =>
  xO .add 3 t5 (.int .i64 1) fun t17 =>
  next1 t37 t17) <|
  K t4
theorem lyceumlaw06_cells_link (p0 : Value) : Lk 80 #[p0] (lyceumlaw06_cells p0) := lk [p0] [(10, [4, 5]), (13, [15])] Try.func80 (by kernel_rfl) fun _ _ => by kernel_rfl
theorem lyceumlaw06_cells_b : Bodied Try.prog 80 := bd Try.func80 (by kernel_rfl)

end Go.Proofs.Ytdjdeahmhenchaa
