/- Written by a program (gen.py): functions of the translation as transformers, with the link to Calls. -/
import Derived.Test.YtdjdeahmhenchaaLycDef
import Derived.Test.YtdjdeahmhenchaaLycTy
import Derived.Test.YtdjdeahmhenchaaW0
set_option linter.unusedSimpArgs false
set_option linter.unusedVariables false
namespace Go.Proofs.Ytdjdeahmhenchaa
open Lyc Go
set_option maxRecDepth 100000

/- lyceum/grid.Put -/
def grid_Put (p0 p1 p2 p3 : Value) (K : Value → World → Prop) : World → Prop :=
  xB 54 p0 fun t4 =>
  xB 3 p1 fun t5 =>
  xB 45 p3 fun t7 =>
  xA 54 fun t8 =>
  xL 54 t4 fun t13 =>
  xC 51 [.const t13] [54] 4 fun t14 =>
  xN 4 t14 fun t15 =>
  xW t15
  (xL 54 t4 fun t16 =>
  xS 54 t8 t16 <|
  xD 54 t8 fun t8_1 =>
  K t8_1) <|
  xF 54 t4 1 fun t19 =>
  xL 3 t19 fun t20 =>
  xC 72 [.const p2, .const (.int .i64 1), .const t20] [3, 3, 3] 107 fun t21 =>
  xE t21 0 3 fun t22 =>
  xE t21 1 3 fun t23 =>
  xL 3 t5 fun t25 =>
  xL 45 t7 fun t26 =>
  xU t26 45 fun t27 =>
  xF 54 t4 0 fun t28 =>
  xL 3 t28 fun t29 =>
  xC 72 [.const t25, .const t27, .const t29] [3, 3, 3] 107 fun t30 =>
  xE t30 0 3 fun t31 =>
  xE t30 1 3 fun t32 =>
  xA 3 fun t11 =>
  xA 3 fun t12 =>
  xS 3 t11 t31 <|
  xS 3 t12 t32 <|
  xL 54 t4 fun t33 =>
  OpX Try.prog (.makeFunc (.func 74) #[] #[.const t11, .const t12, .const t7, .const t5]) 110 fun t36 =>
  xC 73 [.const t33, .const t22, .const t23, .const t36] [54, 3, 3, 110] 54 fun t37 =>
  xS 54 t8 t37 <|
  xD 54 t8 fun t8_2 =>
  K t8_2
theorem grid_Put_link (p0 p1 p2 p3 : Value) : Lk 38 #[p0, p1, p2, p3] (grid_Put p0 p1 p2 p3) := lk [p0, p1, p2, p3] [] Try.func38 (by kernel_rfl) fun _ _ => by kernel_rfl
theorem grid_Put_b : Bodied Try.prog 38 := bd Try.func38 (by kernel_rfl)

/- lyceum/grid.At -/
def grid_At (p0 p1 p2 : Value) (K : Value → World → Prop) : World → Prop :=
  xB 54 p0 fun t3 =>
  xA 44 fun t6 =>
  Join1 (fun k1 =>
  xL 54 t3 fun t7 =>
  xC 78 [.const t7] [54] 4 fun t8 =>
  xN 4 t8 fun t9 =>
  xW t9
  (k1 (.bool true)) <|
  xO .lss 3 p2 (.int .i64 0) fun t12 =>
  xW t12
  (k1 (.bool true)) <|
  xF 54 t3 1 fun t16 =>
  xL 3 t16 fun t17 =>
  xO .geq 3 p2 t17 fun t18 =>
  xW t18
  (k1 (.bool true)) <|
  xO .lss 3 p1 (.int .i64 0) fun t22 =>
  xW t22
  (k1 (.bool true)) <|
  xF 54 t3 0 fun t26 =>
  xL 3 t26 fun t27 =>
  xO .geq 3 p1 t27 fun t28 =>
  k1 t28) fun t29 =>
  xW t29
  (OpX Try.prog (.build 44 #[]) 44 fun t30 =>
  xS 44 t6 t30 <|
  xD 44 t6 fun t6_1 =>
  K t6_1) <|
  xF 54 t3 2 fun t31 =>
  xL 45 t31 fun t32 =>
  xF 54 t3 0 fun t34 =>
  xL 3 t34 fun t35 =>
  xO .mul 3 p2 t35 fun t36 =>
  xO .add 3 t36 p1 fun t38 =>
  xI 45 t32 t38 fun t39 =>
  xL 44 t39 fun t40 =>
  xS 44 t6 t40 <|
  xD 44 t6 fun t6_2 =>
  K t6_2
theorem grid_At_link (p0 p1 p2 : Value) : Lk 42 #[p0, p1, p2] (grid_At p0 p1 p2) := lk [p0, p1, p2] [(4, [29])] Try.func42 (by kernel_rfl) fun _ _ => by kernel_rfl
theorem grid_At_b : Bodied Try.prog 42 := bd Try.func42 (by kernel_rfl)

/- lyceum/grid.Fill -/
def grid_Fill (p0 p1 p2 : Value) (K : Value → World → Prop) : World → Prop :=
  xB 54 p0 fun t3 =>
  xB 66 p1 fun t4 =>
  xB 44 p2 fun t5 =>
  xA 54 fun t6 =>
  Join1 (fun k1 =>
  xL 54 t3 fun t11 =>
  xC 51 [.const t11] [54] 4 fun t12 =>
  xN 4 t12 fun t13 =>
  xW t13
  (k1 (.bool true)) <|
  xL 44 t5 fun t15 =>
  xC 84 [.const t15] [44] 4 fun t16 =>
  xN 4 t16 fun t17 =>
  k1 t17) fun t18 =>
  xW t18
  (xL 54 t3 fun t19 =>
  xS 54 t6 t19 <|
  xD 54 t6 fun t6_1 =>
  K t6_1) <|
  xF 66 t4 1 fun t21 =>
  xL 3 t21 fun t22 =>
  xF 66 t4 3 fun t23 =>
  xL 3 t23 fun t24 =>
  xF 54 t3 1 fun t25 =>
  xL 3 t25 fun t26 =>
  xC 72 [.const t22, .const t24, .const t26] [3, 3, 3] 107 fun t27 =>
  xE t27 0 3 fun t28 =>
  xE t27 1 3 fun t29 =>
  xF 66 t4 0 fun t31 =>
  xL 3 t31 fun t32 =>
  xF 66 t4 2 fun t33 =>
  xL 3 t33 fun t34 =>
  xF 54 t3 0 fun t35 =>
  xL 3 t35 fun t36 =>
  xC 72 [.const t32, .const t34, .const t36] [3, 3, 3] 107 fun t37 =>
  xE t37 0 3 fun t38 =>
  xE t37 1 3 fun t39 =>
  xA 3 fun t9 =>
  xA 3 fun t10 =>
  xS 3 t9 t38 <|
  xS 3 t10 t39 <|
  xL 54 t3 fun t40 =>
  OpX Try.prog (.makeFunc (.func 85) #[] #[.const t9, .const t10, .const t5]) 110 fun t43 =>
  xC 73 [.const t40, .const t28, .const t29, .const t43] [54, 3, 3, 110] 54 fun t44 =>
  xS 54 t6 t44 <|
  xD 54 t6 fun t6_2 =>
  K t6_2
theorem grid_Fill_link (p0 p1 p2 : Value) : Lk 45 #[p0, p1, p2] (grid_Fill p0 p1 p2) := lk [p0, p1, p2] [(4, [18])] Try.func45 (by kernel_rfl) fun _ _ => by kernel_rfl
theorem grid_Fill_b : Bodied Try.prog 45 := bd Try.func45 (by kernel_rfl)

/- lyceum/grid.Scroll -/
def grid_Scroll (p0 p1 p2 p3 p4 : Value) (K : Value → World → Prop) : World → Prop :=
  xB 54 p0 fun t5 =>
  xB 3 p1 fun t6 =>
  xB 3 p2 fun t7 =>
  xB 3 p3 fun t8 =>
  xB 44 p4 fun t9 =>
  xA 54 fun t10 =>
  Join1 (fun k1 =>
  xL 54 t5 fun t11 =>
  xC 51 [.const t11] [54] 4 fun t12 =>
  xN 4 t12 fun t13 =>
  xW t13
  (k1 (.bool true)) <|
  xL 44 t9 fun t15 =>
  xC 84 [.const t15] [44] 4 fun t16 =>
  xN 4 t16 fun t17 =>
  k1 t17) fun t18 =>
  xW t18
  (xL 54 t5 fun t19 =>
  xS 54 t10 t19 <|
  xD 54 t10 fun t10_1 =>
  K t10_1) <|
  DrewW <|
  qL 3 t6 fun t20 =>
  xP (.call { callee := .builtin .max, args := #[.const t20, .const (.int .i64 0)], argTypes := #[3, 3] }) 3 fun t21 =>
  qF 54 t5 1 fun t22 =>
  qL 3 t22 fun t23 =>
  xP (.call { callee := .builtin .min, args := #[.const t21, .const t23], argTypes := #[3, 3] }) 3 fun t24 =>
  qL 3 t7 fun t25 =>
  xP (.call { callee := .builtin .max, args := #[.const t25, .const (.int .i64 0)], argTypes := #[3, 3] }) 3 fun t26 =>
  qF 54 t5 1 fun t27 =>
  qL 3 t27 fun t28 =>
  xP (.call { callee := .builtin .min, args := #[.const t26, .const t28], argTypes := #[3, 3] }) 3 fun t29 =>
  xS 3 t6 t24 <|
  xT (qZ 3 t27 t28) <|
  xT (qZ 3 t7 t25) <|
  xS 3 t7 t29 <|
  xL 3 t8 fun t30 =>
  xF 54 t5 1 fun t31 =>
  xL 3 t31 fun t32 =>
  OpX Try.prog (.unOp .neg 3 (.const t32)) 3 fun t33 =>
  OpX Try.prog (.call { callee := .builtin .max, args := #[.const t30, .const t33], argTypes := #[3, 3] }) 3 fun t34 =>
  xF 54 t5 1 fun t35 =>
  xL 3 t35 fun t36 =>
  OpX Try.prog (.call { callee := .builtin .min, args := #[.const t34, .const t36], argTypes := #[3, 3] }) 3 fun t37 =>
  xS 3 t8 t37 <|
  xL 54 t5 fun t38 =>
  xL 3 t6 fun t39 =>
  xL 3 t7 fun t40 =>
  OpX Try.prog (.makeFunc (.func 87) #[] #[.const t8, .const t6, .const t7, .const t9, .const t5]) 110 fun t41 =>
  xC 73 [.const t38, .const t39, .const t40, .const t41] [54, 3, 3, 110] 54 fun t42 =>
  xS 54 t10 t42 <|
  xD 54 t10 fun t10_2 =>
  K t10_2
theorem grid_Scroll_link (p0 p1 p2 p3 p4 : Value) : Lk 47 #[p0, p1, p2, p3, p4] (grid_Scroll p0 p1 p2 p3 p4) := lk [p0, p1, p2, p3, p4] [(4, [18])] Try.func47 (by kernel_rfl) fun _ _ => by kernel_rfl
theorem grid_Scroll_b : Bodied Try.prog 47 := bd Try.func47 (by kernel_rfl)

/- lyceum/grid.Blit -/
def grid_Blit (p0 p1 p2 p3 : Value) (K : Value → World → Prop) : World → Prop :=
  xB 54 p0 fun t4 =>
  xB 54 p1 fun t5 =>
  xB 3 p2 fun t6 =>
  xB 3 p3 fun t7 =>
  xA 54 fun t8 =>
  Join1 (fun k1 =>
  xL 54 t4 fun t13 =>
  xC 51 [.const t13] [54] 4 fun t14 =>
  xN 4 t14 fun t15 =>
  xW t15
  (k1 (.bool true)) <|
  xL 54 t5 fun t17 =>
  xC 51 [.const t17] [54] 4 fun t18 =>
  xN 4 t18 fun t19 =>
  k1 t19) fun t20 =>
  xW t20
  (xL 54 t4 fun t21 =>
  xS 54 t8 t21 <|
  xD 54 t8 fun t8_1 =>
  K t8_1) <|
  xL 3 t7 fun t23 =>
  xF 54 t5 1 fun t24 =>
  xL 3 t24 fun t25 =>
  xF 54 t4 1 fun t26 =>
  xL 3 t26 fun t27 =>
  xC 72 [.const t23, .const t25, .const t27] [3, 3, 3] 107 fun t28 =>
  xE t28 0 3 fun t29 =>
  xE t28 1 3 fun t30 =>
  xL 3 t6 fun t32 =>
  xF 54 t5 0 fun t33 =>
  xL 3 t33 fun t34 =>
  xF 54 t4 0 fun t35 =>
  xL 3 t35 fun t36 =>
  xC 72 [.const t32, .const t34, .const t36] [3, 3, 3] 107 fun t37 =>
  xE t37 0 3 fun t38 =>
  xE t37 1 3 fun t39 =>
  xA 3 fun t11 =>
  xA 3 fun t12 =>
  xS 3 t11 t38 <|
  xS 3 t12 t39 <|
  xL 54 t4 fun t40 =>
  OpX Try.prog (.makeFunc (.func 89) #[] #[.const t11, .const t12, .const t5, .const t6, .const t7]) 110 fun t43 =>
  xC 73 [.const t40, .const t29, .const t30, .const t43] [54, 3, 3, 110] 54 fun t44 =>
  xS 54 t8 t44 <|
  xD 54 t8 fun t8_2 =>
  K t8_2
theorem grid_Blit_link (p0 p1 p2 p3 : Value) : Lk 48 #[p0, p1, p2, p3] (grid_Blit p0 p1 p2 p3) := lk [p0, p1, p2, p3] [(4, [20])] Try.func48 (by kernel_rfl) fun _ _ => by kernel_rfl
theorem grid_Blit_b : Bodied Try.prog 48 := bd Try.func48 (by kernel_rfl)

/- lyceum/grid.Resize -/
def grid_Resize (p0 p1 p2 p3 : Value) (K : Value → World → Prop) : World → Prop :=
  xB 54 p0 fun t4 =>
  xB 44 p3 fun t7 =>
  xA 54 fun t8 =>
  Join1 (fun k1 =>
  xL 54 t4 fun t9 =>
  xC 51 [.const t9] [54] 4 fun t10 =>
  xN 4 t10 fun t11 =>
  xW t11
  (k1 (.bool true)) <|
  xL 44 t7 fun t13 =>
  xC 84 [.const t13] [44] 4 fun t14 =>
  xN 4 t14 fun t15 =>
  xW t15
  (k1 (.bool true)) <|
  xC 90 [.const p1, .const p2] [3, 3] 4 fun t20 =>
  xN 4 t20 fun t21 =>
  k1 t21) fun t22 =>
  xW t22
  (xL 54 t4 fun t23 =>
  xS 54 t8 t23 <|
  xD 54 t8 fun t8_1 =>
  K t8_1) <|
  DrewW <|
  Join0 (fun k2 =>
  qL 44 t7 fun t26 =>
  qF 54 t4 1 fun t29 =>
  qL 3 t29 fun t30 =>
  xP (.call { callee := .builtin .min, args := #[.const p2, .const t30], argTypes := #[3, 3] }) 3 fun t31 =>
  xT (xC 91 [.const p1, .const p2, .const t26] [3, 3, 44] 54 fun t27 =>
  xT (qZ 3 t29 t30) <|
  OpX Try.prog (.makeFunc (.func 92) #[] #[.const t4]) 110 fun t32 =>
  xT (qZ 3 t29 t30) <|
  xC 73 [.const t27, .const (.int .i64 0), .const t31, .const t32] [54, 3, 3, 110] 54 fun t33 =>
  xS 54 t8 t33 <|
  k2) <|
  OpX Try.prog (.makeFunc (.func 92) #[] #[.const t4]) 110 fun t32_1 =>
  xT (qZ 3 t29 t30) <|
  xT (qZ 44 t7 t26) <|
  xC 91 [.const p1, .const p2, .const t26] [3, 3, 44] 54 fun t27_1 =>
  xT (qZ 3 t29 t30) <|
  xC 73 [.const t27_1, .const (.int .i64 0), .const t31, .const t32_1] [54, 3, 3, 110] 54 fun t33_1 =>
  xS 54 t8 t33_1 <|
  k2) <|
  xD 54 t8 fun t8_2 =>
  K t8_2
theorem grid_Resize_link (p0 p1 p2 p3 : Value) : Lk 49 #[p0, p1, p2, p3] (grid_Resize p0 p1 p2 p3) := lk [p0, p1, p2, p3] [(4, [22]), (11, [])] Try.func49 (by kernel_rfl) fun _ _ => by kernel_rfl
theorem grid_Resize_b : Bodied Try.prog 49 := bd Try.func49 (by kernel_rfl)

/- lyceum/grid.Same -/
def grid_Same (p0 p1 : Value) (K : Value → World → Prop) : World → Prop :=
  xB 54 p0 fun t2 =>
  xB 54 p1 fun t3 =>
  Join1 (fun k1 =>
  xF 54 t2 0 fun t5 =>
  xL 3 t5 fun t6 =>
  xF 54 t3 0 fun t7 =>
  xL 3 t7 fun t8 =>
  xO .eql 3 t6 t8 fun t9 =>
  xW t9
  (xF 54 t2 1 fun t11 =>
  xL 3 t11 fun t12 =>
  xF 54 t3 1 fun t13 =>
  xL 3 t13 fun t14 =>
  xO .eql 3 t12 t14 fun t15 =>
  xW t15
  (xF 54 t2 2 fun t18 =>
  xL 45 t18 fun t19 =>
  xF 54 t3 2 fun t20 =>
  xL 45 t20 fun t21 =>
  xC 93 [.const t19, .const t21] [45, 45] 4 fun t22 =>
  k1 t22) <|
  k1 (.bool false)) <|
  k1 (.bool false)) fun t4 =>
  K t4
theorem grid_Same_link (p0 p1 : Value) : Lk 50 #[p0, p1] (grid_Same p0 p1) := lk [p0, p1] [(3, [4])] Try.func50 (by kernel_rfl) fun _ _ => by kernel_rfl
theorem grid_Same_b : Bodied Try.prog 50 := bd Try.func50 (by kernel_rfl)

/- lyceum/grid.Check -/
def grid_Check (p0 : Value) (K : Value → World → Prop) : World → Prop :=
  xB 54 p0 fun t1 =>
  xA 4 fun t2 =>
  Join1 (fun k1 =>
  xF 54 t1 0 fun t5 =>
  xL 3 t5 fun t6 =>
  xF 54 t1 1 fun t7 =>
  xL 3 t7 fun t8 =>
  xC 90 [.const t6, .const t8] [3, 3] 4 fun t9 =>
  xN 4 t9 fun t10 =>
  xW t10
  (k1 (.bool true)) <|
  xF 54 t1 2 fun t12 =>
  xL 45 t12 fun t13 =>
  xU t13 45 fun t14 =>
  xF 54 t1 0 fun t15 =>
  xL 3 t15 fun t16 =>
  xF 54 t1 1 fun t17 =>
  xL 3 t17 fun t18 =>
  xO .mul 3 t16 t18 fun t19 =>
  xO .neq 3 t14 t19 fun t20 =>
  k1 t20) fun t21 =>
  xW t21
  (xS 4 t2 (.bool false) <|
  xD 4 t2 fun t2_1 =>
  K t2_1) <|
  xL 54 t1 fun t22 =>
  xF 54 t1 1 fun t23 =>
  xL 3 t23 fun t24 =>
  xC 94 [.const t22, .const (.int .i64 0), .const t24] [54, 3, 3] 122 fun t25 =>
  RngX Try.prog t25 2 (fun vs2 bg2 kn2 kr2 _ =>
  bg2 <|
  xC 95 [.const (nthV vs2 1)] [45] 4 fun t29 =>
  xN 4 t29 fun t30 =>
  xW t30
  (xS 4 t2 (.bool false) <|
  kr2) <|
  kn2)
  (fun r2 =>
  xS 4 t2 (.bool true) <|
  closeV (dcons r2 (.tuple #[])) <|
  xD 4 t2 fun t2_2 =>
  K t2_2)
  (fun r2 =>
  closeV (dcons r2 (.tuple #[])) <|
  xD 4 t2 fun t2_3 =>
  K t2_3)
  []
theorem grid_Check_link (p0 : Value) : Lk 51 #[p0] (grid_Check p0) := lk [p0] [(4, [21])] Try.func51 (by kernel_rfl) fun _ _ => by kernel_rfl
theorem grid_Check_b : Bodied Try.prog 51 := bd Try.func51 (by kernel_rfl)

/- lyceum/grid.span -/
def grid_span (p0 p1 p2 : Value) (K : Value → World → Prop) : World → Prop :=
  Join1 (fun k1 =>
  xO .leq 3 p1 (.int .i64 0) fun t9 =>
  xW t9
  (k1 (.bool true)) <|
  xO .geq 3 p0 p2 fun t13 =>
  xW t13
  (k1 (.bool true)) <|
  xO .lss 3 p0 (.int .i64 0) fun t17 =>
  xW t17
  (xO .add 3 p0 p1 fun t21 =>
  xO .leq 3 t21 (.int .i64 0) fun t22 =>
  k1 t22) <|
  k1 (.bool false)) fun t24 =>
  xW t24
  (K (.tuple #[(.int .i64 0), (.int .i64 0)])) <|
  xO .lss 3 p0 (.int .i64 0) fun t26 =>
  xW t26
  (xO .add 3 p0 p1 fun t29 =>
  OpX Try.prog (.call { callee := .builtin .min, args := #[.const t29, .const p2], argTypes := #[3, 3] }) 3 fun t31 =>
  K (.tuple #[(.int .i64 0), t31])) <|
  xO .sub 3 p2 p0 fun t37 =>
  OpX Try.prog (.call { callee := .builtin .min, args := #[.const p1, .const t37], argTypes := #[3, 3] }) 3 fun t38 =>
  xO .add 3 p0 t38 fun t39 =>
  K (.tuple #[p0, t39])
theorem grid_span_link (p0 p1 p2 : Value) : Lk 72 #[p0, p1, p2] (grid_span p0 p1 p2) := lk [p0, p1, p2] [(4, [24])] Try.func72 (by kernel_rfl) fun _ _ => by kernel_rfl
theorem grid_span_b : Bodied Try.prog 72 := bd Try.func72 (by kernel_rfl)

/- lyceum/grid.change -/
def grid_change (p0 p1 p2 p3 : Value) (K : Value → World → Prop) : World → Prop :=
  xB 54 p0 fun t4 =>
  xB 110 p3 fun t7 =>
  xA 54 fun t8 =>
  xF 54 t4 2 fun t11 =>
  xL 45 t11 fun t12 =>
  xC 104 [.const t12] [45] 45 fun t13 =>
  xF 54 t4 2 fun t14 =>
  xS 45 t14 t13 <|
  xL 54 t4 fun t15 =>
  xC 94 [.const t15, .const p1, .const p2] [54, 3, 3] 122 fun t18 =>
  RngX Try.prog t18 2 (fun vs1 bg1 kn1 _ _ =>
  bg1 <|
  xL 110 t7 fun t21 =>
  OpX Try.prog (.call { callee := .value (.const t21), args := #[.const (nthV vs1 0), .const (nthV vs1 1)], argTypes := #[3, 45] }) 0 fun _ =>
  xC 65 [.const (nthV vs1 1)] [45] 45 fun t27 =>
  OpX Try.prog (.call { callee := .builtin .copy, args := #[.const (nthV vs1 1), .const t27], argTypes := #[45, 45] }) 3 fun _ =>
  kn1)
  (fun r1 =>
  xL 54 t4 fun t29 =>
  xS 54 t8 t29 <|
  closeV (dcons r1 (.tuple #[])) <|
  xD 54 t8 fun t8_1 =>
  K t8_1)
  (fun _ _ => False)
  []
theorem grid_change_link (p0 p1 p2 p3 : Value) : Lk 73 #[p0, p1, p2, p3] (grid_change p0 p1 p2 p3) := lk [p0, p1, p2, p3] [] Try.func73 (by kernel_rfl) fun _ _ => by kernel_rfl
theorem grid_change_b : Bodied Try.prog 73 := bd Try.func73 (by kernel_rfl)

/- lyceum/grid.Put$1 -/
def grid_Put_1 (p0 p1 p2 p3 p4 p5 : Value) (K : Value → World → Prop) : World → Prop :=
  xL 3 p2 fun t9 =>
  Loop1 t9 fun t8 next1 =>
  xL 3 p3 fun t11 =>
  xO .lss 3 t8 t11 fun t12 =>
  xW t12
  (xL 45 p4 fun t17 =>
  xL 3 p5 fun t19 =>
  xO .sub 3 t8 t19 fun t20 =>
  xI 45 t17 t20 fun t21 =>
  xL 44 t21 fun t22 =>
  xI 45 p1 t8 fun t23 =>
  xS 44 t23 t22 <|
  xO .add 3 t8 (.int .i64 1) fun t14 =>
  next1 t14) <|
  K (.tuple #[])
theorem grid_Put_1_link (p0 p1 p2 p3 p4 p5 : Value) : Lk 74 #[p0, p1, p2, p3, p4, p5] (grid_Put_1 p0 p1 p2 p3 p4 p5) := lk [p0, p1, p2, p3, p4, p5] [(3, [8])] Try.func74 (by kernel_rfl) fun _ _ => by kernel_rfl
theorem grid_Put_1_b : Bodied Try.prog 74 := bd Try.func74 (by kernel_rfl)

/- lyceum/grid.Row -/
def grid_Row (p0 p1 : Value) (K : Value → World → Prop) : World → Prop :=
  xB 54 p0 fun t2 =>
  Join1 (fun k1 =>
  xL 54 t2 fun t5 =>
  xC 78 [.const t5] [54] 4 fun t6 =>
  xN 4 t6 fun t7 =>
  xW t7
  (k1 (.bool true)) <|
  xO .lss 3 p1 (.int .i64 0) fun t10 =>
  xW t10
  (k1 (.bool true)) <|
  xF 54 t2 1 fun t14 =>
  xL 3 t14 fun t15 =>
  xO .geq 3 p1 t15 fun t16 =>
  k1 t16) fun t17 =>
  xW t17
  (K (.slice none 0 0)) <|
  xL 54 t2 fun t18 =>
  xC 88 [.const t18, .const p1] [54, 3] 45 fun t20 =>
  xC 104 [.const t20] [45] 45 fun t21 =>
  K t21
theorem grid_Row_link (p0 p1 : Value) : Lk 75 #[p0, p1] (grid_Row p0 p1) := lk [p0, p1] [(4, [17])] Try.func75 (by kernel_rfl) fun _ _ => by kernel_rfl
theorem grid_Row_b : Bodied Try.prog 75 := bd Try.func75 (by kernel_rfl)

/- lyceum/grid.whole -/
def grid_whole (p0 : Value) (K : Value → World → Prop) : World → Prop :=
  xB 54 p0 fun t1 =>
  DrewW <|
  Join1 (fun k1 =>
  qF 54 t1 0 fun t3 =>
  qL 3 t3 fun t4 =>
  qP .geq 3 t4 (.int .i64 1) fun t5 =>
  xW t5
  (qF 54 t1 1 fun t7 =>
  qL 3 t7 fun t8 =>
  qP .geq 3 t8 (.int .i64 1) fun t9 =>
  xW t9
  (qF 54 t1 2 fun t12 =>
  qL 45 t12 fun t13 =>
  xR (.call { callee := .builtin .len, args := #[.const t13], argTypes := #[45] }) 3 fun t14 =>
  qF 54 t1 0 fun t15 =>
  qL 3 t15 fun t16 =>
  qP .quo 3 t14 t16 fun t17 =>
  qF 54 t1 1 fun t18 =>
  qL 3 t18 fun t19 =>
  qP .geq 3 t17 t19 fun t20 =>
  k1 t20) <|
  k1 (.bool false)) <|
  k1 (.bool false)) fun t2 =>
  K t2
theorem grid_whole_link (p0 : Value) : Lk 78 #[p0] (grid_whole p0) := lk [p0] [(3, [2])] Try.func78 (by kernel_rfl) fun _ _ => by kernel_rfl
theorem grid_whole_b : Bodied Try.prog 78 := bd Try.func78 (by kernel_rfl)

/- lyceum/grid.New -/
def grid_New (p0 p1 : Value) (K : Value → World → Prop) : World → Prop :=
  xA 54 fun t4 =>
  xC 90 [.const p0, .const p1] [3, 3] 4 fun t7 =>
  xN 4 t7 fun t8 =>
  xW t8
  (OpX Try.prog (.build 54 #[]) 54 fun t9 =>
  xS 54 t4 t9 <|
  xD 54 t4 fun t4_1 =>
  K t4_1) <|
  xC 105 [] [] 44 fun t12 =>
  xC 91 [.const p0, .const p1, .const t12] [3, 3, 44] 54 fun t13 =>
  xS 54 t4 t13 <|
  xD 54 t4 fun t4_2 =>
  K t4_2
theorem grid_New_link (p0 p1 : Value) : Lk 79 #[p0, p1] (grid_New p0 p1) := lk [p0, p1] [] Try.func79 (by kernel_rfl) fun _ _ => by kernel_rfl
theorem grid_New_b : Bodied Try.prog 79 := bd Try.func79 (by kernel_rfl)

/- lyceum/grid.Lines -/
def grid_Lines (p0 : Value) (K : Value → World → Prop) : World → Prop :=
  xB 54 p0 fun t1 =>
  xL 54 t1 fun t6 =>
  xC 78 [.const t6] [54] 4 fun t7 =>
  xN 4 t7 fun t8 =>
  xW t8
  (K (.slice none 0 0)) <|
  xA 113 fun t3 =>
  xL 54 t1 fun t9 =>
  xF 54 t1 1 fun t10 =>
  xL 3 t10 fun t11 =>
  xC 94 [.const t9, .const (.int .i64 0), .const t11] [54, 3, 3] 122 fun t12 =>
  RngX Try.prog t12 2 (fun vs1 bg1 kn1 _ _ =>
  bg1 <|
  DrewW <|
  qL 113 t3 fun t15 =>
  xC 63 [.const (nthV vs1 1)] [45] 9 fun t17 =>
  xT (qZ 113 t3 t15) <|
  OpX Try.prog (.buildSlice 113 1 #[(0, .const t17)]) 113 fun t18 =>
  xT (qZ 113 t3 t15) <|
  OpX Try.prog (.call { callee := .builtin .append, args := #[.const t15, .const t18], argTypes := #[113, 113] }) 113 fun t19 =>
  xS 113 t3 t19 <|
  kn1)
  (fun r1 =>
  xL 113 t3 fun t20 =>
  closeV (dcons r1 (.tuple #[])) <|
  K t20)
  (fun _ _ => False)
  []
theorem grid_Lines_link (p0 : Value) : Lk 81 #[p0] (grid_Lines p0) := lk [p0] [] Try.func81 (by kernel_rfl) fun _ _ => by kernel_rfl
theorem grid_Lines_b : Bodied Try.prog 81 := bd Try.func81 (by kernel_rfl)

/- lyceum/grid.Shift -/
def grid_Shift (p0 p1 p2 p3 p4 : Value) (K : Value → World → Prop) : World → Prop :=
  xB 54 p0 fun t5 =>
  xB 3 p1 fun t6 =>
  xB 3 p3 fun t8 =>
  xB 44 p4 fun t9 =>
  xA 54 fun t10 =>
  Join1 (fun k1 =>
  xL 54 t5 fun t13 =>
  xC 51 [.const t13] [54] 4 fun t14 =>
  xN 4 t14 fun t15 =>
  xW t15
  (k1 (.bool true)) <|
  xL 44 t9 fun t17 =>
  xC 84 [.const t17] [44] 4 fun t18 =>
  xN 4 t18 fun t19 =>
  k1 t19) fun t20 =>
  xW t20
  (xL 54 t5 fun t21 =>
  xS 54 t10 t21 <|
  xD 54 t10 fun t10_1 =>
  K t10_1) <|
  DrewW <|
  qL 3 t6 fun t22 =>
  xP (.call { callee := .builtin .max, args := #[.const t22, .const (.int .i64 0)], argTypes := #[3, 3] }) 3 fun t23 =>
  qL 3 t8 fun t24 =>
  qF 54 t5 0 fun t25 =>
  qL 3 t25 fun t26 =>
  xP (.unOp .neg 3 (.const t26)) 3 fun t27 =>
  xP (.call { callee := .builtin .max, args := #[.const t24, .const t27], argTypes := #[3, 3] }) 3 fun t28 =>
  qF 54 t5 0 fun t29 =>
  qL 3 t29 fun t30 =>
  xP (.call { callee := .builtin .min, args := #[.const t28, .const t30], argTypes := #[3, 3] }) 3 fun t31 =>
  xS 3 t6 t23 <|
  xT (qZ 3 t29 t30) <|
  xT (qZ 3 t25 t26) <|
  xT (qZ 3 t8 t24) <|
  xS 3 t8 t31 <|
  xF 54 t5 1 fun t34 =>
  xL 3 t34 fun t35 =>
  xC 72 [.const p2, .const (.int .i64 1), .const t35] [3, 3, 3] 107 fun t36 =>
  xE t36 0 3 fun t37 =>
  xE t36 1 3 fun t38 =>
  xL 54 t5 fun t39 =>
  OpX Try.prog (.makeFunc (.func 106) #[] #[.const t5, .const t6, .const t9, .const t8]) 110 fun t42 =>
  xC 73 [.const t39, .const t37, .const t38, .const t42] [54, 3, 3, 110] 54 fun t43 =>
  xS 54 t10 t43 <|
  xD 54 t10 fun t10_2 =>
  K t10_2
theorem grid_Shift_link (p0 p1 p2 p3 p4 : Value) : Lk 82 #[p0, p1, p2, p3, p4] (grid_Shift p0 p1 p2 p3 p4) := lk [p0, p1, p2, p3, p4] [(4, [20])] Try.func82 (by kernel_rfl) fun _ _ => by kernel_rfl
theorem grid_Shift_b : Bodied Try.prog 82 := bd Try.func82 (by kernel_rfl)

/- lyceum/grid.usual -/
def grid_usual (p0 : Value) (K : Value → World → Prop) : World → Prop :=
  xB 44 p0 fun t1 =>
  Join1 (fun k1 =>
  xL 44 t1 fun t3 =>
  xC 98 [.const t3] [44] 4 fun t4 =>
  xW t4
  (xF 44 t1 3 fun t6 =>
  xL 5 t6 fun t7 =>
  xO .and 5 t7 (.int .u8 192) fun t8 =>
  xO .eql 5 t8 (.int .u8 0) fun t9 =>
  k1 t9) <|
  k1 (.bool false)) fun t2 =>
  K t2
theorem grid_usual_link (p0 : Value) : Lk 84 #[p0] (grid_usual p0) := lk [p0] [(3, [2])] Try.func84 (by kernel_rfl) fun _ _ => by kernel_rfl
theorem grid_usual_b : Bodied Try.prog 84 := bd Try.func84 (by kernel_rfl)

/- lyceum/grid.Fill$1 -/
def grid_Fill_1 (p0 p1 p2 p3 p4 : Value) (K : Value → World → Prop) : World → Prop :=
  DrewW <|
  qL 3 p2 fun t8 =>
  qL 3 p3 fun t9 =>
  xP (.slice 45 (.const p1) (some (.const t8)) (some (.const t9)) none) 45 fun t10 =>
  qL 44 p4 fun t11 =>
  xC 86 [.const t10, .const t11] [45, 44] 0 fun _ =>
  K (.tuple #[])
theorem grid_Fill_1_link (p0 p1 p2 p3 p4 : Value) : Lk 85 #[p0, p1, p2, p3, p4] (grid_Fill_1 p0 p1 p2 p3 p4) := lk [p0, p1, p2, p3, p4] [] Try.func85 (by kernel_rfl) fun _ _ => by kernel_rfl
theorem grid_Fill_1_b : Bodied Try.prog 85 := bd Try.func85 (by kernel_rfl)

/- lyceum/grid.fill -/
def grid_fill (p0 p1 : Value) (K : Value → World → Prop) : World → Prop :=
  xB 44 p1 fun t3 =>
  xU p0 45 fun t6 =>
  Loop1 (.int .i64 0) fun t7 next1 =>
  xO .lss 3 t7 t6 fun t8 =>
  xW t8
  (xL 44 t3 fun t12 =>
  xI 45 p0 t7 fun t13 =>
  xS 44 t13 t12 <|
  xO .add 3 t7 (.int .i64 1) fun t14 =>
  next1 t14) <|
  K (.tuple #[])
theorem grid_fill_link (p0 p1 : Value) : Lk 86 #[p0, p1] (grid_fill p0 p1) := lk [p0, p1] [(5, [7])] Try.func86 (by kernel_rfl) fun _ _ => by kernel_rfl
theorem grid_fill_b : Bodied Try.prog 86 := bd Try.func86 (by kernel_rfl)

/- lyceum/grid.Scroll$1 -/
def grid_Scroll_1 (p0 p1 p2 p3 p4 p5 p6 : Value) (K : Value → World → Prop) : World → Prop :=
  Join1 (fun k1 =>
  xL 3 p2 fun t10 =>
  xO .add 3 p0 t10 fun t11 =>
  xL 3 p3 fun t12 =>
  xO .lss 3 t11 t12 fun t13 =>
  xW t13
  (k1 (.bool true)) <|
  xL 3 p2 fun t16 =>
  xO .add 3 p0 t16 fun t17 =>
  xL 3 p4 fun t18 =>
  xO .geq 3 t17 t18 fun t19 =>
  k1 t19) fun t20 =>
  xW t20
  (xL 44 p5 fun t22 =>
  xC 86 [.const p1, .const t22] [45, 44] 0 fun _ =>
  K (.tuple #[])) <|
  xL 54 p6 fun t25 =>
  xL 3 p2 fun t27 =>
  xO .add 3 p0 t27 fun t28 =>
  xC 88 [.const t25, .const t28] [54, 3] 45 fun t29 =>
  OpX Try.prog (.call { callee := .builtin .copy, args := #[.const p1, .const t29], argTypes := #[45, 45] }) 3 fun _ =>
  K (.tuple #[])
theorem grid_Scroll_1_link (p0 p1 p2 p3 p4 p5 p6 : Value) : Lk 87 #[p0, p1, p2, p3, p4, p5, p6] (grid_Scroll_1 p0 p1 p2 p3 p4 p5 p6) := lk [p0, p1, p2, p3, p4, p5, p6] [(2, [20])] Try.func87 (by kernel_rfl) fun _ _ => by kernel_rfl
theorem grid_Scroll_1_b : Bodied Try.prog 87 := bd Try.func87 (by kernel_rfl)

/- lyceum/grid.cut -/
def grid_cut (p0 p1 : Value) (K : Value → World → Prop) : World → Prop :=
  xB 54 p0 fun t2 =>
  xF 54 t2 2 fun t5 =>
  xL 45 t5 fun t6 =>
  xF 54 t2 0 fun t8 =>
  xL 3 t8 fun t9 =>
  xO .mul 3 p1 t9 fun t10 =>
  xO .add 3 p1 (.int .i64 1) fun t12 =>
  xF 54 t2 0 fun t13 =>
  xL 3 t13 fun t14 =>
  xO .mul 3 t12 t14 fun t15 =>
  xO .add 3 p1 (.int .i64 1) fun t17 =>
  xF 54 t2 0 fun t18 =>
  xL 3 t18 fun t19 =>
  xO .mul 3 t17 t19 fun t20 =>
  OpX Try.prog (.slice 45 (.const t6) (some (.const t10)) (some (.const t15)) (some (.const t20))) 45 fun t21 =>
  K t21
theorem grid_cut_link (p0 p1 : Value) : Lk 88 #[p0, p1] (grid_cut p0 p1) := lk [p0, p1] [] Try.func88 (by kernel_rfl) fun _ _ => by kernel_rfl
theorem grid_cut_b : Bodied Try.prog 88 := bd Try.func88 (by kernel_rfl)

/- lyceum/grid.Blit$1 -/
def grid_Blit_1 (p0 p1 p2 p3 p4 p5 p6 : Value) (K : Value → World → Prop) : World → Prop :=
  xL 3 p2 fun t10 =>
  Loop1 t10 fun t9 next1 =>
  xL 3 p3 fun t12 =>
  xO .lss 3 t9 t12 fun t13 =>
  xW t13
  (xL 54 p4 fun t18 =>
  xL 3 p5 fun t20 =>
  xO .sub 3 t9 t20 fun t21 =>
  xL 3 p6 fun t23 =>
  xO .sub 3 p0 t23 fun t24 =>
  xC 42 [.const t18, .const t21, .const t24] [54, 3, 3] 44 fun t25 =>
  xI 45 p1 t9 fun t26 =>
  xS 44 t26 t25 <|
  xO .add 3 t9 (.int .i64 1) fun t15 =>
  next1 t15) <|
  K (.tuple #[])
theorem grid_Blit_1_link (p0 p1 p2 p3 p4 p5 p6 : Value) : Lk 89 #[p0, p1, p2, p3, p4, p5, p6] (grid_Blit_1 p0 p1 p2 p3 p4 p5 p6) := lk [p0, p1, p2, p3, p4, p5, p6] [(3, [9])] Try.func89 (by kernel_rfl) fun _ _ => by kernel_rfl
theorem grid_Blit_1_b : Bodied Try.prog 89 := bd Try.func89 (by kernel_rfl)

/- lyceum/grid.fits -/
def grid_fits (p0 p1 : Value) (K : Value → World → Prop) : World → Prop :=
  Join1 (fun k1 =>
  xO .geq 3 p0 (.int .i64 1) fun t6 =>
  xW t6
  (xO .leq 3 p0 (.int .i64 200) fun t9 =>
  xW t9
  (xO .geq 3 p1 (.int .i64 1) fun t13 =>
  xW t13
  (xO .leq 3 p1 (.int .i64 60) fun t17 =>
  k1 t17) <|
  k1 (.bool false)) <|
  k1 (.bool false)) <|
  k1 (.bool false)) fun t4 =>
  K t4
theorem grid_fits_link (p0 p1 : Value) : Lk 90 #[p0, p1] (grid_fits p0 p1) := lk [p0, p1] [(3, [4])] Try.func90 (by kernel_rfl) fun _ _ => by kernel_rfl
theorem grid_fits_b : Bodied Try.prog 90 := bd Try.func90 (by kernel_rfl)

/- lyceum/grid.filled -/
def grid_filled (p0 p1 p2 : Value) (K : Value → World → Prop) : World → Prop :=
  xB 44 p2 fun t5 =>
  xA 54 fun t6 =>
  xL 44 t5 fun t9 =>
  OpX Try.prog (.buildSlice 45 1 #[(0, .const t9)]) 45 fun t10 =>
  xO .mul 3 p0 p1 fun t13 =>
  xC 109 [.const t10, .const t13] [45, 3] 45 fun t14 =>
  OpX Try.prog (.build 54 #[(0, .const p0), (1, .const p1), (2, .const t14)]) 54 fun t15 =>
  xS 54 t6 t15 <|
  xD 54 t6 fun t6_1 =>
  K t6_1
theorem grid_filled_link (p0 p1 p2 : Value) : Lk 91 #[p0, p1, p2] (grid_filled p0 p1 p2) := lk [p0, p1, p2] [] Try.func91 (by kernel_rfl) fun _ _ => by kernel_rfl
theorem grid_filled_b : Bodied Try.prog 91 := bd Try.func91 (by kernel_rfl)

/- lyceum/grid.Resize$1 -/
def grid_Resize_1 (p0 p1 p2 : Value) (K : Value → World → Prop) : World → Prop :=
  xL 54 p2 fun t6 =>
  xC 88 [.const t6, .const p0] [54, 3] 45 fun t8 =>
  OpX Try.prog (.call { callee := .builtin .copy, args := #[.const p1, .const t8], argTypes := #[45, 45] }) 3 fun _ =>
  K (.tuple #[])
theorem grid_Resize_1_link (p0 p1 p2 : Value) : Lk 92 #[p0, p1, p2] (grid_Resize_1 p0 p1 p2) := lk [p0, p1, p2] [] Try.func92 (by kernel_rfl) fun _ _ => by kernel_rfl
theorem grid_Resize_1_b : Bodied Try.prog 92 := bd Try.func92 (by kernel_rfl)

/- lyceum/grid.rows -/
def grid_rows (p0 p1 p2 : Value) (K : Value → World → Prop) : World → Prop :=
  xB 54 p0 fun t3 =>
  xB 3 p1 fun t4 =>
  xB 3 p2 fun t5 =>
  OpX Try.prog (.makeFunc (.func 110) #[] #[.const t4, .const t5, .const t3]) 121 fun t7 =>
  K t7
theorem grid_rows_link (p0 p1 p2 : Value) : Lk 94 #[p0, p1, p2] (grid_rows p0 p1 p2) := lk [p0, p1, p2] [] Try.func94 (by kernel_rfl) fun _ _ => by kernel_rfl
theorem grid_rows_b : Bodied Try.prog 94 := bd Try.func94 (by kernel_rfl)

/- lyceum/grid.Shift$1 -/
def grid_Shift_1 (p0 p1 p2 p3 p4 p5 : Value) (K : Value → World → Prop) : World → Prop :=
  xL 54 p2 fun t10 =>
  xC 88 [.const t10, .const p0] [54, 3] 45 fun t12 =>
  xL 3 p3 fun t13 =>
  Loop1 t13 fun t9 next1 =>
  xF 54 p2 0 fun t15 =>
  xL 3 t15 fun t16 =>
  xO .lss 3 t9 t16 fun t17 =>
  xW t17
  (xL 44 p4 fun t22 =>
  xI 45 p1 t9 fun t23 =>
  xS 44 t23 t22 <|
  Join1 (fun k2 =>
  xL 3 p5 fun t25 =>
  xO .sub 3 t9 t25 fun t26 =>
  xL 3 p3 fun t27 =>
  xO .geq 3 t26 t27 fun t28 =>
  xW t28
  (xL 3 p5 fun t31 =>
  xO .sub 3 t9 t31 fun t32 =>
  xF 54 p2 0 fun t33 =>
  xL 3 t33 fun t34 =>
  xO .lss 3 t32 t34 fun t35 =>
  k2 t35) <|
  k2 (.bool false)) fun t36 =>
  xW t36
  (xL 3 p5 fun t41 =>
  xO .sub 3 t9 t41 fun t42 =>
  xI 45 t12 t42 fun t43 =>
  xL 44 t43 fun t44 =>
  xI 45 p1 t9 fun t45 =>
  xS 44 t45 t44 <|
  xO .add 3 t9 (.int .i64 1) fun t19 =>
  next1 t19) <|
  xO .add 3 t9 (.int .i64 1) fun t19_1 =>
  next1 t19_1) <|
  K (.tuple #[])
theorem grid_Shift_1_link (p0 p1 p2 p3 p4 p5 : Value) : Lk 106 #[p0, p1, p2, p3, p4, p5] (grid_Shift_1 p0 p1 p2 p3 p4 p5) := lk [p0, p1, p2, p3, p4, p5] [(5, [9]), (17, [36])] Try.func106 (by kernel_rfl) fun _ _ => by kernel_rfl
theorem grid_Shift_1_b : Bodied Try.prog 106 := bd Try.func106 (by kernel_rfl)

/- lyceum/grid.rows$1 -/
def grid_rows_1 (p0 p1 p2 p3 : Value) (K : Value → World → Prop) : World → Prop :=
  xL 3 p1 fun t6 =>
  OpX Try.prog (.call { callee := .builtin .max, args := #[.const t6, .const (.int .i64 0)], argTypes := #[3, 3] }) 3 fun t7 =>
  Loop1 t7 fun t5 next1 =>
  xL 3 p2 fun t9 =>
  xF 54 p3 1 fun t10 =>
  xL 3 t10 fun t11 =>
  OpX Try.prog (.call { callee := .builtin .min, args := #[.const t9, .const t11], argTypes := #[3, 3] }) 3 fun t12 =>
  xO .lss 3 t5 t12 fun t13 =>
  xW t13
  (xL 54 p3 fun t18 =>
  xC 88 [.const t18, .const t5] [54, 3] 45 fun t20 =>
  OpX Try.prog (.call { callee := .value (.const p0), args := #[.const t5, .const t20], argTypes := #[3, 45] }) 4 fun t21 =>
  xN 4 t21 fun t22 =>
  xW t22
  (K (.tuple #[])) <|
  xO .add 3 t5 (.int .i64 1) fun t15 =>
  next1 t15) <|
  K (.tuple #[])
theorem grid_rows_1_link (p0 p1 p2 p3 : Value) : Lk 110 #[p0, p1, p2, p3] (grid_rows_1 p0 p1 p2 p3) := lk [p0, p1, p2, p3] [(3, [5])] Try.func110 (by kernel_rfl) fun _ _ => by kernel_rfl
theorem grid_rows_1_b : Bodied Try.prog 110 := bd Try.func110 (by kernel_rfl)

end Go.Proofs.Ytdjdeahmhenchaa
