/- Written by a program (gen.py): functions of the translation as transformers, with the link to Calls. -/
import Derived.Test.YtdjdeahmhenchaaLycDef
import Derived.Test.YtdjdeahmhenchaaLycTy
import Derived.Test.YtdjdeahmhenchaaW0
set_option linter.unusedSimpArgs false
set_option linter.unusedVariables false
namespace Go.Proofs.Ytdjdeahmhenchaa
open Lyc Go
set_option maxRecDepth 100000

/- lyceum/kids.New -/
def kids_New (p0 p1 : Value) (K : Value → World → Prop) : World → Prop :=
  OpX Try.prog (.call { callee := .builtin .max, args := #[.const p0, .const (.int .i64 0)], argTypes := #[3, 3] }) 3 fun t6 =>
  OpX Try.prog (.call { callee := .builtin .min, args := #[.const t6, .const (.int .i64 15)], argTypes := #[3, 3] }) 3 fun t7 =>
  OpX Try.prog (.makeMap 87 none) 87 fun t9 =>
  OpX Try.prog (.build 89 #[(0, .const t7), (1, .const p1), (2, .const (.int .i64 (-1))), (3, .const t9)]) 89 fun t10 =>
  OpX Try.prog (.box 89 (.const t10)) 36 fun t11 =>
  K t11
theorem kids_New_link (p0 p1 : Value) : Lk 25 #[p0, p1] (kids_New p0 p1) := lk [p0, p1] [] Try.func25 (by kernel_rfl) fun _ _ => by kernel_rfl
theorem kids_New_b : Bodied Try.prog 25 := bd Try.func25 (by kernel_rfl)

/- (*lyceum/kids.Kids).Add -/
def kids_Kids_Add (p0 p1 : Value) (K : Value → World → Prop) : World → Prop :=
  Join1 (fun k1 =>
  xO .eql 36 p0 (.pointer none) fun t8 =>
  xW t8
  (k1 (.bool true)) <|
  xO .lss 3 p1 (.int .i64 0) fun t11 =>
  xW t11
  (k1 (.bool true)) <|
  xO .geq 3 p1 (.int .i64 16) fun t15 =>
  k1 t15) fun t16 =>
  xW t16
  (K (.bool false)) <|
  OpX Try.prog (.nilCheck (.const p0)) 0 fun t19 =>
  xF 89 t19 3 fun t20 =>
  xL 87 t20 fun t21 =>
  OpX Try.prog (.lookup 87 (.const t21) (.const p1) true) 91 fun t23 =>
  xE t23 0 90 fun t24 =>
  xE t23 1 4 fun t25 =>
  xW t25
  (OpX Try.prog (.nilCheck (.const t24)) 0 fun t28 =>
  xF 93 t28 1 fun t29 =>
  xS 3 t29 (.int .i64 0) <|
  K (.bool true)) <|
  xC 55 [.const p0] [36] 4 fun t31 =>
  xW t31
  (K (.bool false)) <|
  DrewW <|
  xP (.nilCheck (.const p0)) 0 fun t33 =>
  qF 89 t33 3 fun t34 =>
  qL 87 t34 fun t35 =>
  xP (.nilCheck (.const p0)) 0 fun t38 =>
  qF 89 t38 1 fun t39 =>
  qL 3 t39 fun t40 =>
  xC 16 [.const t40] [3] 24 fun t41 =>
  xT (qZ 87 t34 t35) <|
  OpX Try.prog (.build 93 #[(0, .const t41)]) 93 fun t42 =>
  xT (qZ 87 t34 t35) <|
  OpX Try.prog (.box 93 (.const t42)) 90 fun t43 =>
  xT (qZ 87 t34 t35) <|
  OpX Try.prog (.mapUpdate 87 (.const t35) (.const p1) (.const t43)) 0 fun _ =>
  K (.bool true)
theorem kids_Kids_Add_link (p0 p1 : Value) : Lk 26 #[p0, p1] (kids_Kids_Add p0 p1) := lk [p0, p1] [(4, [16])] Try.func26 (by kernel_rfl) fun _ _ => by kernel_rfl
theorem kids_Kids_Add_b : Bodied Try.prog 26 := bd Try.func26 (by kernel_rfl)

/- (*lyceum/kids.Kids).Queue -/
def kids_Kids_Queue (p0 p1 : Value) (K : Value → World → Prop) : World → Prop :=
  xC 56 [.const p0, .const p1] [36, 3] 4 fun t7 =>
  xN 4 t7 fun t8 =>
  xW t8
  (K (.pointer none)) <|
  OpX Try.prog (.nilCheck (.const p0)) 0 fun t10 =>
  xF 89 t10 3 fun t11 =>
  xL 87 t11 fun t12 =>
  OpX Try.prog (.lookup 87 (.const t12) (.const p1) false) 90 fun t14 =>
  OpX Try.prog (.nilCheck (.const t14)) 0 fun t15 =>
  xF 93 t15 0 fun t16 =>
  xL 24 t16 fun t17 =>
  K t17
theorem kids_Kids_Queue_link (p0 p1 : Value) : Lk 27 #[p0, p1] (kids_Kids_Queue p0 p1) := lk [p0, p1] [] Try.func27 (by kernel_rfl) fun _ _ => by kernel_rfl
theorem kids_Kids_Queue_b : Bodied Try.prog 27 := bd Try.func27 (by kernel_rfl)

/- (*lyceum/kids.Kids).Drop -/
def kids_Kids_Drop (p0 p1 : Value) (K : Value → World → Prop) : World → Prop :=
  xC 56 [.const p0, .const p1] [36, 3] 4 fun t7 =>
  xN 4 t7 fun t8 =>
  xW t8
  (K (.bool false)) <|
  OpX Try.prog (.nilCheck (.const p0)) 0 fun t10 =>
  xF 89 t10 3 fun t11 =>
  xL 87 t11 fun t12 =>
  OpX Try.prog (.call { callee := .builtin .delete, args := #[.const t12, .const p1], argTypes := #[87, 3] }) 0 fun _ =>
  K (.bool true)
theorem kids_Kids_Drop_link (p0 p1 : Value) : Lk 28 #[p0, p1] (kids_Kids_Drop p0 p1) := lk [p0, p1] [] Try.func28 (by kernel_rfl) fun _ _ => by kernel_rfl
theorem kids_Kids_Drop_b : Bodied Try.prog 28 := bd Try.func28 (by kernel_rfl)

/- (*lyceum/kids.Kids).Tick -/
def kids_Kids_Tick (p0 : Value) (K : Value → World → Prop) : World → Prop :=
  xC 54 [.const p0] [36] 50 fun t8 =>
  xU t8 50 fun t9 =>
  Loop2 (.slice none 0 0) (.int .i64 0) fun t3 t10 next1 =>
  xO .lss 3 t10 t9 fun t11 =>
  xW t11
  (Join1 (fun k2 =>
  xI 50 t8 t10 fun t12 =>
  xL 3 t12 fun t13 =>
  OpX Try.prog (.nilCheck (.const p0)) 0 fun t15 =>
  xF 89 t15 3 fun t16 =>
  xL 87 t16 fun t17 =>
  OpX Try.prog (.lookup 87 (.const t17) (.const t13) false) 90 fun t19 =>
  OpX Try.prog (.nilCheck (.const t19)) 0 fun t21 =>
  xF 93 t21 1 fun t22 =>
  xL 3 t22 fun t23 =>
  xO .add 3 t23 (.int .i64 1) fun t24 =>
  OpX Try.prog (.nilCheck (.const t19)) 0 fun t25 =>
  xF 93 t25 1 fun t26 =>
  xS 3 t26 t24 <|
  OpX Try.prog (.nilCheck (.const t19)) 0 fun t28 =>
  xF 93 t28 1 fun t29 =>
  xL 3 t29 fun t30 =>
  xO .gtr 3 t30 (.int .i64 8) fun t31 =>
  xW t31
  (OpX Try.prog (.nilCheck (.const p0)) 0 fun t33 =>
  xF 89 t33 3 fun t34 =>
  xL 87 t34 fun t35 =>
  OpX Try.prog (.call { callee := .builtin .delete, args := #[.const t35, .const t13], argTypes := #[87, 3] }) 0 fun _ =>
  OpX Try.prog (.buildSlice 50 1 #[(0, .const t13)]) 50 fun t39 =>
  OpX Try.prog (.call { callee := .builtin .append, args := #[.const t3, .const t39], argTypes := #[50, 50] }) 50 fun t40 =>
  k2 t40) <|
  k2 t3) fun t3_1 =>
  xO .add 3 t10 (.int .i64 1) fun t41 =>
  next1 t3_1 t41) <|
  K t3
theorem kids_Kids_Tick_link (p0 : Value) : Lk 53 #[p0] (kids_Kids_Tick p0) := lk [p0] [(8, [3, 10]), (15, [3])] Try.func53 (by kernel_rfl) fun _ _ => by kernel_rfl
theorem kids_Kids_Tick_b : Bodied Try.prog 53 := bd Try.func53 (by kernel_rfl)

/- (*lyceum/kids.Kids).IDs -/
def kids_Kids_IDs (p0 : Value) (K : Value → World → Prop) : World → Prop :=
  xO .eql 36 p0 (.pointer none) fun t4 =>
  xW t4
  (K (.slice none 0 0)) <|
  OpX Try.prog (.nilCheck (.const p0)) 0 fun t6 =>
  xF 89 t6 3 fun t7 =>
  xL 87 t7 fun t8 =>
  xC 97 [.const t8] [87] 127 fun t9 =>
  xC 96 [.const t9] [127] 50 fun t10 =>
  K t10
theorem kids_Kids_IDs_link (p0 : Value) : Lk 54 #[p0] (kids_Kids_IDs p0) := lk [p0] [] Try.func54 (by kernel_rfl) fun _ _ => by kernel_rfl
theorem kids_Kids_IDs_b : Bodied Try.prog 54 := bd Try.func54 (by kernel_rfl)

/- (*lyceum/kids.Kids).Full -/
def kids_Kids_Full (p0 : Value) (K : Value → World → Prop) : World → Prop :=
  DrewW <|
  Join1 (fun k1 =>
  qR .eql 36 p0 (.pointer none) fun t4 =>
  xW t4
  (k1 (.bool true)) <|
  xP (.nilCheck (.const p0)) 0 fun t7 =>
  qF 89 t7 3 fun t8 =>
  qL 87 t8 fun t9 =>
  xR (.call { callee := .builtin .len, args := #[.const t9], argTypes := #[87] }) 3 fun t10 =>
  xP (.nilCheck (.const p0)) 0 fun t12 =>
  qF 89 t12 0 fun t13 =>
  qL 3 t13 fun t14 =>
  qP .geq 3 t10 t14 fun t15 =>
  k1 t15) fun t2 =>
  K t2
theorem kids_Kids_Full_link (p0 : Value) : Lk 55 #[p0] (kids_Kids_Full p0) := lk [p0] [(3, [2])] Try.func55 (by kernel_rfl) fun _ _ => by kernel_rfl
theorem kids_Kids_Full_b : Bodied Try.prog 55 := bd Try.func55 (by kernel_rfl)

/- (*lyceum/kids.Kids).Has -/
def kids_Kids_Has (p0 p1 : Value) (K : Value → World → Prop) : World → Prop :=
  xO .eql 36 p0 (.pointer none) fun t8 =>
  xW t8
  (K (.bool false)) <|
  OpX Try.prog (.nilCheck (.const p0)) 0 fun t11 =>
  xF 89 t11 3 fun t12 =>
  xL 87 t12 fun t13 =>
  OpX Try.prog (.lookup 87 (.const t13) (.const p1) true) 91 fun t15 =>
  xE t15 0 90 fun _ =>
  xE t15 1 4 fun t17 =>
  K t17
theorem kids_Kids_Has_link (p0 p1 : Value) : Lk 56 #[p0, p1] (kids_Kids_Has p0 p1) := lk [p0, p1] [] Try.func56 (by kernel_rfl) fun _ _ => by kernel_rfl
theorem kids_Kids_Has_b : Bodied Try.prog 56 := bd Try.func56 (by kernel_rfl)

/- (*lyceum/kids.Kids).Heard -/
def kids_Kids_Heard (p0 p1 : Value) (K : Value → World → Prop) : World → Prop :=
  xO .eql 36 p0 (.pointer none) fun t7 =>
  xW t7
  (K (.tuple #[])) <|
  OpX Try.prog (.nilCheck (.const p0)) 0 fun t10 =>
  xF 89 t10 3 fun t11 =>
  xL 87 t11 fun t12 =>
  OpX Try.prog (.lookup 87 (.const t12) (.const p1) true) 91 fun t14 =>
  xE t14 0 90 fun t15 =>
  xE t14 1 4 fun t16 =>
  xW t16
  (OpX Try.prog (.nilCheck (.const t15)) 0 fun t19 =>
  xF 93 t19 1 fun t20 =>
  xS 3 t20 (.int .i64 0) <|
  K (.tuple #[])) <|
  K (.tuple #[])
theorem kids_Kids_Heard_link (p0 p1 : Value) : Lk 57 #[p0, p1] (kids_Kids_Heard p0 p1) := lk [p0, p1] [] Try.func57 (by kernel_rfl) fun _ _ => by kernel_rfl
theorem kids_Kids_Heard_b : Bodied Try.prog 57 := bd Try.func57 (by kernel_rfl)

/- (*lyceum/kids.Kids).Clear -/
def kids_Kids_Clear (p0 : Value) (K : Value → World → Prop) : World → Prop :=
  xO .neq 36 p0 (.pointer none) fun t3 =>
  xW t3
  (OpX Try.prog (.nilCheck (.const p0)) 0 fun t5 =>
  xF 89 t5 3 fun t6 =>
  xL 87 t6 fun t7 =>
  OpX Try.prog (.call { callee := .builtin .clear, args := #[.const t7], argTypes := #[87] }) 0 fun _ =>
  K (.tuple #[])) <|
  K (.tuple #[])
theorem kids_Kids_Clear_link (p0 : Value) : Lk 58 #[p0] (kids_Kids_Clear p0) := lk [p0] [] Try.func58 (by kernel_rfl) fun _ _ => by kernel_rfl
theorem kids_Kids_Clear_b : Bodied Try.prog 58 := bd Try.func58 (by kernel_rfl)

/- (*lyceum/kids.Kids).Next -/
def kids_Kids_Next (p0 : Value) (K : Value → World → Prop) : World → Prop :=
  xC 54 [.const p0] [36] 50 fun t8 =>
  xU t8 50 fun t10 =>
  xO .eql 3 t10 (.int .i64 0) fun t11 =>
  xW t11
  (K (.int .i64 0)) <|
  xI 50 t8 (.int .i64 0) fun t13 =>
  xL 3 t13 fun t14 =>
  xU t8 50 fun t16 =>
  Join1 (fun k1 =>
  Loop2 t14 (.int .i64 0) fun t4 t17 next2 =>
  xO .lss 3 t17 t16 fun t18 =>
  xW t18
  (xI 50 t8 t17 fun t19 =>
  xL 3 t19 fun t20 =>
  OpX Try.prog (.nilCheck (.const p0)) 0 fun t23 =>
  xF 89 t23 2 fun t24 =>
  xL 3 t24 fun t25 =>
  xO .gtr 3 t20 t25 fun t26 =>
  xW t26
  (k1 t20) <|
  xO .add 3 t17 (.int .i64 1) fun t28 =>
  next2 t4 t28) <|
  k1 t4) fun t4_1 =>
  OpX Try.prog (.nilCheck (.const p0)) 0 fun t31 =>
  xF 89 t31 2 fun t32 =>
  xS 3 t32 t4_1 <|
  K t4_1
theorem kids_Kids_Next_link (p0 : Value) : Lk 59 #[p0] (kids_Kids_Next p0) := lk [p0] [(17, [4]), (18, [4, 17])] Try.func59 (by kernel_rfl) fun _ _ => by kernel_rfl
theorem kids_Kids_Next_b : Bodied Try.prog 59 := bd Try.func59 (by kernel_rfl)

/- maps.Keys[map[int]*lyceum/kids.child,int,*lyceum/kids.child] -/
def maps_Keys_map_int_kids_child_int_kids_child (p0 : Value) (K : Value → World → Prop) : World → Prop :=
  xB 87 p0 fun t1 =>
  OpX Try.prog (.makeFunc (.func 113) #[] #[.const t1]) 126 fun t3 =>
  K t3
theorem maps_Keys_map_int_kids_child_int_kids_child_link (p0 : Value) : Lk 97 #[p0] (maps_Keys_map_int_kids_child_int_kids_child p0) := lk [p0] [] Try.func97 (by kernel_rfl) fun _ _ => by kernel_rfl
theorem maps_Keys_map_int_kids_child_int_kids_child_b : Bodied Try.prog 97 := bd Try.func97 (by kernel_rfl)

/- maps.Keys[map[int]*lyceum/kids.child,int,*lyceum/kids.child]$1 -/
def maps_Keys_map_int_kids_child_int_kids_child_1 (p0 p1 : Value) (K : Value → World → Prop) : World → Prop :=
  xL 87 p1 fun t4 =>
  OpX Try.prog (.range 87 (.const t4)) 0 fun t5 =>
  Loop0 fun next1 =>
  OpX Try.prog (.next (.const t5) false) 0 fun t6 =>
  xE t6 0 4 fun t7 =>
  xW t7
  (OpX Try.prog (.entry (.const t5)) 0 fun t8 =>
  xE t8 0 3 fun t9 =>
  OpX Try.prog (.call { callee := .value (.const p0), args := #[.const t9], argTypes := #[3] }) 4 fun t12 =>
  xN 4 t12 fun t13 =>
  xW t13
  (K (.tuple #[])) <|
  next1) <|
  K (.tuple #[])
theorem maps_Keys_map_int_kids_child_int_kids_child_1_link (p0 p1 : Value) : Lk 113 #[p0, p1] (maps_Keys_map_int_kids_child_int_kids_child_1 p0 p1) := lk [p0, p1] [(3, [])] Try.func113 (by kernel_rfl) fun _ _ => by kernel_rfl
theorem maps_Keys_map_int_kids_child_int_kids_child_1_b : Bodied Try.prog 113 := bd Try.func113 (by kernel_rfl)

/- lyceum/lyceumlaw20.KidsQueues -/
def lyceumlaw20_KidsQueues (p0 p1 p2 : Value) (K : Value → World → Prop) : World → Prop :=
  xC 24 [] [] 4 fun t16 =>
  xO .and 3 p1 (.int .i64 15) fun t18 =>
  xO .add 3 t18 (.int .i64 1) fun t20 =>
  xO .rem 3 p2 (.int .i64 14) fun t22 =>
  xO .add 3 t22 (.int .i64 14) fun t23 =>
  xO .rem 3 t23 (.int .i64 14) fun t24 =>
  xO .add 3 t20 t24 fun t25 =>
  xO .rem 3 t25 (.int .i64 16) fun t26 =>
  xC 25 [.const (.int .i64 15), .const p0] [3, 3] 36 fun t28 =>
  Join1 (fun k1 =>
  xO .eql 36 t28 (.pointer none) fun t30 =>
  xW t30
  (k1 (.bool true)) <|
  xC 26 [.const t28, .const t18] [36, 3] 4 fun t34 =>
  xN 4 t34 fun t35 =>
  xW t35
  (k1 (.bool true)) <|
  xC 26 [.const t28, .const t26] [36, 3] 4 fun t40 =>
  xN 4 t40 fun t41 =>
  k1 t41) fun t42 =>
  xW t42
  (K (.bool false)) <|
  xC 27 [.const t28, .const t18] [36, 3] 24 fun t45 =>
  OpX Try.prog (.build 29 #[(2, .const (.bool true))]) 29 fun t46 =>
  xC 19 [.const t45, .const t46] [24, 29] 4 fun _ =>
  xC 27 [.const t28, .const t18] [36, 3] 24 fun t50 =>
  xC 21 [.const t50] [24] 3 fun t51 =>
  xC 27 [.const t28, .const t26] [36, 3] 24 fun t54 =>
  xC 21 [.const t54] [24] 3 fun t55 =>
  xC 26 [.const t28, .const t18] [36, 3] 4 fun t58 =>
  xC 27 [.const t28, .const t18] [36, 3] 24 fun t61 =>
  xC 21 [.const t61] [24] 3 fun t62 =>
  xC 28 [.const t28, .const t18] [36, 3] 4 fun _ =>
  xC 27 [.const t28, .const t18] [36, 3] 24 fun t68 =>
  xO .eql 24 t68 (.pointer none) fun t69 =>
  xC 26 [.const t28, .const t18] [36, 3] 4 fun _ =>
  Join1 (fun k2 =>
  xW t16
  (xO .eql 3 t51 (.int .i64 1) fun t76 =>
  xW t76
  (xO .eql 3 t55 (.int .i64 0) fun t80 =>
  xW t80
  (xW t58
  (xO .eql 3 t62 (.int .i64 1) fun t87 =>
  xW t87
  (xW t69
  (xC 27 [.const t28, .const t18] [36, 3] 24 fun t95 =>
  xC 21 [.const t95] [24] 3 fun t96 =>
  xO .eql 3 t96 (.int .i64 0) fun t97 =>
  xW t97
  (xC 27 [.const t28, .const t18] [36, 3] 24 fun t102 =>
  xC 22 [.const t102] [24] 4 fun t103 =>
  xW t103
  (xC 27 [.const t28, .const t26] [36, 3] 24 fun t108 =>
  xC 22 [.const t108] [24] 4 fun t109 =>
  k2 t109) <|
  k2 (.bool false)) <|
  k2 (.bool false)) <|
  k2 (.bool false)) <|
  k2 (.bool false)) <|
  k2 (.bool false)) <|
  k2 (.bool false)) <|
  k2 (.bool false)) <|
  k2 (.bool false)) fun t6 =>
  K t6
theorem lyceumlaw20_KidsQueues_link (p0 p1 p2 : Value) : Lk 6 #[p0, p1, p2] (lyceumlaw20_KidsQueues p0 p1 p2) := lk [p0, p1, p2] [(12, [42]), (35, [6])] Try.func6 (by kernel_rfl) fun _ _ => by kernel_rfl
theorem lyceumlaw20_KidsQueues_b : Bodied Try.prog 6 := bd Try.func6 (by kernel_rfl)

/- lyceum/lyceumlaw20.KidsRoom -/
def lyceumlaw20_KidsRoom (p0 p1 : Value) (K : Value → World → Prop) : World → Prop :=
  xC 24 [] [] 4 fun t12 =>
  xC 25 [.const p0, .const (.int .i64 2)] [3, 3] 36 fun t14 =>
  xO .eql 36 t14 (.pointer none) fun t16 =>
  xW t16
  (K (.bool false)) <|
  OpX Try.prog (.call { callee := .builtin .max, args := #[.const p0, .const (.int .i64 0)], argTypes := #[3, 3] }) 3 fun t18 =>
  OpX Try.prog (.call { callee := .builtin .min, args := #[.const t18, .const (.int .i64 15)], argTypes := #[3, 3] }) 3 fun t19 =>
  Loop1 (.int .i64 0) fun t8 next1 =>
  Join1 (fun k2 =>
  xU p1 78 fun t22 =>
  xO .lss 3 t8 t22 fun t23 =>
  xW t23
  (xO .lss 3 t8 (.int .i64 80) fun t26 =>
  k2 t26) <|
  k2 (.bool false)) fun t27 =>
  xW t27
  (xI 78 p1 t8 fun t32 =>
  xL 80 t32 fun t33 =>
  xA 80 fun t9 =>
  xS 80 t9 t33 <|
  Join0 (fun k3 =>
  xF 80 t9 0 fun t34 =>
  xL 3 t34 fun t35 =>
  xO .and 3 t35 (.int .i64 15) fun t36 =>
  xO .eql 3 t36 (.int .i64 4) fun t42 =>
  xW t42
  (xL 80 t9 fun t44 =>
  xC 52 [.const t44] [80] 3 fun t45 =>
  xC 28 [.const t14, .const t45] [36, 3] 4 fun _ =>
  k3) <|
  xO .eql 3 t36 (.int .i64 7) fun t48 =>
  xW t48
  (xC 53 [.const t14] [36] 50 fun _ =>
  k3) <|
  xL 80 t9 fun t38 =>
  xC 52 [.const t38] [80] 3 fun t39 =>
  xC 26 [.const t14, .const t39] [36, 3] 4 fun _ =>
  k3) <|
  xC 54 [.const t14] [36] 50 fun t52 =>
  Join1 (fun k4 =>
  xU t52 50 fun t54 =>
  xO .gtr 3 t54 t19 fun t56 =>
  xW t56
  (k4 (.bool true)) <|
  xC 55 [.const t14] [36] 4 fun t59 =>
  xU t52 50 fun t61 =>
  xO .geq 3 t61 t19 fun t63 =>
  xO .neq 4 t59 t63 fun t64 =>
  k4 t64) fun t65 =>
  xW t65
  (K (.bool false)) <|
  Loop1 (.int .i64 0) fun t11 next5 =>
  xU t52 50 fun t68 =>
  xO .lss 3 t11 t68 fun t69 =>
  xW t69
  (DrewW <|
  Join1 (fun k6 =>
  qP .gtr 3 t11 (.int .i64 0) fun t73 =>
  xW t73
  (qP .sub 3 t11 (.int .i64 1) fun t77 =>
  xP (.indexAddr 50 (.const t52) (.const t77)) 0 fun t78 =>
  qL 3 t78 fun t79 =>
  xP (.indexAddr 50 (.const t52) (.const t11)) 0 fun t82 =>
  qL 3 t82 fun t83 =>
  qP .geq 3 t79 t83 fun t84 =>
  xW t84
  (k6 (.bool true)) <|
  xP (.indexAddr 50 (.const t52) (.const t11)) 0 fun t89 =>
  qL 3 t89 fun t90 =>
  qP .lss 3 t90 (.int .i64 0) fun t91 =>
  xW t91
  (k6 (.bool true)) <|
  xP (.indexAddr 50 (.const t52) (.const t11)) 0 fun t96 =>
  qL 3 t96 fun t97 =>
  qP .gtr 3 t97 (.int .i64 15) fun t98 =>
  xW t98
  (k6 (.bool true)) <|
  xP (.indexAddr 50 (.const t52) (.const t11)) 0 fun t104 =>
  qL 3 t104 fun t105 =>
  xC 56 [.const t14, .const t105] [36, 3] 4 fun t106 =>
  xP (.unOp .not 4 (.const t106)) 4 fun t107 =>
  k6 t107) <|
  xP (.indexAddr 50 (.const t52) (.const t11)) 0 fun t89_1 =>
  qL 3 t89_1 fun t90_1 =>
  qP .lss 3 t90_1 (.int .i64 0) fun t91_1 =>
  xW t91_1
  (k6 (.bool true)) <|
  xP (.indexAddr 50 (.const t52) (.const t11)) 0 fun t96_1 =>
  qL 3 t96_1 fun t97_1 =>
  qP .gtr 3 t97_1 (.int .i64 15) fun t98_1 =>
  xW t98_1
  (k6 (.bool true)) <|
  xP (.indexAddr 50 (.const t52) (.const t11)) 0 fun t104_1 =>
  qL 3 t104_1 fun t105_1 =>
  xC 56 [.const t14, .const t105_1] [36, 3] 4 fun t106_1 =>
  xP (.unOp .not 4 (.const t106_1)) 4 fun t107_1 =>
  k6 t107_1) fun t108 =>
  xW t108
  (K (.bool false)) <|
  xO .add 3 t11 (.int .i64 1) fun t71 =>
  next5 t71) <|
  xO .add 3 t8 (.int .i64 1) fun t29 =>
  next1 t29) <|
  K t12
theorem lyceumlaw20_KidsRoom_link (p0 p1 : Value) : Lk 13 #[p0, p1] (lyceumlaw20_KidsRoom p0 p1) := lk [p0, p1] [(20, [8]), (23, [27]), (31, []), (48, [65]), (57, [11]), (67, [108])] Try.func13 (by kernel_rfl) fun _ _ => by kernel_rfl
theorem lyceumlaw20_KidsRoom_b : Bodied Try.prog 13 := bd Try.func13 (by kernel_rfl)

/- lyceum/lyceumlaw20.KidsNil -/
def lyceumlaw20_KidsNil (p0 : Value) (K : Value → World → Prop) : World → Prop :=
  xC 57 [.const (.pointer none), .const p0] [36, 3] 0 fun _ =>
  xC 58 [.const (.pointer none)] [36] 0 fun _ =>
  Join1 (fun k1 =>
  xC 24 [] [] 4 fun t9 =>
  xW t9
  (xC 26 [.const (.pointer none), .const p0] [36, 3] 4 fun t13 =>
  xN 4 t13 fun t14 =>
  xW t14
  (xC 28 [.const (.pointer none), .const p0] [36, 3] 4 fun t19 =>
  xN 4 t19 fun t20 =>
  xW t20
  (xC 56 [.const (.pointer none), .const p0] [36, 3] 4 fun t25 =>
  xN 4 t25 fun t26 =>
  xW t26
  (xC 53 [.const (.pointer none)] [36] 50 fun t30 =>
  xU t30 50 fun t31 =>
  xC 54 [.const (.pointer none)] [36] 50 fun t33 =>
  xU t33 50 fun t34 =>
  xO .add 3 t31 t34 fun t35 =>
  xO .eql 3 t35 (.int .i64 0) fun t36 =>
  xW t36
  (xC 27 [.const (.pointer none), .const p0] [36, 3] 24 fun t41 =>
  xC 21 [.const t41] [24] 3 fun t42 =>
  xO .eql 3 t42 (.int .i64 0) fun t43 =>
  xW t43
  (xC 55 [.const (.pointer none)] [36] 4 fun t47 =>
  xW t47
  (xC 59 [.const (.pointer none)] [36] 3 fun t51 =>
  xO .eql 3 t51 (.int .i64 0) fun t52 =>
  k1 t52) <|
  k1 (.bool false)) <|
  k1 (.bool false)) <|
  k1 (.bool false)) <|
  k1 (.bool false)) <|
  k1 (.bool false)) <|
  k1 (.bool false)) <|
  k1 (.bool false)) fun t2 =>
  K t2
theorem lyceumlaw20_KidsNil_link (p0 : Value) : Lk 14 #[p0] (lyceumlaw20_KidsNil p0) := lk [p0] [(9, [2])] Try.func14 (by kernel_rfl) fun _ _ => by kernel_rfl
theorem lyceumlaw20_KidsNil_b : Bodied Try.prog 14 := bd Try.func14 (by kernel_rfl)

/- lyceum/lyceumlaw20.awake -/
def lyceumlaw20_awake (K : Value → World → Prop) : World → Prop :=
  xC 25 [.const (.int .i64 1), .const (.int .i64 2)] [3, 3] 36 fun t5 =>
  xC 26 [.const t5, .const (.int .i64 3)] [36, 3] 4 fun t7 =>
  xC 26 [.const t5, .const (.int .i64 4)] [36, 3] 4 fun t9 =>
  xC 26 [.const t5, .const (.int .i64 3)] [36, 3] 4 fun t11 =>
  Join1 (fun k1 =>
  xW t7
  (xN 4 t9 fun t15 =>
  xW t15
  (xW t11
  (xC 56 [.const t5, .const (.int .i64 3)] [36, 3] 4 fun t22 =>
  xW t22
  (xC 55 [.const t5] [36] 4 fun t26 =>
  k1 t26) <|
  k1 (.bool false)) <|
  k1 (.bool false)) <|
  k1 (.bool false)) <|
  k1 (.bool false)) fun t0 =>
  K t0
theorem lyceumlaw20_awake_link : Lk 24 #[] (lyceumlaw20_awake) := lk [] [(11, [0])] Try.func24 (by kernel_rfl) fun _ _ => by kernel_rfl
theorem lyceumlaw20_awake_b : Bodied Try.prog 24 := bd Try.func24 (by kernel_rfl)

/- (lyceum/lyceumlaw20.Op).id -/
def lyceumlaw20_Op_id (p0 : Value) (K : Value → World → Prop) : World → Prop :=
  xB 80 p0 fun t1 =>
  xF 80 t1 2 fun t3 =>
  xL 4 t3 fun t4 =>
  xW t4
  (xF 80 t1 1 fun t5 =>
  xL 3 t5 fun t6 =>
  K t6) <|
  xF 80 t1 1 fun t7 =>
  xL 3 t7 fun t8 =>
  xO .and 3 t8 (.int .i64 7) fun t9 =>
  K t9
theorem lyceumlaw20_Op_id_link (p0 : Value) : Lk 52 #[p0] (lyceumlaw20_Op_id p0) := lk [p0] [] Try.func52 (by kernel_rfl) fun _ _ => by kernel_rfl
theorem lyceumlaw20_Op_id_b : Bodied Try.prog 52 := bd Try.func52 (by kernel_rfl)

end Go.Proofs.Ytdjdeahmhenchaa
