/- Written by a program (gen.py): functions of the translation as transformers, with the link to Calls. -/
import Derived.Test.YtdjdeahmhenchaaLycDef
import Derived.Test.YtdjdeahmhenchaaLycTy
import Derived.Test.YtdjdeahmhenchaaW0
set_option linter.unusedSimpArgs false
set_option linter.unusedVariables false
namespace Go.Proofs.Ytdjdeahmhenchaa
open Lyc Go
set_option maxRecDepth 100000

/- lyceum/grid.Put -/
def grid_Put (p0 p1 p2 p3 : Value) (K : Value → World → Prop) (w : World) : Prop :=
  OpX Try.prog (Op.box 54 (Operand.const p0)) 0 (fun t4 w =>
  OpX Try.prog (Op.box 3 (Operand.const p1)) 0 (fun t5 w =>
  OpX Try.prog (Op.box 45 (Operand.const p3)) 0 (fun t7 w =>
  OpX Try.prog (Op.alloc 54) 0 (fun t8 w =>
  OpX Try.prog (Op.load 54 (Operand.const t4)) 54 (fun t13 w =>
  OpX Try.prog (Op.call { callee := Callee.value (Operand.func 51), args := #[Operand.const t13], argTypes := #[54] }) 4 (fun t14 w =>
  OpX Try.prog (Op.unOp UnOp.not 4 (Operand.const t14)) 4 (fun t15 w =>
  BrW t15
  (OpX Try.prog (Op.load 54 (Operand.const t4)) 54 (fun t16 w =>
  OpX Try.prog (Op.store 54 (Operand.const t8) (Operand.const t16)) 0 (fun _ w =>
  LdR Try.prog 54 t8 (fun t8_1 w =>
  K t8_1 w) w) w) w)
  (OpX Try.prog (Op.fieldAddr 54 (Operand.const t4) 1) 0 (fun t19 w =>
  OpX Try.prog (Op.load 3 (Operand.const t19)) 3 (fun t20 w =>
  OpX Try.prog (Op.call { callee := Callee.value (Operand.func 72), args := #[Operand.const p2, Operand.const (Value.int IntKind.i64 1), Operand.const t20], argTypes := #[3, 3, 3] }) 107 (fun t21 w =>
  OpX Try.prog (Op.extract (Operand.const t21) 0) 3 (fun t22 w =>
  OpX Try.prog (Op.extract (Operand.const t21) 1) 3 (fun t23 w =>
  OpX Try.prog (Op.load 3 (Operand.const t5)) 3 (fun t25 w =>
  OpX Try.prog (Op.load 45 (Operand.const t7)) 45 (fun t26 w =>
  OpX Try.prog (Op.call { callee := Callee.builtin Builtin.len, args := #[Operand.const t26], argTypes := #[45] }) 3 (fun t27 w =>
  OpX Try.prog (Op.fieldAddr 54 (Operand.const t4) 0) 0 (fun t28 w =>
  OpX Try.prog (Op.load 3 (Operand.const t28)) 3 (fun t29 w =>
  OpX Try.prog (Op.call { callee := Callee.value (Operand.func 72), args := #[Operand.const t25, Operand.const t27, Operand.const t29], argTypes := #[3, 3, 3] }) 107 (fun t30 w =>
  OpX Try.prog (Op.extract (Operand.const t30) 0) 3 (fun t31 w =>
  OpX Try.prog (Op.extract (Operand.const t30) 1) 3 (fun t32 w =>
  OpX Try.prog (Op.alloc 3) 0 (fun t11 w =>
  OpX Try.prog (Op.alloc 3) 0 (fun t12 w =>
  OpX Try.prog (Op.store 3 (Operand.const t11) (Operand.const t31)) 0 (fun _ w =>
  OpX Try.prog (Op.store 3 (Operand.const t12) (Operand.const t32)) 0 (fun _ w =>
  OpX Try.prog (Op.load 54 (Operand.const t4)) 54 (fun t33 w =>
  OpX Try.prog (Op.makeFunc (Fn.func 74) #[] #[Operand.const t11, Operand.const t12, Operand.const t7, Operand.const t5]) 110 (fun t36 w =>
  OpX Try.prog (Op.call { callee := Callee.value (Operand.func 73), args := #[Operand.const t33, Operand.const t22, Operand.const t23, Operand.const t36], argTypes := #[54, 3, 3, 110] }) 54 (fun t37 w =>
  OpX Try.prog (Op.store 54 (Operand.const t8) (Operand.const t37)) 0 (fun _ w =>
  LdR Try.prog 54 t8 (fun t8_2 w =>
  K t8_2 w) w) w) w) w) w) w) w) w) w) w) w) w) w) w) w) w) w) w) w) w) w) w) ()) w) w) w) w) w) w) w
theorem grid_Put_link (p0 p1 p2 p3 : Value) {R : Value → World → Prop} {w : World} (h : ∀ K : Value → World → Prop, (∀ v w', R v w' → K v w') → grid_Put p0 p1 p2 p3 K w) : Calls Try.prog 38 #[p0, p1, p2, p3] w (retK R) :=
  calls_of_def [p0, p1, p2, p3] [] mixed Try.func38 (by kernel_rfl) (by kernel_rfl) (by kernel_rfl) (X := grid_Put p0 p1 p2 p3 R w) (by kernel_rfl) (h R fun _ _ h => h)
theorem grid_Put_b : Bodied Try.prog 38 := ⟨_, Try.func38, by kernel_rfl, by kernel_rfl⟩

/- lyceum/grid.At -/
def grid_At (p0 p1 p2 : Value) (K : Value → World → Prop) (w : World) : Prop :=
  OpX Try.prog (Op.box 54 (Operand.const p0)) 0 (fun t3 w =>
  OpX Try.prog (Op.alloc 44) 0 (fun t6 w =>
  Join1 (fun k1 w =>
  OpX Try.prog (Op.load 54 (Operand.const t3)) 54 (fun t7 w =>
  OpX Try.prog (Op.call { callee := Callee.value (Operand.func 78), args := #[Operand.const t7], argTypes := #[54] }) 4 (fun t8 w =>
  OpX Try.prog (Op.unOp UnOp.not 4 (Operand.const t8)) 4 (fun t9 w =>
  BrW t9
  (k1 (Value.bool true) w)
  (BinX Try.prog BinOp.lss 3 p2 (Value.int IntKind.i64 0) (fun t12 w =>
  BrW t12
  (k1 (Value.bool true) w)
  (OpX Try.prog (Op.fieldAddr 54 (Operand.const t3) 1) 0 (fun t16 w =>
  OpX Try.prog (Op.load 3 (Operand.const t16)) 3 (fun t17 w =>
  BinX Try.prog BinOp.geq 3 p2 t17 (fun t18 w =>
  BrW t18
  (k1 (Value.bool true) w)
  (BinX Try.prog BinOp.lss 3 p1 (Value.int IntKind.i64 0) (fun t22 w =>
  BrW t22
  (k1 (Value.bool true) w)
  (OpX Try.prog (Op.fieldAddr 54 (Operand.const t3) 0) 0 (fun t26 w =>
  OpX Try.prog (Op.load 3 (Operand.const t26)) 3 (fun t27 w =>
  BinX Try.prog BinOp.geq 3 p1 t27 (fun t28 w =>
  k1 t28 w) w) w) w) ()) w) ()) w) w) w) ()) w) ()) w) w) w) (fun t29 w =>
  BrW t29
  (OpX Try.prog (Op.build 44 #[]) 44 (fun t30 w =>
  OpX Try.prog (Op.store 44 (Operand.const t6) (Operand.const t30)) 0 (fun _ w =>
  LdR Try.prog 44 t6 (fun t6_1 w =>
  K t6_1 w) w) w) w)
  (OpX Try.prog (Op.fieldAddr 54 (Operand.const t3) 2) 0 (fun t31 w =>
  OpX Try.prog (Op.load 45 (Operand.const t31)) 45 (fun t32 w =>
  OpX Try.prog (Op.fieldAddr 54 (Operand.const t3) 0) 0 (fun t34 w =>
  OpX Try.prog (Op.load 3 (Operand.const t34)) 3 (fun t35 w =>
  BinX Try.prog BinOp.mul 3 p2 t35 (fun t36 w =>
  BinX Try.prog BinOp.add 3 t36 p1 (fun t38 w =>
  OpX Try.prog (Op.indexAddr 45 (Operand.const t32) (Operand.const t38)) 0 (fun t39 w =>
  OpX Try.prog (Op.load 44 (Operand.const t39)) 44 (fun t40 w =>
  OpX Try.prog (Op.store 44 (Operand.const t6) (Operand.const t40)) 0 (fun _ w =>
  LdR Try.prog 44 t6 (fun t6_2 w =>
  K t6_2 w) w) w) w) w) w) w) w) w) w) w) ()) w) w) w
theorem grid_At_link (p0 p1 p2 : Value) {R : Value → World → Prop} {w : World} (h : ∀ K : Value → World → Prop, (∀ v w', R v w' → K v w') → grid_At p0 p1 p2 K w) : Calls Try.prog 42 #[p0, p1, p2] w (retK R) :=
  calls_of_def [p0, p1, p2] [(4, [29])] mixed Try.func42 (by kernel_rfl) (by kernel_rfl) (by kernel_rfl) (X := grid_At p0 p1 p2 R w) (by kernel_rfl) (h R fun _ _ h => h)
theorem grid_At_b : Bodied Try.prog 42 := ⟨_, Try.func42, by kernel_rfl, by kernel_rfl⟩

/- lyceum/grid.Fill -/
def grid_Fill (p0 p1 p2 : Value) (K : Value → World → Prop) (w : World) : Prop :=
  OpX Try.prog (Op.box 54 (Operand.const p0)) 0 (fun t3 w =>
  OpX Try.prog (Op.box 66 (Operand.const p1)) 0 (fun t4 w =>
  OpX Try.prog (Op.box 44 (Operand.const p2)) 0 (fun t5 w =>
  OpX Try.prog (Op.alloc 54) 0 (fun t6 w =>
  Join1 (fun k1 w =>
  OpX Try.prog (Op.load 54 (Operand.const t3)) 54 (fun t11 w =>
  OpX Try.prog (Op.call { callee := Callee.value (Operand.func 51), args := #[Operand.const t11], argTypes := #[54] }) 4 (fun t12 w =>
  OpX Try.prog (Op.unOp UnOp.not 4 (Operand.const t12)) 4 (fun t13 w =>
  BrW t13
  (k1 (Value.bool true) w)
  (OpX Try.prog (Op.load 44 (Operand.const t5)) 44 (fun t15 w =>
  OpX Try.prog (Op.call { callee := Callee.value (Operand.func 84), args := #[Operand.const t15], argTypes := #[44] }) 4 (fun t16 w =>
  OpX Try.prog (Op.unOp UnOp.not 4 (Operand.const t16)) 4 (fun t17 w =>
  k1 t17 w) w) w) w) ()) w) w) w) (fun t18 w =>
  BrW t18
  (OpX Try.prog (Op.load 54 (Operand.const t3)) 54 (fun t19 w =>
  OpX Try.prog (Op.store 54 (Operand.const t6) (Operand.const t19)) 0 (fun _ w =>
  LdR Try.prog 54 t6 (fun t6_1 w =>
  K t6_1 w) w) w) w)
  (OpX Try.prog (Op.fieldAddr 66 (Operand.const t4) 1) 0 (fun t21 w =>
  OpX Try.prog (Op.load 3 (Operand.const t21)) 3 (fun t22 w =>
  OpX Try.prog (Op.fieldAddr 66 (Operand.const t4) 3) 0 (fun t23 w =>
  OpX Try.prog (Op.load 3 (Operand.const t23)) 3 (fun t24 w =>
  OpX Try.prog (Op.fieldAddr 54 (Operand.const t3) 1) 0 (fun t25 w =>
  OpX Try.prog (Op.load 3 (Operand.const t25)) 3 (fun t26 w =>
  OpX Try.prog (Op.call { callee := Callee.value (Operand.func 72), args := #[Operand.const t22, Operand.const t24, Operand.const t26], argTypes := #[3, 3, 3] }) 107 (fun t27 w =>
  OpX Try.prog (Op.extract (Operand.const t27) 0) 3 (fun t28 w =>
  OpX Try.prog (Op.extract (Operand.const t27) 1) 3 (fun t29 w =>
  OpX Try.prog (Op.fieldAddr 66 (Operand.const t4) 0) 0 (fun t31 w =>
  OpX Try.prog (Op.load 3 (Operand.const t31)) 3 (fun t32 w =>
  OpX Try.prog (Op.fieldAddr 66 (Operand.const t4) 2) 0 (fun t33 w =>
  OpX Try.prog (Op.load 3 (Operand.const t33)) 3 (fun t34 w =>
  OpX Try.prog (Op.fieldAddr 54 (Operand.const t3) 0) 0 (fun t35 w =>
  OpX Try.prog (Op.load 3 (Operand.const t35)) 3 (fun t36 w =>
  OpX Try.prog (Op.call { callee := Callee.value (Operand.func 72), args := #[Operand.const t32, Operand.const t34, Operand.const t36], argTypes := #[3, 3, 3] }) 107 (fun t37 w =>
  OpX Try.prog (Op.extract (Operand.const t37) 0) 3 (fun t38 w =>
  OpX Try.prog (Op.extract (Operand.const t37) 1) 3 (fun t39 w =>
  OpX Try.prog (Op.alloc 3) 0 (fun t9 w =>
  OpX Try.prog (Op.alloc 3) 0 (fun t10 w =>
  OpX Try.prog (Op.store 3 (Operand.const t9) (Operand.const t38)) 0 (fun _ w =>
  OpX Try.prog (Op.store 3 (Operand.const t10) (Operand.const t39)) 0 (fun _ w =>
  OpX Try.prog (Op.load 54 (Operand.const t3)) 54 (fun t40 w =>
  OpX Try.prog (Op.makeFunc (Fn.func 85) #[] #[Operand.const t9, Operand.const t10, Operand.const t5]) 110 (fun t43 w =>
  OpX Try.prog (Op.call { callee := Callee.value (Operand.func 73), args := #[Operand.const t40, Operand.const t28, Operand.const t29, Operand.const t43], argTypes := #[54, 3, 3, 110] }) 54 (fun t44 w =>
  OpX Try.prog (Op.store 54 (Operand.const t6) (Operand.const t44)) 0 (fun _ w =>
  LdR Try.prog 54 t6 (fun t6_2 w =>
  K t6_2 w) w) w) w) w) w) w) w) w) w) w) w) w) w) w) w) w) w) w) w) w) w) w) w) w) w) w) w) ()) w) w) w) w) w
theorem grid_Fill_link (p0 p1 p2 : Value) {R : Value → World → Prop} {w : World} (h : ∀ K : Value → World → Prop, (∀ v w', R v w' → K v w') → grid_Fill p0 p1 p2 K w) : Calls Try.prog 45 #[p0, p1, p2] w (retK R) :=
  calls_of_def [p0, p1, p2] [(4, [18])] mixed Try.func45 (by kernel_rfl) (by kernel_rfl) (by kernel_rfl) (X := grid_Fill p0 p1 p2 R w) (by kernel_rfl) (h R fun _ _ h => h)
theorem grid_Fill_b : Bodied Try.prog 45 := ⟨_, Try.func45, by kernel_rfl, by kernel_rfl⟩

/- lyceum/grid.Scroll -/
def grid_Scroll (p0 p1 p2 p3 p4 : Value) (K : Value → World → Prop) (w : World) : Prop :=
  OpX Try.prog (Op.box 54 (Operand.const p0)) 0 (fun t5 w =>
  OpX Try.prog (Op.box 3 (Operand.const p1)) 0 (fun t6 w =>
  OpX Try.prog (Op.box 3 (Operand.const p2)) 0 (fun t7 w =>
  OpX Try.prog (Op.box 3 (Operand.const p3)) 0 (fun t8 w =>
  OpX Try.prog (Op.box 44 (Operand.const p4)) 0 (fun t9 w =>
  OpX Try.prog (Op.alloc 54) 0 (fun t10 w =>
  Join1 (fun k1 w =>
  OpX Try.prog (Op.load 54 (Operand.const t5)) 54 (fun t11 w =>
  OpX Try.prog (Op.call { callee := Callee.value (Operand.func 51), args := #[Operand.const t11], argTypes := #[54] }) 4 (fun t12 w =>
  OpX Try.prog (Op.unOp UnOp.not 4 (Operand.const t12)) 4 (fun t13 w =>
  BrW t13
  (k1 (Value.bool true) w)
  (OpX Try.prog (Op.load 44 (Operand.const t9)) 44 (fun t15 w =>
  OpX Try.prog (Op.call { callee := Callee.value (Operand.func 84), args := #[Operand.const t15], argTypes := #[44] }) 4 (fun t16 w =>
  OpX Try.prog (Op.unOp UnOp.not 4 (Operand.const t16)) 4 (fun t17 w =>
  k1 t17 w) w) w) w) ()) w) w) w) (fun t18 w =>
  BrW t18
  (OpX Try.prog (Op.load 54 (Operand.const t5)) 54 (fun t19 w =>
  OpX Try.prog (Op.store 54 (Operand.const t10) (Operand.const t19)) 0 (fun _ w =>
  LdR Try.prog 54 t10 (fun t10_1 w =>
  K t10_1 w) w) w) w)
  (DrewW (fun w =>
  RdX Try.prog (Op.load 3 (Operand.const t6)) 3 (fun t20 =>
  PurX Try.prog (Op.call { callee := Callee.builtin Builtin.max, args := #[Operand.const t20, Operand.const (Value.int IntKind.i64 0)], argTypes := #[3, 3] }) 3 (fun t21 =>
  PurX Try.prog (Op.fieldAddr 54 (Operand.const t5) 1) 0 (fun t22 =>
  RdX Try.prog (Op.load 3 (Operand.const t22)) 3 (fun t23 =>
  PurX Try.prog (Op.call { callee := Callee.builtin Builtin.min, args := #[Operand.const t21, Operand.const t23], argTypes := #[3, 3] }) 3 (fun t24 =>
  RdX Try.prog (Op.load 3 (Operand.const t7)) 3 (fun t25 =>
  PurX Try.prog (Op.call { callee := Callee.builtin Builtin.max, args := #[Operand.const t25, Operand.const (Value.int IntKind.i64 0)], argTypes := #[3, 3] }) 3 (fun t26 =>
  PurX Try.prog (Op.fieldAddr 54 (Operand.const t5) 1) 0 (fun t27 =>
  RdX Try.prog (Op.load 3 (Operand.const t27)) 3 (fun t28 =>
  PurX Try.prog (Op.call { callee := Callee.builtin Builtin.min, args := #[Operand.const t26, Operand.const t28], argTypes := #[3, 3] }) 3 (fun t29 =>
  OpX Try.prog (Op.store 3 (Operand.const t6) (Operand.const t24)) 0 (fun _ w =>
  (Yld Try.prog (Op.load 3 (Operand.const t27)) 3 t28 w) ∧ ((Yld Try.prog (Op.load 3 (Operand.const t7)) 3 t25 w) ∧ (OpX Try.prog (Op.store 3 (Operand.const t7) (Operand.const t29)) 0 (fun _ w =>
  OpX Try.prog (Op.load 3 (Operand.const t8)) 3 (fun t30 w =>
  OpX Try.prog (Op.fieldAddr 54 (Operand.const t5) 1) 0 (fun t31 w =>
  OpX Try.prog (Op.load 3 (Operand.const t31)) 3 (fun t32 w =>
  OpX Try.prog (Op.unOp UnOp.neg 3 (Operand.const t32)) 3 (fun t33 w =>
  OpX Try.prog (Op.call { callee := Callee.builtin Builtin.max, args := #[Operand.const t30, Operand.const t33], argTypes := #[3, 3] }) 3 (fun t34 w =>
  OpX Try.prog (Op.fieldAddr 54 (Operand.const t5) 1) 0 (fun t35 w =>
  OpX Try.prog (Op.load 3 (Operand.const t35)) 3 (fun t36 w =>
  OpX Try.prog (Op.call { callee := Callee.builtin Builtin.min, args := #[Operand.const t34, Operand.const t36], argTypes := #[3, 3] }) 3 (fun t37 w =>
  OpX Try.prog (Op.store 3 (Operand.const t8) (Operand.const t37)) 0 (fun _ w =>
  OpX Try.prog (Op.load 54 (Operand.const t5)) 54 (fun t38 w =>
  OpX Try.prog (Op.load 3 (Operand.const t6)) 3 (fun t39 w =>
  OpX Try.prog (Op.load 3 (Operand.const t7)) 3 (fun t40 w =>
  OpX Try.prog (Op.makeFunc (Fn.func 87) #[] #[Operand.const t8, Operand.const t6, Operand.const t7, Operand.const t9, Operand.const t5]) 110 (fun t41 w =>
  OpX Try.prog (Op.call { callee := Callee.value (Operand.func 73), args := #[Operand.const t38, Operand.const t39, Operand.const t40, Operand.const t41], argTypes := #[54, 3, 3, 110] }) 54 (fun t42 w =>
  OpX Try.prog (Op.store 54 (Operand.const t10) (Operand.const t42)) 0 (fun _ w =>
  LdR Try.prog 54 t10 (fun t10_2 w =>
  K t10_2 w) w) w) w) w) w) w) w) w) w) w) w) w) w) w) w) w) w))) w) ()) w) ()) ()) w) ()) w) ()) ()) w) w) ()) w) w) w) w) w) w) w
theorem grid_Scroll_link (p0 p1 p2 p3 p4 : Value) {R : Value → World → Prop} {w : World} (h : ∀ K : Value → World → Prop, (∀ v w', R v w' → K v w') → grid_Scroll p0 p1 p2 p3 p4 K w) : Calls Try.prog 47 #[p0, p1, p2, p3, p4] w (retK R) :=
  calls_of_def [p0, p1, p2, p3, p4] [(4, [18])] mixed Try.func47 (by kernel_rfl) (by kernel_rfl) (by kernel_rfl) (X := grid_Scroll p0 p1 p2 p3 p4 R w) (by kernel_rfl) (h R fun _ _ h => h)
theorem grid_Scroll_b : Bodied Try.prog 47 := ⟨_, Try.func47, by kernel_rfl, by kernel_rfl⟩

/- lyceum/grid.Blit -/
def grid_Blit (p0 p1 p2 p3 : Value) (K : Value → World → Prop) (w : World) : Prop :=
  OpX Try.prog (Op.box 54 (Operand.const p0)) 0 (fun t4 w =>
  OpX Try.prog (Op.box 54 (Operand.const p1)) 0 (fun t5 w =>
  OpX Try.prog (Op.box 3 (Operand.const p2)) 0 (fun t6 w =>
  OpX Try.prog (Op.box 3 (Operand.const p3)) 0 (fun t7 w =>
  OpX Try.prog (Op.alloc 54) 0 (fun t8 w =>
  Join1 (fun k1 w =>
  OpX Try.prog (Op.load 54 (Operand.const t4)) 54 (fun t13 w =>
  OpX Try.prog (Op.call { callee := Callee.value (Operand.func 51), args := #[Operand.const t13], argTypes := #[54] }) 4 (fun t14 w =>
  OpX Try.prog (Op.unOp UnOp.not 4 (Operand.const t14)) 4 (fun t15 w =>
  BrW t15
  (k1 (Value.bool true) w)
  (OpX Try.prog (Op.load 54 (Operand.const t5)) 54 (fun t17 w =>
  OpX Try.prog (Op.call { callee := Callee.value (Operand.func 51), args := #[Operand.const t17], argTypes := #[54] }) 4 (fun t18 w =>
  OpX Try.prog (Op.unOp UnOp.not 4 (Operand.const t18)) 4 (fun t19 w =>
  k1 t19 w) w) w) w) ()) w) w) w) (fun t20 w =>
  BrW t20
  (OpX Try.prog (Op.load 54 (Operand.const t4)) 54 (fun t21 w =>
  OpX Try.prog (Op.store 54 (Operand.const t8) (Operand.const t21)) 0 (fun _ w =>
  LdR Try.prog 54 t8 (fun t8_1 w =>
  K t8_1 w) w) w) w)
  (OpX Try.prog (Op.load 3 (Operand.const t7)) 3 (fun t23 w =>
  OpX Try.prog (Op.fieldAddr 54 (Operand.const t5) 1) 0 (fun t24 w =>
  OpX Try.prog (Op.load 3 (Operand.const t24)) 3 (fun t25 w =>
  OpX Try.prog (Op.fieldAddr 54 (Operand.const t4) 1) 0 (fun t26 w =>
  OpX Try.prog (Op.load 3 (Operand.const t26)) 3 (fun t27 w =>
  OpX Try.prog (Op.call { callee := Callee.value (Operand.func 72), args := #[Operand.const t23, Operand.const t25, Operand.const t27], argTypes := #[3, 3, 3] }) 107 (fun t28 w =>
  OpX Try.prog (Op.extract (Operand.const t28) 0) 3 (fun t29 w =>
  OpX Try.prog (Op.extract (Operand.const t28) 1) 3 (fun t30 w =>
  OpX Try.prog (Op.load 3 (Operand.const t6)) 3 (fun t32 w =>
  OpX Try.prog (Op.fieldAddr 54 (Operand.const t5) 0) 0 (fun t33 w =>
  OpX Try.prog (Op.load 3 (Operand.const t33)) 3 (fun t34 w =>
  OpX Try.prog (Op.fieldAddr 54 (Operand.const t4) 0) 0 (fun t35 w =>
  OpX Try.prog (Op.load 3 (Operand.const t35)) 3 (fun t36 w =>
  OpX Try.prog (Op.call { callee := Callee.value (Operand.func 72), args := #[Operand.const t32, Operand.const t34, Operand.const t36], argTypes := #[3, 3, 3] }) 107 (fun t37 w =>
  OpX Try.prog (Op.extract (Operand.const t37) 0) 3 (fun t38 w =>
  OpX Try.prog (Op.extract (Operand.const t37) 1) 3 (fun t39 w =>
  OpX Try.prog (Op.alloc 3) 0 (fun t11 w =>
  OpX Try.prog (Op.alloc 3) 0 (fun t12 w =>
  OpX Try.prog (Op.store 3 (Operand.const t11) (Operand.const t38)) 0 (fun _ w =>
  OpX Try.prog (Op.store 3 (Operand.const t12) (Operand.const t39)) 0 (fun _ w =>
  OpX Try.prog (Op.load 54 (Operand.const t4)) 54 (fun t40 w =>
  OpX Try.prog (Op.makeFunc (Fn.func 89) #[] #[Operand.const t11, Operand.const t12, Operand.const t5, Operand.const t6, Operand.const t7]) 110 (fun t43 w =>
  OpX Try.prog (Op.call { callee := Callee.value (Operand.func 73), args := #[Operand.const t40, Operand.const t29, Operand.const t30, Operand.const t43], argTypes := #[54, 3, 3, 110] }) 54 (fun t44 w =>
  OpX Try.prog (Op.store 54 (Operand.const t8) (Operand.const t44)) 0 (fun _ w =>
  LdR Try.prog 54 t8 (fun t8_2 w =>
  K t8_2 w) w) w) w) w) w) w) w) w) w) w) w) w) w) w) w) w) w) w) w) w) w) w) w) w) w) ()) w) w) w) w) w) w
theorem grid_Blit_link (p0 p1 p2 p3 : Value) {R : Value → World → Prop} {w : World} (h : ∀ K : Value → World → Prop, (∀ v w', R v w' → K v w') → grid_Blit p0 p1 p2 p3 K w) : Calls Try.prog 48 #[p0, p1, p2, p3] w (retK R) :=
  calls_of_def [p0, p1, p2, p3] [(4, [20])] mixed Try.func48 (by kernel_rfl) (by kernel_rfl) (by kernel_rfl) (X := grid_Blit p0 p1 p2 p3 R w) (by kernel_rfl) (h R fun _ _ h => h)
theorem grid_Blit_b : Bodied Try.prog 48 := ⟨_, Try.func48, by kernel_rfl, by kernel_rfl⟩

/- lyceum/grid.Resize -/
def grid_Resize (p0 p1 p2 p3 : Value) (K : Value → World → Prop) (w : World) : Prop :=
  OpX Try.prog (Op.box 54 (Operand.const p0)) 0 (fun t4 w =>
  OpX Try.prog (Op.box 44 (Operand.const p3)) 0 (fun t7 w =>
  OpX Try.prog (Op.alloc 54) 0 (fun t8 w =>
  Join1 (fun k1 w =>
  OpX Try.prog (Op.load 54 (Operand.const t4)) 54 (fun t9 w =>
  OpX Try.prog (Op.call { callee := Callee.value (Operand.func 51), args := #[Operand.const t9], argTypes := #[54] }) 4 (fun t10 w =>
  OpX Try.prog (Op.unOp UnOp.not 4 (Operand.const t10)) 4 (fun t11 w =>
  BrW t11
  (k1 (Value.bool true) w)
  (OpX Try.prog (Op.load 44 (Operand.const t7)) 44 (fun t13 w =>
  OpX Try.prog (Op.call { callee := Callee.value (Operand.func 84), args := #[Operand.const t13], argTypes := #[44] }) 4 (fun t14 w =>
  OpX Try.prog (Op.unOp UnOp.not 4 (Operand.const t14)) 4 (fun t15 w =>
  BrW t15
  (k1 (Value.bool true) w)
  (OpX Try.prog (Op.call { callee := Callee.value (Operand.func 90), args := #[Operand.const p1, Operand.const p2], argTypes := #[3, 3] }) 4 (fun t20 w =>
  OpX Try.prog (Op.unOp UnOp.not 4 (Operand.const t20)) 4 (fun t21 w =>
  k1 t21 w) w) w) ()) w) w) w) ()) w) w) w) (fun t22 w =>
  BrW t22
  (OpX Try.prog (Op.load 54 (Operand.const t4)) 54 (fun t23 w =>
  OpX Try.prog (Op.store 54 (Operand.const t8) (Operand.const t23)) 0 (fun _ w =>
  LdR Try.prog 54 t8 (fun t8_1 w =>
  K t8_1 w) w) w) w)
  (Join0 (fun k2 w =>
  RdX Try.prog (Op.load 44 (Operand.const t7)) 44 (fun t26 =>
  PurX Try.prog (Op.fieldAddr 54 (Operand.const t4) 1) 0 (fun t29 =>
  RdX Try.prog (Op.load 3 (Operand.const t29)) 3 (fun t30 =>
  PurX Try.prog (Op.call { callee := Callee.builtin Builtin.min, args := #[Operand.const p2, Operand.const t30], argTypes := #[3, 3] }) 3 (fun t31 =>
  (OpX Try.prog (Op.call { callee := Callee.value (Operand.func 91), args := #[Operand.const p1, Operand.const p2, Operand.const t26], argTypes := #[3, 3, 44] }) 54 (fun t27 w =>
  (Yld Try.prog (Op.load 3 (Operand.const t29)) 3 t30 w) ∧ (OpX Try.prog (Op.makeFunc (Fn.func 92) #[] #[Operand.const t4]) 110 (fun t32 w =>
  (Yld Try.prog (Op.load 3 (Operand.const t29)) 3 t30 w) ∧ (OpX Try.prog (Op.call { callee := Callee.value (Operand.func 73), args := #[Operand.const t27, Operand.const (Value.int IntKind.i64 0), Operand.const t31, Operand.const t32], argTypes := #[54, 3, 3, 110] }) 54 (fun t33 w =>
  OpX Try.prog (Op.store 54 (Operand.const t8) (Operand.const t33)) 0 (fun _ w =>
  k2 w) w) w)) w)) w) ∧ (OpX Try.prog (Op.makeFunc (Fn.func 92) #[] #[Operand.const t4]) 110 (fun t32_1 w =>
  (Yld Try.prog (Op.load 3 (Operand.const t29)) 3 t30 w) ∧ ((Yld Try.prog (Op.load 44 (Operand.const t7)) 44 t26 w) ∧ (OpX Try.prog (Op.call { callee := Callee.value (Operand.func 91), args := #[Operand.const p1, Operand.const p2, Operand.const t26], argTypes := #[3, 3, 44] }) 54 (fun t27_1 w =>
  (Yld Try.prog (Op.load 3 (Operand.const t29)) 3 t30 w) ∧ (OpX Try.prog (Op.call { callee := Callee.value (Operand.func 73), args := #[Operand.const t27_1, Operand.const (Value.int IntKind.i64 0), Operand.const t31, Operand.const t32_1], argTypes := #[54, 3, 3, 110] }) 54 (fun t33_1 w =>
  OpX Try.prog (Op.store 54 (Operand.const t8) (Operand.const t33_1)) 0 (fun _ w =>
  k2 w) w) w)) w))) w)) ()) w) ()) w) (fun w =>
  LdR Try.prog 54 t8 (fun t8_2 w =>
  K t8_2 w) w) w.drew) ()) w) w) w) w
theorem grid_Resize_link (p0 p1 p2 p3 : Value) {R : Value → World → Prop} {w : World} (h : ∀ K : Value → World → Prop, (∀ v w', R v w' → K v w') → grid_Resize p0 p1 p2 p3 K w) : Calls Try.prog 49 #[p0, p1, p2, p3] w (retK R) :=
  calls_of_def [p0, p1, p2, p3] [(4, [22]), (11, [])] mixed Try.func49 (by kernel_rfl) (by kernel_rfl) (by kernel_rfl) (X := grid_Resize p0 p1 p2 p3 R w) (by kernel_rfl) (h R fun _ _ h => h)
theorem grid_Resize_b : Bodied Try.prog 49 := ⟨_, Try.func49, by kernel_rfl, by kernel_rfl⟩

/- lyceum/grid.Same -/
def grid_Same (p0 p1 : Value) (K : Value → World → Prop) (w : World) : Prop :=
  OpX Try.prog (Op.box 54 (Operand.const p0)) 0 (fun t2 w =>
  OpX Try.prog (Op.box 54 (Operand.const p1)) 0 (fun t3 w =>
  Join1 (fun k1 w =>
  OpX Try.prog (Op.fieldAddr 54 (Operand.const t2) 0) 0 (fun t5 w =>
  OpX Try.prog (Op.load 3 (Operand.const t5)) 3 (fun t6 w =>
  OpX Try.prog (Op.fieldAddr 54 (Operand.const t3) 0) 0 (fun t7 w =>
  OpX Try.prog (Op.load 3 (Operand.const t7)) 3 (fun t8 w =>
  BinX Try.prog BinOp.eql 3 t6 t8 (fun t9 w =>
  BrW t9
  (OpX Try.prog (Op.fieldAddr 54 (Operand.const t2) 1) 0 (fun t11 w =>
  OpX Try.prog (Op.load 3 (Operand.const t11)) 3 (fun t12 w =>
  OpX Try.prog (Op.fieldAddr 54 (Operand.const t3) 1) 0 (fun t13 w =>
  OpX Try.prog (Op.load 3 (Operand.const t13)) 3 (fun t14 w =>
  BinX Try.prog BinOp.eql 3 t12 t14 (fun t15 w =>
  BrW t15
  (OpX Try.prog (Op.fieldAddr 54 (Operand.const t2) 2) 0 (fun t18 w =>
  OpX Try.prog (Op.load 45 (Operand.const t18)) 45 (fun t19 w =>
  OpX Try.prog (Op.fieldAddr 54 (Operand.const t3) 2) 0 (fun t20 w =>
  OpX Try.prog (Op.load 45 (Operand.const t20)) 45 (fun t21 w =>
  OpX Try.prog (Op.call { callee := Callee.value (Operand.func 93), args := #[Operand.const t19, Operand.const t21], argTypes := #[45, 45] }) 4 (fun t22 w =>
  k1 t22 w) w) w) w) w) w)
  (k1 (Value.bool false) w) ()) w) w) w) w) w)
  (k1 (Value.bool false) w) ()) w) w) w) w) w) (fun t4 w =>
  K t4 w) w) w) w
theorem grid_Same_link (p0 p1 : Value) {R : Value → World → Prop} {w : World} (h : ∀ K : Value → World → Prop, (∀ v w', R v w' → K v w') → grid_Same p0 p1 K w) : Calls Try.prog 50 #[p0, p1] w (retK R) :=
  calls_of_def [p0, p1] [(3, [4])] mixed Try.func50 (by kernel_rfl) (by kernel_rfl) (by kernel_rfl) (X := grid_Same p0 p1 R w) (by kernel_rfl) (h R fun _ _ h => h)
theorem grid_Same_b : Bodied Try.prog 50 := ⟨_, Try.func50, by kernel_rfl, by kernel_rfl⟩

/- lyceum/grid.Check -/
def grid_Check (p0 : Value) (K : Value → World → Prop) (w : World) : Prop :=
  OpX Try.prog (Op.box 54 (Operand.const p0)) 0 (fun t1 w =>
  OpX Try.prog (Op.alloc 4) 0 (fun t2 w =>
  Join1 (fun k1 w =>
  OpX Try.prog (Op.fieldAddr 54 (Operand.const t1) 0) 0 (fun t5 w =>
  OpX Try.prog (Op.load 3 (Operand.const t5)) 3 (fun t6 w =>
  OpX Try.prog (Op.fieldAddr 54 (Operand.const t1) 1) 0 (fun t7 w =>
  OpX Try.prog (Op.load 3 (Operand.const t7)) 3 (fun t8 w =>
  OpX Try.prog (Op.call { callee := Callee.value (Operand.func 90), args := #[Operand.const t6, Operand.const t8], argTypes := #[3, 3] }) 4 (fun t9 w =>
  OpX Try.prog (Op.unOp UnOp.not 4 (Operand.const t9)) 4 (fun t10 w =>
  BrW t10
  (k1 (Value.bool true) w)
  (OpX Try.prog (Op.fieldAddr 54 (Operand.const t1) 2) 0 (fun t12 w =>
  OpX Try.prog (Op.load 45 (Operand.const t12)) 45 (fun t13 w =>
  OpX Try.prog (Op.call { callee := Callee.builtin Builtin.len, args := #[Operand.const t13], argTypes := #[45] }) 3 (fun t14 w =>
  OpX Try.prog (Op.fieldAddr 54 (Operand.const t1) 0) 0 (fun t15 w =>
  OpX Try.prog (Op.load 3 (Operand.const t15)) 3 (fun t16 w =>
  OpX Try.prog (Op.fieldAddr 54 (Operand.const t1) 1) 0 (fun t17 w =>
  OpX Try.prog (Op.load 3 (Operand.const t17)) 3 (fun t18 w =>
  BinX Try.prog BinOp.mul 3 t16 t18 (fun t19 w =>
  BinX Try.prog BinOp.neq 3 t14 t19 (fun t20 w =>
  k1 t20 w) w) w) w) w) w) w) w) w) w) ()) w) w) w) w) w) w) (fun t21 w =>
  BrW t21
  (OpX Try.prog (Op.store 4 (Operand.const t2) (Operand.const (Value.bool false))) 0 (fun _ w =>
  LdR Try.prog 4 t2 (fun t2_1 w =>
  K t2_1 w) w) w)
  (OpX Try.prog (Op.load 54 (Operand.const t1)) 54 (fun t22 w =>
  OpX Try.prog (Op.fieldAddr 54 (Operand.const t1) 1) 0 (fun t23 w =>
  OpX Try.prog (Op.load 3 (Operand.const t23)) 3 (fun t24 w =>
  OpX Try.prog (Op.call { callee := Callee.value (Operand.func 94), args := #[Operand.const t22, Operand.const (Value.int IntKind.i64 0), Operand.const t24], argTypes := #[54, 3, 3] }) 122 (fun t25 w =>
  RngX Try.prog t25 2 (fun vs2 bg2 kn2 kr2 _ w =>
  bg2 (fun w =>
  OpX Try.prog (Op.call { callee := Callee.value (Operand.func 95), args := #[Operand.const (nthV vs2 1)], argTypes := #[45] }) 4 (fun t29 w =>
  OpX Try.prog (Op.unOp UnOp.not 4 (Operand.const t29)) 4 (fun t30 w =>
  BrW t30
  (OpX Try.prog (Op.store 4 (Operand.const t2) (Operand.const (Value.bool false))) 0 (fun _ w =>
  kr2 w) w)
  (kn2 w) ()) w) w) w)
  (fun r2 w =>
  OpX Try.prog (Op.store 4 (Operand.const t2) (Operand.const (Value.bool true))) 0 (fun _ w =>
  closeV (dcons r2 (Value.tuple #[])) (fun w =>
  LdR Try.prog 4 t2 (fun t2_2 w =>
  K t2_2 w) w) w) w)
  (fun r2 w =>
  closeV (dcons r2 (Value.tuple #[])) (fun w =>
  LdR Try.prog 4 t2 (fun t2_3 w =>
  K t2_3 w) w) w)
  [] w) w) w) w) w) ()) w) w) w
theorem grid_Check_link (p0 : Value) {R : Value → World → Prop} {w : World} (h : ∀ K : Value → World → Prop, (∀ v w', R v w' → K v w') → grid_Check p0 K w) : Calls Try.prog 51 #[p0] w (retK R) :=
  calls_of_def [p0] [(4, [21])] mixed Try.func51 (by kernel_rfl) (by kernel_rfl) (by kernel_rfl) (X := grid_Check p0 R w) (by kernel_rfl) (h R fun _ _ h => h)
theorem grid_Check_b : Bodied Try.prog 51 := ⟨_, Try.func51, by kernel_rfl, by kernel_rfl⟩

/- lyceum/grid.span -/
def grid_span (p0 p1 p2 : Value) (K : Value → World → Prop) (w : World) : Prop :=
  Join1 (fun k1 w =>
  BinX Try.prog BinOp.leq 3 p1 (Value.int IntKind.i64 0) (fun t9 w =>
  BrW t9
  (k1 (Value.bool true) w)
  (BinX Try.prog BinOp.geq 3 p0 p2 (fun t13 w =>
  BrW t13
  (k1 (Value.bool true) w)
  (BinX Try.prog BinOp.lss 3 p0 (Value.int IntKind.i64 0) (fun t17 w =>
  BrW t17
  (BinX Try.prog BinOp.add 3 p0 p1 (fun t21 w =>
  BinX Try.prog BinOp.leq 3 t21 (Value.int IntKind.i64 0) (fun t22 w =>
  k1 t22 w) w) w)
  (k1 (Value.bool false) w) ()) w) ()) w) ()) w) (fun t24 w =>
  BrW t24
  (K (Value.tuple #[(Value.int IntKind.i64 0), (Value.int IntKind.i64 0)]) w)
  (BinX Try.prog BinOp.lss 3 p0 (Value.int IntKind.i64 0) (fun t26 w =>
  BrW t26
  (BinX Try.prog BinOp.add 3 p0 p1 (fun t29 w =>
  OpX Try.prog (Op.call { callee := Callee.builtin Builtin.min, args := #[Operand.const t29, Operand.const p2], argTypes := #[3, 3] }) 3 (fun t31 w =>
  K (Value.tuple #[(Value.int IntKind.i64 0), t31]) w) w) w)
  (BinX Try.prog BinOp.sub 3 p2 p0 (fun t37 w =>
  OpX Try.prog (Op.call { callee := Callee.builtin Builtin.min, args := #[Operand.const p1, Operand.const t37], argTypes := #[3, 3] }) 3 (fun t38 w =>
  BinX Try.prog BinOp.add 3 p0 t38 (fun t39 w =>
  K (Value.tuple #[p0, t39]) w) w) w) w) ()) w) ()) w
theorem grid_span_link (p0 p1 p2 : Value) {R : Value → World → Prop} {w : World} (h : ∀ K : Value → World → Prop, (∀ v w', R v w' → K v w') → grid_span p0 p1 p2 K w) : Calls Try.prog 72 #[p0, p1, p2] w (retK R) :=
  calls_of_def [p0, p1, p2] [(4, [24])] mixed Try.func72 (by kernel_rfl) (by kernel_rfl) (by kernel_rfl) (X := grid_span p0 p1 p2 R w) (by kernel_rfl) (h R fun _ _ h => h)
theorem grid_span_b : Bodied Try.prog 72 := ⟨_, Try.func72, by kernel_rfl, by kernel_rfl⟩

/- lyceum/grid.change -/
def grid_change (p0 p1 p2 p3 : Value) (K : Value → World → Prop) (w : World) : Prop :=
  OpX Try.prog (Op.box 54 (Operand.const p0)) 0 (fun t4 w =>
  OpX Try.prog (Op.box 110 (Operand.const p3)) 0 (fun t7 w =>
  OpX Try.prog (Op.alloc 54) 0 (fun t8 w =>
  OpX Try.prog (Op.fieldAddr 54 (Operand.const t4) 2) 0 (fun t11 w =>
  OpX Try.prog (Op.load 45 (Operand.const t11)) 45 (fun t12 w =>
  OpX Try.prog (Op.call { callee := Callee.value (Operand.func 104), args := #[Operand.const t12], argTypes := #[45] }) 45 (fun t13 w =>
  OpX Try.prog (Op.fieldAddr 54 (Operand.const t4) 2) 0 (fun t14 w =>
  OpX Try.prog (Op.store 45 (Operand.const t14) (Operand.const t13)) 0 (fun _ w =>
  OpX Try.prog (Op.load 54 (Operand.const t4)) 54 (fun t15 w =>
  OpX Try.prog (Op.call { callee := Callee.value (Operand.func 94), args := #[Operand.const t15, Operand.const p1, Operand.const p2], argTypes := #[54, 3, 3] }) 122 (fun t18 w =>
  RngX Try.prog t18 2 (fun vs1 bg1 kn1 _ _ w =>
  bg1 (fun w =>
  OpX Try.prog (Op.load 110 (Operand.const t7)) 110 (fun t21 w =>
  OpX Try.prog (Op.call { callee := Callee.value (Operand.const t21), args := #[Operand.const (nthV vs1 0), Operand.const (nthV vs1 1)], argTypes := #[3, 45] }) 0 (fun _ w =>
  OpX Try.prog (Op.call { callee := Callee.value (Operand.func 65), args := #[Operand.const (nthV vs1 1)], argTypes := #[45] }) 45 (fun t27 w =>
  OpX Try.prog (Op.call { callee := Callee.builtin Builtin.copy, args := #[Operand.const (nthV vs1 1), Operand.const t27], argTypes := #[45, 45] }) 3 (fun _ w =>
  kn1 w) w) w) w) w) w)
  (fun r1 w =>
  OpX Try.prog (Op.load 54 (Operand.const t4)) 54 (fun t29 w =>
  OpX Try.prog (Op.store 54 (Operand.const t8) (Operand.const t29)) 0 (fun _ w =>
  closeV (dcons r1 (Value.tuple #[])) (fun w =>
  LdR Try.prog 54 t8 (fun t8_1 w =>
  K t8_1 w) w) w) w) w)
  (fun _ _ => False)
  [] w) w) w) w) w) w) w) w) w) w) w
theorem grid_change_link (p0 p1 p2 p3 : Value) {R : Value → World → Prop} {w : World} (h : ∀ K : Value → World → Prop, (∀ v w', R v w' → K v w') → grid_change p0 p1 p2 p3 K w) : Calls Try.prog 73 #[p0, p1, p2, p3] w (retK R) :=
  calls_of_def [p0, p1, p2, p3] [] mixed Try.func73 (by kernel_rfl) (by kernel_rfl) (by kernel_rfl) (X := grid_change p0 p1 p2 p3 R w) (by kernel_rfl) (h R fun _ _ h => h)
theorem grid_change_b : Bodied Try.prog 73 := ⟨_, Try.func73, by kernel_rfl, by kernel_rfl⟩

/- lyceum/grid.Put$1 -/
def grid_Put_1 (p0 p1 p2 p3 p4 p5 : Value) (K : Value → World → Prop) (w : World) : Prop :=
  OpX Try.prog (Op.load 3 (Operand.const p2)) 3 (fun t9 w =>
  Loop1 t9 (fun t8 next1 w =>
  OpX Try.prog (Op.load 3 (Operand.const p3)) 3 (fun t11 w =>
  BinX Try.prog BinOp.lss 3 t8 t11 (fun t12 w =>
  BrW t12
  (OpX Try.prog (Op.load 45 (Operand.const p4)) 45 (fun t17 w =>
  OpX Try.prog (Op.load 3 (Operand.const p5)) 3 (fun t19 w =>
  BinX Try.prog BinOp.sub 3 t8 t19 (fun t20 w =>
  OpX Try.prog (Op.indexAddr 45 (Operand.const t17) (Operand.const t20)) 0 (fun t21 w =>
  OpX Try.prog (Op.load 44 (Operand.const t21)) 44 (fun t22 w =>
  OpX Try.prog (Op.indexAddr 45 (Operand.const p1) (Operand.const t8)) 0 (fun t23 w =>
  OpX Try.prog (Op.store 44 (Operand.const t23) (Operand.const t22)) 0 (fun _ w =>
  BinX Try.prog BinOp.add 3 t8 (Value.int IntKind.i64 1) (fun t14 w =>
  next1 t14 w) w) w) w) w) w) w) w) w)
  (K (Value.tuple #[]) w) ()) w) w) w) w
theorem grid_Put_1_link (p0 p1 p2 p3 p4 p5 : Value) {R : Value → World → Prop} {w : World} (h : ∀ K : Value → World → Prop, (∀ v w', R v w' → K v w') → grid_Put_1 p0 p1 p2 p3 p4 p5 K w) : Calls Try.prog 74 #[p0, p1, p2, p3, p4, p5] w (retK R) :=
  calls_of_def [p0, p1, p2, p3, p4, p5] [(3, [8])] mixed Try.func74 (by kernel_rfl) (by kernel_rfl) (by kernel_rfl) (X := grid_Put_1 p0 p1 p2 p3 p4 p5 R w) (by kernel_rfl) (h R fun _ _ h => h)
theorem grid_Put_1_b : Bodied Try.prog 74 := ⟨_, Try.func74, by kernel_rfl, by kernel_rfl⟩

/- lyceum/grid.Row -/
def grid_Row (p0 p1 : Value) (K : Value → World → Prop) (w : World) : Prop :=
  OpX Try.prog (Op.box 54 (Operand.const p0)) 0 (fun t2 w =>
  Join1 (fun k1 w =>
  OpX Try.prog (Op.load 54 (Operand.const t2)) 54 (fun t5 w =>
  OpX Try.prog (Op.call { callee := Callee.value (Operand.func 78), args := #[Operand.const t5], argTypes := #[54] }) 4 (fun t6 w =>
  OpX Try.prog (Op.unOp UnOp.not 4 (Operand.const t6)) 4 (fun t7 w =>
  BrW t7
  (k1 (Value.bool true) w)
  (BinX Try.prog BinOp.lss 3 p1 (Value.int IntKind.i64 0) (fun t10 w =>
  BrW t10
  (k1 (Value.bool true) w)
  (OpX Try.prog (Op.fieldAddr 54 (Operand.const t2) 1) 0 (fun t14 w =>
  OpX Try.prog (Op.load 3 (Operand.const t14)) 3 (fun t15 w =>
  BinX Try.prog BinOp.geq 3 p1 t15 (fun t16 w =>
  k1 t16 w) w) w) w) ()) w) ()) w) w) w) (fun t17 w =>
  BrW t17
  (K (Value.slice none 0 0) w)
  (OpX Try.prog (Op.load 54 (Operand.const t2)) 54 (fun t18 w =>
  OpX Try.prog (Op.call { callee := Callee.value (Operand.func 88), args := #[Operand.const t18, Operand.const p1], argTypes := #[54, 3] }) 45 (fun t20 w =>
  OpX Try.prog (Op.call { callee := Callee.value (Operand.func 104), args := #[Operand.const t20], argTypes := #[45] }) 45 (fun t21 w =>
  K t21 w) w) w) w) ()) w) w
theorem grid_Row_link (p0 p1 : Value) {R : Value → World → Prop} {w : World} (h : ∀ K : Value → World → Prop, (∀ v w', R v w' → K v w') → grid_Row p0 p1 K w) : Calls Try.prog 75 #[p0, p1] w (retK R) :=
  calls_of_def [p0, p1] [(4, [17])] mixed Try.func75 (by kernel_rfl) (by kernel_rfl) (by kernel_rfl) (X := grid_Row p0 p1 R w) (by kernel_rfl) (h R fun _ _ h => h)
theorem grid_Row_b : Bodied Try.prog 75 := ⟨_, Try.func75, by kernel_rfl, by kernel_rfl⟩

/- lyceum/grid.whole -/
def grid_whole (p0 : Value) (K : Value → World → Prop) (w : World) : Prop :=
  OpX Try.prog (Op.box 54 (Operand.const p0)) 0 (fun t1 w =>
  Join1 (fun k1 w =>
  PurX Try.prog (Op.fieldAddr 54 (Operand.const t1) 0) 0 (fun t3 =>
  RdX Try.prog (Op.load 3 (Operand.const t3)) 3 (fun t4 =>
  PurB Try.prog BinOp.geq 3 t4 (Value.int IntKind.i64 1) (fun t5 =>
  BrW t5
  (PurX Try.prog (Op.fieldAddr 54 (Operand.const t1) 1) 0 (fun t7 =>
  RdX Try.prog (Op.load 3 (Operand.const t7)) 3 (fun t8 =>
  PurB Try.prog BinOp.geq 3 t8 (Value.int IntKind.i64 1) (fun t9 =>
  BrW t9
  (PurX Try.prog (Op.fieldAddr 54 (Operand.const t1) 2) 0 (fun t12 =>
  RdX Try.prog (Op.load 45 (Operand.const t12)) 45 (fun t13 =>
  RdX Try.prog (Op.call { callee := Callee.builtin Builtin.len, args := #[Operand.const t13], argTypes := #[45] }) 3 (fun t14 =>
  PurX Try.prog (Op.fieldAddr 54 (Operand.const t1) 0) 0 (fun t15 =>
  RdX Try.prog (Op.load 3 (Operand.const t15)) 3 (fun t16 =>
  PurB Try.prog BinOp.quo 3 t14 t16 (fun t17 =>
  PurX Try.prog (Op.fieldAddr 54 (Operand.const t1) 1) 0 (fun t18 =>
  RdX Try.prog (Op.load 3 (Operand.const t18)) 3 (fun t19 =>
  PurB Try.prog BinOp.geq 3 t17 t19 (fun t20 =>
  k1 t20 w) ()) w) ()) ()) w) ()) w) w) ())
  (k1 (Value.bool false) w) ()) ()) w) ())
  (k1 (Value.bool false) w) ()) ()) w) ()) (fun t2 w =>
  K t2 w) w.drew) w
theorem grid_whole_link (p0 : Value) {R : Value → World → Prop} {w : World} (h : ∀ K : Value → World → Prop, (∀ v w', R v w' → K v w') → grid_whole p0 K w) : Calls Try.prog 78 #[p0] w (retK R) :=
  calls_of_def [p0] [(3, [2])] mixed Try.func78 (by kernel_rfl) (by kernel_rfl) (by kernel_rfl) (X := grid_whole p0 R w) (by kernel_rfl) (h R fun _ _ h => h)
theorem grid_whole_b : Bodied Try.prog 78 := ⟨_, Try.func78, by kernel_rfl, by kernel_rfl⟩

/- lyceum/grid.New -/
def grid_New (p0 p1 : Value) (K : Value → World → Prop) (w : World) : Prop :=
  OpX Try.prog (Op.alloc 54) 0 (fun t4 w =>
  OpX Try.prog (Op.call { callee := Callee.value (Operand.func 90), args := #[Operand.const p0, Operand.const p1], argTypes := #[3, 3] }) 4 (fun t7 w =>
  OpX Try.prog (Op.unOp UnOp.not 4 (Operand.const t7)) 4 (fun t8 w =>
  BrW t8
  (OpX Try.prog (Op.build 54 #[]) 54 (fun t9 w =>
  OpX Try.prog (Op.store 54 (Operand.const t4) (Operand.const t9)) 0 (fun _ w =>
  LdR Try.prog 54 t4 (fun t4_1 w =>
  K t4_1 w) w) w) w)
  (OpX Try.prog (Op.call { callee := Callee.value (Operand.func 105), args := #[], argTypes := #[] }) 44 (fun t12 w =>
  OpX Try.prog (Op.call { callee := Callee.value (Operand.func 91), args := #[Operand.const p0, Operand.const p1, Operand.const t12], argTypes := #[3, 3, 44] }) 54 (fun t13 w =>
  OpX Try.prog (Op.store 54 (Operand.const t4) (Operand.const t13)) 0 (fun _ w =>
  LdR Try.prog 54 t4 (fun t4_2 w =>
  K t4_2 w) w) w) w) w) ()) w) w) w
theorem grid_New_link (p0 p1 : Value) {R : Value → World → Prop} {w : World} (h : ∀ K : Value → World → Prop, (∀ v w', R v w' → K v w') → grid_New p0 p1 K w) : Calls Try.prog 79 #[p0, p1] w (retK R) :=
  calls_of_def [p0, p1] [] mixed Try.func79 (by kernel_rfl) (by kernel_rfl) (by kernel_rfl) (X := grid_New p0 p1 R w) (by kernel_rfl) (h R fun _ _ h => h)
theorem grid_New_b : Bodied Try.prog 79 := ⟨_, Try.func79, by kernel_rfl, by kernel_rfl⟩

/- lyceum/grid.Lines -/
def grid_Lines (p0 : Value) (K : Value → World → Prop) (w : World) : Prop :=
  OpX Try.prog (Op.box 54 (Operand.const p0)) 0 (fun t1 w =>
  OpX Try.prog (Op.load 54 (Operand.const t1)) 54 (fun t6 w =>
  OpX Try.prog (Op.call { callee := Callee.value (Operand.func 78), args := #[Operand.const t6], argTypes := #[54] }) 4 (fun t7 w =>
  OpX Try.prog (Op.unOp UnOp.not 4 (Operand.const t7)) 4 (fun t8 w =>
  BrW t8
  (K (Value.slice none 0 0) w)
  (OpX Try.prog (Op.alloc 113) 0 (fun t3 w =>
  OpX Try.prog (Op.load 54 (Operand.const t1)) 54 (fun t9 w =>
  OpX Try.prog (Op.fieldAddr 54 (Operand.const t1) 1) 0 (fun t10 w =>
  OpX Try.prog (Op.load 3 (Operand.const t10)) 3 (fun t11 w =>
  OpX Try.prog (Op.call { callee := Callee.value (Operand.func 94), args := #[Operand.const t9, Operand.const (Value.int IntKind.i64 0), Operand.const t11], argTypes := #[54, 3, 3] }) 122 (fun t12 w =>
  RngX Try.prog t12 2 (fun vs1 bg1 kn1 _ _ w =>
  bg1 (fun w =>
  DrewW (fun w =>
  RdX Try.prog (Op.load 113 (Operand.const t3)) 113 (fun t15 =>
  OpX Try.prog (Op.call { callee := Callee.value (Operand.func 63), args := #[Operand.const (nthV vs1 1)], argTypes := #[45] }) 9 (fun t17 w =>
  (Yld Try.prog (Op.load 113 (Operand.const t3)) 113 t15 w) ∧ (OpX Try.prog (Op.buildSlice 113 1 #[(0, Operand.const t17)]) 113 (fun t18 w =>
  (Yld Try.prog (Op.load 113 (Operand.const t3)) 113 t15 w) ∧ (OpX Try.prog (Op.call { callee := Callee.builtin Builtin.append, args := #[Operand.const t15, Operand.const t18], argTypes := #[113, 113] }) 113 (fun t19 w =>
  OpX Try.prog (Op.store 113 (Operand.const t3) (Operand.const t19)) 0 (fun _ w =>
  kn1 w) w) w)) w)) w) w) w) w)
  (fun r1 w =>
  OpX Try.prog (Op.load 113 (Operand.const t3)) 113 (fun t20 w =>
  closeV (dcons r1 (Value.tuple #[])) (fun w =>
  K t20 w) w) w)
  (fun _ _ => False)
  [] w) w) w) w) w) w) ()) w) w) w) w
theorem grid_Lines_link (p0 : Value) {R : Value → World → Prop} {w : World} (h : ∀ K : Value → World → Prop, (∀ v w', R v w' → K v w') → grid_Lines p0 K w) : Calls Try.prog 81 #[p0] w (retK R) :=
  calls_of_def [p0] [] mixed Try.func81 (by kernel_rfl) (by kernel_rfl) (by kernel_rfl) (X := grid_Lines p0 R w) (by kernel_rfl) (h R fun _ _ h => h)
theorem grid_Lines_b : Bodied Try.prog 81 := ⟨_, Try.func81, by kernel_rfl, by kernel_rfl⟩

/- lyceum/grid.Shift -/
def grid_Shift (p0 p1 p2 p3 p4 : Value) (K : Value → World → Prop) (w : World) : Prop :=
  OpX Try.prog (Op.box 54 (Operand.const p0)) 0 (fun t5 w =>
  OpX Try.prog (Op.box 3 (Operand.const p1)) 0 (fun t6 w =>
  OpX Try.prog (Op.box 3 (Operand.const p3)) 0 (fun t8 w =>
  OpX Try.prog (Op.box 44 (Operand.const p4)) 0 (fun t9 w =>
  OpX Try.prog (Op.alloc 54) 0 (fun t10 w =>
  Join1 (fun k1 w =>
  OpX Try.prog (Op.load 54 (Operand.const t5)) 54 (fun t13 w =>
  OpX Try.prog (Op.call { callee := Callee.value (Operand.func 51), args := #[Operand.const t13], argTypes := #[54] }) 4 (fun t14 w =>
  OpX Try.prog (Op.unOp UnOp.not 4 (Operand.const t14)) 4 (fun t15 w =>
  BrW t15
  (k1 (Value.bool true) w)
  (OpX Try.prog (Op.load 44 (Operand.const t9)) 44 (fun t17 w =>
  OpX Try.prog (Op.call { callee := Callee.value (Operand.func 84), args := #[Operand.const t17], argTypes := #[44] }) 4 (fun t18 w =>
  OpX Try.prog (Op.unOp UnOp.not 4 (Operand.const t18)) 4 (fun t19 w =>
  k1 t19 w) w) w) w) ()) w) w) w) (fun t20 w =>
  BrW t20
  (OpX Try.prog (Op.load 54 (Operand.const t5)) 54 (fun t21 w =>
  OpX Try.prog (Op.store 54 (Operand.const t10) (Operand.const t21)) 0 (fun _ w =>
  LdR Try.prog 54 t10 (fun t10_1 w =>
  K t10_1 w) w) w) w)
  (DrewW (fun w =>
  RdX Try.prog (Op.load 3 (Operand.const t6)) 3 (fun t22 =>
  PurX Try.prog (Op.call { callee := Callee.builtin Builtin.max, args := #[Operand.const t22, Operand.const (Value.int IntKind.i64 0)], argTypes := #[3, 3] }) 3 (fun t23 =>
  RdX Try.prog (Op.load 3 (Operand.const t8)) 3 (fun t24 =>
  PurX Try.prog (Op.fieldAddr 54 (Operand.const t5) 0) 0 (fun t25 =>
  RdX Try.prog (Op.load 3 (Operand.const t25)) 3 (fun t26 =>
  PurX Try.prog (Op.unOp UnOp.neg 3 (Operand.const t26)) 3 (fun t27 =>
  PurX Try.prog (Op.call { callee := Callee.builtin Builtin.max, args := #[Operand.const t24, Operand.const t27], argTypes := #[3, 3] }) 3 (fun t28 =>
  PurX Try.prog (Op.fieldAddr 54 (Operand.const t5) 0) 0 (fun t29 =>
  RdX Try.prog (Op.load 3 (Operand.const t29)) 3 (fun t30 =>
  PurX Try.prog (Op.call { callee := Callee.builtin Builtin.min, args := #[Operand.const t28, Operand.const t30], argTypes := #[3, 3] }) 3 (fun t31 =>
  OpX Try.prog (Op.store 3 (Operand.const t6) (Operand.const t23)) 0 (fun _ w =>
  (Yld Try.prog (Op.load 3 (Operand.const t29)) 3 t30 w) ∧ ((Yld Try.prog (Op.load 3 (Operand.const t25)) 3 t26 w) ∧ ((Yld Try.prog (Op.load 3 (Operand.const t8)) 3 t24 w) ∧ (OpX Try.prog (Op.store 3 (Operand.const t8) (Operand.const t31)) 0 (fun _ w =>
  OpX Try.prog (Op.fieldAddr 54 (Operand.const t5) 1) 0 (fun t34 w =>
  OpX Try.prog (Op.load 3 (Operand.const t34)) 3 (fun t35 w =>
  OpX Try.prog (Op.call { callee := Callee.value (Operand.func 72), args := #[Operand.const p2, Operand.const (Value.int IntKind.i64 1), Operand.const t35], argTypes := #[3, 3, 3] }) 107 (fun t36 w =>
  OpX Try.prog (Op.extract (Operand.const t36) 0) 3 (fun t37 w =>
  OpX Try.prog (Op.extract (Operand.const t36) 1) 3 (fun t38 w =>
  OpX Try.prog (Op.load 54 (Operand.const t5)) 54 (fun t39 w =>
  OpX Try.prog (Op.makeFunc (Fn.func 106) #[] #[Operand.const t5, Operand.const t6, Operand.const t9, Operand.const t8]) 110 (fun t42 w =>
  OpX Try.prog (Op.call { callee := Callee.value (Operand.func 73), args := #[Operand.const t39, Operand.const t37, Operand.const t38, Operand.const t42], argTypes := #[54, 3, 3, 110] }) 54 (fun t43 w =>
  OpX Try.prog (Op.store 54 (Operand.const t10) (Operand.const t43)) 0 (fun _ w =>
  LdR Try.prog 54 t10 (fun t10_2 w =>
  K t10_2 w) w) w) w) w) w) w) w) w) w) w) w)))) w) ()) w) ()) ()) ()) w) ()) w) ()) w) w) ()) w) w) w) w) w) w
theorem grid_Shift_link (p0 p1 p2 p3 p4 : Value) {R : Value → World → Prop} {w : World} (h : ∀ K : Value → World → Prop, (∀ v w', R v w' → K v w') → grid_Shift p0 p1 p2 p3 p4 K w) : Calls Try.prog 82 #[p0, p1, p2, p3, p4] w (retK R) :=
  calls_of_def [p0, p1, p2, p3, p4] [(4, [20])] mixed Try.func82 (by kernel_rfl) (by kernel_rfl) (by kernel_rfl) (X := grid_Shift p0 p1 p2 p3 p4 R w) (by kernel_rfl) (h R fun _ _ h => h)
theorem grid_Shift_b : Bodied Try.prog 82 := ⟨_, Try.func82, by kernel_rfl, by kernel_rfl⟩

/- lyceum/grid.usual -/
def grid_usual (p0 : Value) (K : Value → World → Prop) (w : World) : Prop :=
  OpX Try.prog (Op.box 44 (Operand.const p0)) 0 (fun t1 w =>
  Join1 (fun k1 w =>
  OpX Try.prog (Op.load 44 (Operand.const t1)) 44 (fun t3 w =>
  OpX Try.prog (Op.call { callee := Callee.value (Operand.func 98), args := #[Operand.const t3], argTypes := #[44] }) 4 (fun t4 w =>
  BrW t4
  (OpX Try.prog (Op.fieldAddr 44 (Operand.const t1) 3) 0 (fun t6 w =>
  OpX Try.prog (Op.load 5 (Operand.const t6)) 5 (fun t7 w =>
  BinX Try.prog BinOp.and 5 t7 (Value.int IntKind.u8 192) (fun t8 w =>
  BinX Try.prog BinOp.eql 5 t8 (Value.int IntKind.u8 0) (fun t9 w =>
  k1 t9 w) w) w) w) w)
  (k1 (Value.bool false) w) ()) w) w) (fun t2 w =>
  K t2 w) w) w
theorem grid_usual_link (p0 : Value) {R : Value → World → Prop} {w : World} (h : ∀ K : Value → World → Prop, (∀ v w', R v w' → K v w') → grid_usual p0 K w) : Calls Try.prog 84 #[p0] w (retK R) :=
  calls_of_def [p0] [(3, [2])] mixed Try.func84 (by kernel_rfl) (by kernel_rfl) (by kernel_rfl) (X := grid_usual p0 R w) (by kernel_rfl) (h R fun _ _ h => h)
theorem grid_usual_b : Bodied Try.prog 84 := ⟨_, Try.func84, by kernel_rfl, by kernel_rfl⟩

/- lyceum/grid.Fill$1 -/
def grid_Fill_1 (p0 p1 p2 p3 p4 : Value) (K : Value → World → Prop) (w : World) : Prop :=
  DrewW (fun w =>
  RdX Try.prog (Op.load 3 (Operand.const p2)) 3 (fun t8 =>
  RdX Try.prog (Op.load 3 (Operand.const p3)) 3 (fun t9 =>
  PurX Try.prog (Op.slice 45 (Operand.const p1) (some (Operand.const t8)) (some (Operand.const t9)) none) 45 (fun t10 =>
  RdX Try.prog (Op.load 44 (Operand.const p4)) 44 (fun t11 =>
  OpX Try.prog (Op.call { callee := Callee.value (Operand.func 86), args := #[Operand.const t10, Operand.const t11], argTypes := #[45, 44] }) 0 (fun _ w =>
  K (Value.tuple #[]) w) w) w) ()) w) w) w
theorem grid_Fill_1_link (p0 p1 p2 p3 p4 : Value) {R : Value → World → Prop} {w : World} (h : ∀ K : Value → World → Prop, (∀ v w', R v w' → K v w') → grid_Fill_1 p0 p1 p2 p3 p4 K w) : Calls Try.prog 85 #[p0, p1, p2, p3, p4] w (retK R) :=
  calls_of_def [p0, p1, p2, p3, p4] [] mixed Try.func85 (by kernel_rfl) (by kernel_rfl) (by kernel_rfl) (X := grid_Fill_1 p0 p1 p2 p3 p4 R w) (by kernel_rfl) (h R fun _ _ h => h)
theorem grid_Fill_1_b : Bodied Try.prog 85 := ⟨_, Try.func85, by kernel_rfl, by kernel_rfl⟩

/- lyceum/grid.fill -/
def grid_fill (p0 p1 : Value) (K : Value → World → Prop) (w : World) : Prop :=
  OpX Try.prog (Op.box 44 (Operand.const p1)) 0 (fun t3 w =>
  OpX Try.prog (Op.call { callee := Callee.builtin Builtin.len, args := #[Operand.const p0], argTypes := #[45] }) 3 (fun t6 w =>
  Loop1 (Value.int IntKind.i64 0) (fun t7 next1 w =>
  BinX Try.prog BinOp.lss 3 t7 t6 (fun t8 w =>
  BrW t8
  (OpX Try.prog (Op.load 44 (Operand.const t3)) 44 (fun t12 w =>
  OpX Try.prog (Op.indexAddr 45 (Operand.const p0) (Operand.const t7)) 0 (fun t13 w =>
  OpX Try.prog (Op.store 44 (Operand.const t13) (Operand.const t12)) 0 (fun _ w =>
  BinX Try.prog BinOp.add 3 t7 (Value.int IntKind.i64 1) (fun t14 w =>
  next1 t14 w) w) w) w) w)
  (K (Value.tuple #[]) w) ()) w) w) w) w
theorem grid_fill_link (p0 p1 : Value) {R : Value → World → Prop} {w : World} (h : ∀ K : Value → World → Prop, (∀ v w', R v w' → K v w') → grid_fill p0 p1 K w) : Calls Try.prog 86 #[p0, p1] w (retK R) :=
  calls_of_def [p0, p1] [(5, [7])] mixed Try.func86 (by kernel_rfl) (by kernel_rfl) (by kernel_rfl) (X := grid_fill p0 p1 R w) (by kernel_rfl) (h R fun _ _ h => h)
theorem grid_fill_b : Bodied Try.prog 86 := ⟨_, Try.func86, by kernel_rfl, by kernel_rfl⟩

/- lyceum/grid.Scroll$1 -/
def grid_Scroll_1 (p0 p1 p2 p3 p4 p5 p6 : Value) (K : Value → World → Prop) (w : World) : Prop :=
  Join1 (fun k1 w =>
  OpX Try.prog (Op.load 3 (Operand.const p2)) 3 (fun t10 w =>
  BinX Try.prog BinOp.add 3 p0 t10 (fun t11 w =>
  OpX Try.prog (Op.load 3 (Operand.const p3)) 3 (fun t12 w =>
  BinX Try.prog BinOp.lss 3 t11 t12 (fun t13 w =>
  BrW t13
  (k1 (Value.bool true) w)
  (OpX Try.prog (Op.load 3 (Operand.const p2)) 3 (fun t16 w =>
  BinX Try.prog BinOp.add 3 p0 t16 (fun t17 w =>
  OpX Try.prog (Op.load 3 (Operand.const p4)) 3 (fun t18 w =>
  BinX Try.prog BinOp.geq 3 t17 t18 (fun t19 w =>
  k1 t19 w) w) w) w) w) ()) w) w) w) w) (fun t20 w =>
  BrW t20
  (OpX Try.prog (Op.load 44 (Operand.const p5)) 44 (fun t22 w =>
  OpX Try.prog (Op.call { callee := Callee.value (Operand.func 86), args := #[Operand.const p1, Operand.const t22], argTypes := #[45, 44] }) 0 (fun _ w =>
  K (Value.tuple #[]) w) w) w)
  (OpX Try.prog (Op.load 54 (Operand.const p6)) 54 (fun t25 w =>
  OpX Try.prog (Op.load 3 (Operand.const p2)) 3 (fun t27 w =>
  BinX Try.prog BinOp.add 3 p0 t27 (fun t28 w =>
  OpX Try.prog (Op.call { callee := Callee.value (Operand.func 88), args := #[Operand.const t25, Operand.const t28], argTypes := #[54, 3] }) 45 (fun t29 w =>
  OpX Try.prog (Op.call { callee := Callee.builtin Builtin.copy, args := #[Operand.const p1, Operand.const t29], argTypes := #[45, 45] }) 3 (fun _ w =>
  K (Value.tuple #[]) w) w) w) w) w) w) ()) w
theorem grid_Scroll_1_link (p0 p1 p2 p3 p4 p5 p6 : Value) {R : Value → World → Prop} {w : World} (h : ∀ K : Value → World → Prop, (∀ v w', R v w' → K v w') → grid_Scroll_1 p0 p1 p2 p3 p4 p5 p6 K w) : Calls Try.prog 87 #[p0, p1, p2, p3, p4, p5, p6] w (retK R) :=
  calls_of_def [p0, p1, p2, p3, p4, p5, p6] [(2, [20])] mixed Try.func87 (by kernel_rfl) (by kernel_rfl) (by kernel_rfl) (X := grid_Scroll_1 p0 p1 p2 p3 p4 p5 p6 R w) (by kernel_rfl) (h R fun _ _ h => h)
theorem grid_Scroll_1_b : Bodied Try.prog 87 := ⟨_, Try.func87, by kernel_rfl, by kernel_rfl⟩

/- lyceum/grid.cut -/
def grid_cut (p0 p1 : Value) (K : Value → World → Prop) (w : World) : Prop :=
  OpX Try.prog (Op.box 54 (Operand.const p0)) 0 (fun t2 w =>
  OpX Try.prog (Op.fieldAddr 54 (Operand.const t2) 2) 0 (fun t5 w =>
  OpX Try.prog (Op.load 45 (Operand.const t5)) 45 (fun t6 w =>
  OpX Try.prog (Op.fieldAddr 54 (Operand.const t2) 0) 0 (fun t8 w =>
  OpX Try.prog (Op.load 3 (Operand.const t8)) 3 (fun t9 w =>
  BinX Try.prog BinOp.mul 3 p1 t9 (fun t10 w =>
  BinX Try.prog BinOp.add 3 p1 (Value.int IntKind.i64 1) (fun t12 w =>
  OpX Try.prog (Op.fieldAddr 54 (Operand.const t2) 0) 0 (fun t13 w =>
  OpX Try.prog (Op.load 3 (Operand.const t13)) 3 (fun t14 w =>
  BinX Try.prog BinOp.mul 3 t12 t14 (fun t15 w =>
  BinX Try.prog BinOp.add 3 p1 (Value.int IntKind.i64 1) (fun t17 w =>
  OpX Try.prog (Op.fieldAddr 54 (Operand.const t2) 0) 0 (fun t18 w =>
  OpX Try.prog (Op.load 3 (Operand.const t18)) 3 (fun t19 w =>
  BinX Try.prog BinOp.mul 3 t17 t19 (fun t20 w =>
  OpX Try.prog (Op.slice 45 (Operand.const t6) (some (Operand.const t10)) (some (Operand.const t15)) (some (Operand.const t20))) 45 (fun t21 w =>
  K t21 w) w) w) w) w) w) w) w) w) w) w) w) w) w) w) w
theorem grid_cut_link (p0 p1 : Value) {R : Value → World → Prop} {w : World} (h : ∀ K : Value → World → Prop, (∀ v w', R v w' → K v w') → grid_cut p0 p1 K w) : Calls Try.prog 88 #[p0, p1] w (retK R) :=
  calls_of_def [p0, p1] [] mixed Try.func88 (by kernel_rfl) (by kernel_rfl) (by kernel_rfl) (X := grid_cut p0 p1 R w) (by kernel_rfl) (h R fun _ _ h => h)
theorem grid_cut_b : Bodied Try.prog 88 := ⟨_, Try.func88, by kernel_rfl, by kernel_rfl⟩

/- lyceum/grid.Blit$1 -/
def grid_Blit_1 (p0 p1 p2 p3 p4 p5 p6 : Value) (K : Value → World → Prop) (w : World) : Prop :=
  OpX Try.prog (Op.load 3 (Operand.const p2)) 3 (fun t10 w =>
  Loop1 t10 (fun t9 next1 w =>
  OpX Try.prog (Op.load 3 (Operand.const p3)) 3 (fun t12 w =>
  BinX Try.prog BinOp.lss 3 t9 t12 (fun t13 w =>
  BrW t13
  (OpX Try.prog (Op.load 54 (Operand.const p4)) 54 (fun t18 w =>
  OpX Try.prog (Op.load 3 (Operand.const p5)) 3 (fun t20 w =>
  BinX Try.prog BinOp.sub 3 t9 t20 (fun t21 w =>
  OpX Try.prog (Op.load 3 (Operand.const p6)) 3 (fun t23 w =>
  BinX Try.prog BinOp.sub 3 p0 t23 (fun t24 w =>
  OpX Try.prog (Op.call { callee := Callee.value (Operand.func 42), args := #[Operand.const t18, Operand.const t21, Operand.const t24], argTypes := #[54, 3, 3] }) 44 (fun t25 w =>
  OpX Try.prog (Op.indexAddr 45 (Operand.const p1) (Operand.const t9)) 0 (fun t26 w =>
  OpX Try.prog (Op.store 44 (Operand.const t26) (Operand.const t25)) 0 (fun _ w =>
  BinX Try.prog BinOp.add 3 t9 (Value.int IntKind.i64 1) (fun t15 w =>
  next1 t15 w) w) w) w) w) w) w) w) w) w)
  (K (Value.tuple #[]) w) ()) w) w) w) w
theorem grid_Blit_1_link (p0 p1 p2 p3 p4 p5 p6 : Value) {R : Value → World → Prop} {w : World} (h : ∀ K : Value → World → Prop, (∀ v w', R v w' → K v w') → grid_Blit_1 p0 p1 p2 p3 p4 p5 p6 K w) : Calls Try.prog 89 #[p0, p1, p2, p3, p4, p5, p6] w (retK R) :=
  calls_of_def [p0, p1, p2, p3, p4, p5, p6] [(3, [9])] mixed Try.func89 (by kernel_rfl) (by kernel_rfl) (by kernel_rfl) (X := grid_Blit_1 p0 p1 p2 p3 p4 p5 p6 R w) (by kernel_rfl) (h R fun _ _ h => h)
theorem grid_Blit_1_b : Bodied Try.prog 89 := ⟨_, Try.func89, by kernel_rfl, by kernel_rfl⟩

/- lyceum/grid.fits -/
def grid_fits (p0 p1 : Value) (K : Value → World → Prop) (w : World) : Prop :=
  Join1 (fun k1 w =>
  BinX Try.prog BinOp.geq 3 p0 (Value.int IntKind.i64 1) (fun t6 w =>
  BrW t6
  (BinX Try.prog BinOp.leq 3 p0 (Value.int IntKind.i64 200) (fun t9 w =>
  BrW t9
  (BinX Try.prog BinOp.geq 3 p1 (Value.int IntKind.i64 1) (fun t13 w =>
  BrW t13
  (BinX Try.prog BinOp.leq 3 p1 (Value.int IntKind.i64 60) (fun t17 w =>
  k1 t17 w) w)
  (k1 (Value.bool false) w) ()) w)
  (k1 (Value.bool false) w) ()) w)
  (k1 (Value.bool false) w) ()) w) (fun t4 w =>
  K t4 w) w
theorem grid_fits_link (p0 p1 : Value) {R : Value → World → Prop} {w : World} (h : ∀ K : Value → World → Prop, (∀ v w', R v w' → K v w') → grid_fits p0 p1 K w) : Calls Try.prog 90 #[p0, p1] w (retK R) :=
  calls_of_def [p0, p1] [(3, [4])] mixed Try.func90 (by kernel_rfl) (by kernel_rfl) (by kernel_rfl) (X := grid_fits p0 p1 R w) (by kernel_rfl) (h R fun _ _ h => h)
theorem grid_fits_b : Bodied Try.prog 90 := ⟨_, Try.func90, by kernel_rfl, by kernel_rfl⟩

/- lyceum/grid.filled -/
def grid_filled (p0 p1 p2 : Value) (K : Value → World → Prop) (w : World) : Prop :=
  OpX Try.prog (Op.box 44 (Operand.const p2)) 0 (fun t5 w =>
  OpX Try.prog (Op.alloc 54) 0 (fun t6 w =>
  OpX Try.prog (Op.load 44 (Operand.const t5)) 44 (fun t9 w =>
  OpX Try.prog (Op.buildSlice 45 1 #[(0, Operand.const t9)]) 45 (fun t10 w =>
  BinX Try.prog BinOp.mul 3 p0 p1 (fun t13 w =>
  OpX Try.prog (Op.call { callee := Callee.value (Operand.func 109), args := #[Operand.const t10, Operand.const t13], argTypes := #[45, 3] }) 45 (fun t14 w =>
  OpX Try.prog (Op.build 54 #[(0, Operand.const p0), (1, Operand.const p1), (2, Operand.const t14)]) 54 (fun t15 w =>
  OpX Try.prog (Op.store 54 (Operand.const t6) (Operand.const t15)) 0 (fun _ w =>
  LdR Try.prog 54 t6 (fun t6_1 w =>
  K t6_1 w) w) w) w) w) w) w) w) w) w
theorem grid_filled_link (p0 p1 p2 : Value) {R : Value → World → Prop} {w : World} (h : ∀ K : Value → World → Prop, (∀ v w', R v w' → K v w') → grid_filled p0 p1 p2 K w) : Calls Try.prog 91 #[p0, p1, p2] w (retK R) :=
  calls_of_def [p0, p1, p2] [] mixed Try.func91 (by kernel_rfl) (by kernel_rfl) (by kernel_rfl) (X := grid_filled p0 p1 p2 R w) (by kernel_rfl) (h R fun _ _ h => h)
theorem grid_filled_b : Bodied Try.prog 91 := ⟨_, Try.func91, by kernel_rfl, by kernel_rfl⟩

/- lyceum/grid.Resize$1 -/
def grid_Resize_1 (p0 p1 p2 : Value) (K : Value → World → Prop) (w : World) : Prop :=
  OpX Try.prog (Op.load 54 (Operand.const p2)) 54 (fun t6 w =>
  OpX Try.prog (Op.call { callee := Callee.value (Operand.func 88), args := #[Operand.const t6, Operand.const p0], argTypes := #[54, 3] }) 45 (fun t8 w =>
  OpX Try.prog (Op.call { callee := Callee.builtin Builtin.copy, args := #[Operand.const p1, Operand.const t8], argTypes := #[45, 45] }) 3 (fun _ w =>
  K (Value.tuple #[]) w) w) w) w
theorem grid_Resize_1_link (p0 p1 p2 : Value) {R : Value → World → Prop} {w : World} (h : ∀ K : Value → World → Prop, (∀ v w', R v w' → K v w') → grid_Resize_1 p0 p1 p2 K w) : Calls Try.prog 92 #[p0, p1, p2] w (retK R) :=
  calls_of_def [p0, p1, p2] [] mixed Try.func92 (by kernel_rfl) (by kernel_rfl) (by kernel_rfl) (X := grid_Resize_1 p0 p1 p2 R w) (by kernel_rfl) (h R fun _ _ h => h)
theorem grid_Resize_1_b : Bodied Try.prog 92 := ⟨_, Try.func92, by kernel_rfl, by kernel_rfl⟩

/- lyceum/grid.rows -/
def grid_rows (p0 p1 p2 : Value) (K : Value → World → Prop) (w : World) : Prop :=
  OpX Try.prog (Op.box 54 (Operand.const p0)) 0 (fun t3 w =>
  OpX Try.prog (Op.box 3 (Operand.const p1)) 0 (fun t4 w =>
  OpX Try.prog (Op.box 3 (Operand.const p2)) 0 (fun t5 w =>
  OpX Try.prog (Op.makeFunc (Fn.func 110) #[] #[Operand.const t4, Operand.const t5, Operand.const t3]) 121 (fun t7 w =>
  K t7 w) w) w) w) w
theorem grid_rows_link (p0 p1 p2 : Value) {R : Value → World → Prop} {w : World} (h : ∀ K : Value → World → Prop, (∀ v w', R v w' → K v w') → grid_rows p0 p1 p2 K w) : Calls Try.prog 94 #[p0, p1, p2] w (retK R) :=
  calls_of_def [p0, p1, p2] [] mixed Try.func94 (by kernel_rfl) (by kernel_rfl) (by kernel_rfl) (X := grid_rows p0 p1 p2 R w) (by kernel_rfl) (h R fun _ _ h => h)
theorem grid_rows_b : Bodied Try.prog 94 := ⟨_, Try.func94, by kernel_rfl, by kernel_rfl⟩

/- lyceum/grid.Shift$1 -/
def grid_Shift_1 (p0 p1 p2 p3 p4 p5 : Value) (K : Value → World → Prop) (w : World) : Prop :=
  OpX Try.prog (Op.load 54 (Operand.const p2)) 54 (fun t10 w =>
  OpX Try.prog (Op.call { callee := Callee.value (Operand.func 88), args := #[Operand.const t10, Operand.const p0], argTypes := #[54, 3] }) 45 (fun t12 w =>
  OpX Try.prog (Op.load 3 (Operand.const p3)) 3 (fun t13 w =>
  Loop1 t13 (fun t9 next1 w =>
  OpX Try.prog (Op.fieldAddr 54 (Operand.const p2) 0) 0 (fun t15 w =>
  OpX Try.prog (Op.load 3 (Operand.const t15)) 3 (fun t16 w =>
  BinX Try.prog BinOp.lss 3 t9 t16 (fun t17 w =>
  BrW t17
  (OpX Try.prog (Op.load 44 (Operand.const p4)) 44 (fun t22 w =>
  OpX Try.prog (Op.indexAddr 45 (Operand.const p1) (Operand.const t9)) 0 (fun t23 w =>
  OpX Try.prog (Op.store 44 (Operand.const t23) (Operand.const t22)) 0 (fun _ w =>
  Join1 (fun k2 w =>
  OpX Try.prog (Op.load 3 (Operand.const p5)) 3 (fun t25 w =>
  BinX Try.prog BinOp.sub 3 t9 t25 (fun t26 w =>
  OpX Try.prog (Op.load 3 (Operand.const p3)) 3 (fun t27 w =>
  BinX Try.prog BinOp.geq 3 t26 t27 (fun t28 w =>
  BrW t28
  (OpX Try.prog (Op.load 3 (Operand.const p5)) 3 (fun t31 w =>
  BinX Try.prog BinOp.sub 3 t9 t31 (fun t32 w =>
  OpX Try.prog (Op.fieldAddr 54 (Operand.const p2) 0) 0 (fun t33 w =>
  OpX Try.prog (Op.load 3 (Operand.const t33)) 3 (fun t34 w =>
  BinX Try.prog BinOp.lss 3 t32 t34 (fun t35 w =>
  k2 t35 w) w) w) w) w) w)
  (k2 (Value.bool false) w) ()) w) w) w) w) (fun t36 w =>
  BrW t36
  (OpX Try.prog (Op.load 3 (Operand.const p5)) 3 (fun t41 w =>
  BinX Try.prog BinOp.sub 3 t9 t41 (fun t42 w =>
  OpX Try.prog (Op.indexAddr 45 (Operand.const t12) (Operand.const t42)) 0 (fun t43 w =>
  OpX Try.prog (Op.load 44 (Operand.const t43)) 44 (fun t44 w =>
  OpX Try.prog (Op.indexAddr 45 (Operand.const p1) (Operand.const t9)) 0 (fun t45 w =>
  OpX Try.prog (Op.store 44 (Operand.const t45) (Operand.const t44)) 0 (fun _ w =>
  BinX Try.prog BinOp.add 3 t9 (Value.int IntKind.i64 1) (fun t19 w =>
  next1 t19 w) w) w) w) w) w) w) w)
  (BinX Try.prog BinOp.add 3 t9 (Value.int IntKind.i64 1) (fun t19_1 w =>
  next1 t19_1 w) w) ()) w) w) w) w)
  (K (Value.tuple #[]) w) ()) w) w) w) w) w) w) w
theorem grid_Shift_1_link (p0 p1 p2 p3 p4 p5 : Value) {R : Value → World → Prop} {w : World} (h : ∀ K : Value → World → Prop, (∀ v w', R v w' → K v w') → grid_Shift_1 p0 p1 p2 p3 p4 p5 K w) : Calls Try.prog 106 #[p0, p1, p2, p3, p4, p5] w (retK R) :=
  calls_of_def [p0, p1, p2, p3, p4, p5] [(5, [9]), (17, [36])] mixed Try.func106 (by kernel_rfl) (by kernel_rfl) (by kernel_rfl) (X := grid_Shift_1 p0 p1 p2 p3 p4 p5 R w) (by kernel_rfl) (h R fun _ _ h => h)
theorem grid_Shift_1_b : Bodied Try.prog 106 := ⟨_, Try.func106, by kernel_rfl, by kernel_rfl⟩

/- lyceum/grid.rows$1 -/
def grid_rows_1 (p0 p1 p2 p3 : Value) (K : Value → World → Prop) (w : World) : Prop :=
  OpX Try.prog (Op.load 3 (Operand.const p1)) 3 (fun t6 w =>
  OpX Try.prog (Op.call { callee := Callee.builtin Builtin.max, args := #[Operand.const t6, Operand.const (Value.int IntKind.i64 0)], argTypes := #[3, 3] }) 3 (fun t7 w =>
  Loop1 t7 (fun t5 next1 w =>
  OpX Try.prog (Op.load 3 (Operand.const p2)) 3 (fun t9 w =>
  OpX Try.prog (Op.fieldAddr 54 (Operand.const p3) 1) 0 (fun t10 w =>
  OpX Try.prog (Op.load 3 (Operand.const t10)) 3 (fun t11 w =>
  OpX Try.prog (Op.call { callee := Callee.builtin Builtin.min, args := #[Operand.const t9, Operand.const t11], argTypes := #[3, 3] }) 3 (fun t12 w =>
  BinX Try.prog BinOp.lss 3 t5 t12 (fun t13 w =>
  BrW t13
  (OpX Try.prog (Op.load 54 (Operand.const p3)) 54 (fun t18 w =>
  OpX Try.prog (Op.call { callee := Callee.value (Operand.func 88), args := #[Operand.const t18, Operand.const t5], argTypes := #[54, 3] }) 45 (fun t20 w =>
  OpX Try.prog (Op.call { callee := Callee.value (Operand.const p0), args := #[Operand.const t5, Operand.const t20], argTypes := #[3, 45] }) 4 (fun t21 w =>
  OpX Try.prog (Op.unOp UnOp.not 4 (Operand.const t21)) 4 (fun t22 w =>
  BrW t22
  (K (Value.tuple #[]) w)
  (BinX Try.prog BinOp.add 3 t5 (Value.int IntKind.i64 1) (fun t15 w =>
  next1 t15 w) w) ()) w) w) w) w)
  (K (Value.tuple #[]) w) ()) w) w) w) w) w) w) w) w
theorem grid_rows_1_link (p0 p1 p2 p3 : Value) {R : Value → World → Prop} {w : World} (h : ∀ K : Value → World → Prop, (∀ v w', R v w' → K v w') → grid_rows_1 p0 p1 p2 p3 K w) : Calls Try.prog 110 #[p0, p1, p2, p3] w (retK R) :=
  calls_of_def [p0, p1, p2, p3] [(3, [5])] mixed Try.func110 (by kernel_rfl) (by kernel_rfl) (by kernel_rfl) (X := grid_rows_1 p0 p1 p2 p3 R w) (by kernel_rfl) (h R fun _ _ h => h)
theorem grid_rows_1_b : Bodied Try.prog 110 := ⟨_, Try.func110, by kernel_rfl, by kernel_rfl⟩

end Go.Proofs.Ytdjdeahmhenchaa
