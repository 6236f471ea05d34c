/- Written by a program (gen.py): functions of the translation as transformers, with the link to Calls. -/
import Derived.Test.YtdjdeahmhenchaaLycDef
import Derived.Test.YtdjdeahmhenchaaW0
set_option linter.unusedSimpArgs false
set_option linter.unusedVariables false
namespace Go.Proofs.Ytdjdeahmhenchaa
open Lyc Go
set_option maxRecDepth 100000

/- lyceum/lyceumlaw18.QueueOrder -/
def lyceumlaw18_QueueOrder (p0 p1 : Value) (K : Value → World → Prop) (w : World) : Prop :=
  OpX Try.prog (Op.call { callee := Callee.value (Operand.func 15), args := #[], argTypes := #[] }) 4 (fun t13 w =>
  OpX Try.prog (Op.call { callee := Callee.value (Operand.func 16), args := #[Operand.const p0], argTypes := #[3] }) 24 (fun t15 w =>
  BinX Try.prog BinOp.eql 24 t15 (Value.pointer none) (fun t17 w =>
  BrW t17
  (K (Value.bool false) w)
  (Loop3 (Value.int IntKind.i64 0) (Value.int IntKind.i64 (-1)) (Value.int IntKind.i64 0) (fun t7 t8 t9 next1 w =>
  Join1 (fun k2 w =>
  OpX Try.prog (Op.call { callee := Callee.builtin Builtin.len, args := #[Operand.const p1], argTypes := #[22] }) 3 (fun t20 w =>
  BinX Try.prog BinOp.lss 3 t9 t20 (fun t21 w =>
  BrW t21
  (BinX Try.prog BinOp.lss 3 t9 (Value.int IntKind.i64 60) (fun t24 w =>
  k2 t24 w) w)
  (k2 (Value.bool false) w) ()) w) w) (fun t25 w =>
  BrW t25
  (OpX Try.prog (Op.indexAddr 22 (Operand.const p1) (Operand.const t9)) 0 (fun t30 w =>
  OpX Try.prog (Op.load 27 (Operand.const t30)) 27 (fun t31 w =>
  OpX Try.prog (Op.alloc 27) 0 (fun t10 w =>
  OpX Try.prog (Op.store 27 (Operand.const t10) (Operand.const t31)) 0 (fun _ w =>
  OpX Try.prog (Op.fieldAddr 27 (Operand.const t10) 0) 0 (fun t32 w =>
  OpX Try.prog (Op.load 3 (Operand.const t32)) 3 (fun t33 w =>
  BinX Try.prog BinOp.and 3 t33 (Value.int IntKind.i64 7) (fun t34 w =>
  Join1 (fun k3 w =>
  BinX Try.prog BinOp.eql 3 t34 (Value.int IntKind.i64 4) (fun t44 w =>
  BrW t44
  (k3 (Value.bool true) w)
  (BinX Try.prog BinOp.eql 3 t34 (Value.int IntKind.i64 5) (fun t45 w =>
  BrW t45
  (k3 (Value.bool true) w)
  (BinX Try.prog BinOp.eql 3 t34 (Value.int IntKind.i64 6) (fun t46 w =>
  k3 t46 w) w) ()) w) ()) w) (fun t43 w =>
  BrW t43
  (OpX Try.prog (Op.call { callee := Callee.value (Operand.func 17), args := #[Operand.const t15], argTypes := #[24] }) 30 (fun t49 w =>
  OpX Try.prog (Op.extract (Operand.const t49) 0) 29 (fun t50 w =>
  OpX Try.prog (Op.extract (Operand.const t49) 1) 4 (fun t51 w =>
  OpX Try.prog (Op.alloc 29) 0 (fun t11 w =>
  OpX Try.prog (Op.store 29 (Operand.const t11) (Operand.const t50)) 0 (fun _ w =>
  Join1 (fun k4 w =>
  BrW t51
  (OpX Try.prog (Op.fieldAddr 29 (Operand.const t11) 1) 0 (fun t54 w =>
  OpX Try.prog (Op.load 3 (Operand.const t54)) 3 (fun t55 w =>
  BinX Try.prog BinOp.leq 3 t55 t8 (fun t57 w =>
  BrW t57
  (k4 (Value.bool true) w)
  (OpX Try.prog (Op.fieldAddr 29 (Operand.const t11) 1) 0 (fun t59 w =>
  OpX Try.prog (Op.load 3 (Operand.const t59)) 3 (fun t60 w =>
  BinX Try.prog BinOp.geq 3 t60 t7 (fun t62 w =>
  BrW t62
  (k4 (Value.bool true) w)
  (OpX Try.prog (Op.fieldAddr 29 (Operand.const t11) 2) 0 (fun t65 w =>
  OpX Try.prog (Op.load 4 (Operand.const t65)) 4 (fun t66 w =>
  OpX Try.prog (Op.unOp UnOp.not 4 (Operand.const t66)) 4 (fun t67 w =>
  BrW t67
  (OpX Try.prog (Op.fieldAddr 29 (Operand.const t11) 1) 0 (fun t69 w =>
  OpX Try.prog (Op.load 3 (Operand.const t69)) 3 (fun t70 w =>
  BinX Try.prog BinOp.add 3 t8 (Value.int IntKind.i64 1) (fun t72 w =>
  BinX Try.prog BinOp.neq 3 t70 t72 (fun t73 w =>
  k4 t73 w) w) w) w) w)
  (k4 (Value.bool false) w) ()) w) w) w) ()) w) w) w) ()) w) w) w)
  (k4 (Value.bool false) w) ()) (fun t76 w =>
  BrW t76
  (K (Value.bool false) w)
  (BrW t51
  (OpX Try.prog (Op.fieldAddr 29 (Operand.const t11) 1) 0 (fun t78 w =>
  OpX Try.prog (Op.load 3 (Operand.const t78)) 3 (fun t79 w =>
  BinX Try.prog BinOp.add 3 t9 (Value.int IntKind.i64 1) (fun t27 w =>
  next1 t7 t79 t27 w) w) w) w)
  (BinX Try.prog BinOp.add 3 t9 (Value.int IntKind.i64 1) (fun t27_1 w =>
  next1 t7 t8 t27_1 w) w) ()) ()) w) w) w) w) w) w)
  (BinX Try.prog BinOp.eql 3 t34 (Value.int IntKind.i64 7) (fun t81 w =>
  BrW t81
  (OpX Try.prog (Op.call { callee := Callee.value (Operand.func 18), args := #[Operand.const t15], argTypes := #[24] }) 0 (fun _ w =>
  BinX Try.prog BinOp.add 3 t9 (Value.int IntKind.i64 1) (fun t27_2 w =>
  next1 t7 t8 t27_2 w) w) w)
  (OpX Try.prog (Op.fieldAddr 27 (Operand.const t10) 3) 0 (fun t37 w =>
  OpX Try.prog (Op.load 4 (Operand.const t37)) 4 (fun t38 w =>
  OpX Try.prog (Op.build 29 #[(1, Operand.const t7), (2, Operand.const t38)]) 29 (fun t39 w =>
  OpX Try.prog (Op.call { callee := Callee.value (Operand.func 19), args := #[Operand.const t15, Operand.const t39], argTypes := #[24, 29] }) 4 (fun _ w =>
  BinX Try.prog BinOp.add 3 t7 (Value.int IntKind.i64 1) (fun t42 w =>
  BinX Try.prog BinOp.add 3 t9 (Value.int IntKind.i64 1) (fun t27_3 w =>
  next1 t42 t8 t27_3 w) w) w) w) w) w) w) ()) w) ()) w) w) w) w) w) w) w) w)
  (K t13 w) ()) w) w) ()) w) w) w
theorem lyceumlaw18_QueueOrder_link (p0 p1 : Value) {R : Value → World → Prop} {w : World} (h : ∀ K : Value → World → Prop, (∀ v w', R v w' → K v w') → lyceumlaw18_QueueOrder p0 p1 K w) : Calls Try.prog 3 #[p0, p1] w (retK R) :=
  calls_of_def [p0, p1] [(22, [7, 8, 9]), (25, [25]), (36, [43]), (51, [76])] mixed Try.func3 (by kernel_rfl) (by kernel_rfl) (by kernel_rfl) (X := lyceumlaw18_QueueOrder p0 p1 R w) (by kernel_rfl) (h R fun _ _ h => h)
theorem lyceumlaw18_QueueOrder_b : Bodied Try.prog 3 := ⟨_, Try.func3, by kernel_rfl, by kernel_rfl⟩

/- lyceum/lyceumlaw18.QueueWhole -/
def lyceumlaw18_QueueWhole (p0 p1 : Value) (K : Value → World → Prop) (w : World) : Prop :=
  OpX Try.prog (Op.call { callee := Callee.value (Operand.func 15), args := #[], argTypes := #[] }) 4 (fun t16 w =>
  OpX Try.prog (Op.call { callee := Callee.value (Operand.func 16), args := #[Operand.const p0], argTypes := #[3] }) 24 (fun t18 w =>
  BinX Try.prog BinOp.eql 24 t18 (Value.pointer none) (fun t20 w =>
  BrW t20
  (K (Value.bool false) w)
  (Loop1 (Value.int IntKind.i64 0) (fun t7 next1 w =>
  Join1 (fun k2 w =>
  OpX Try.prog (Op.call { callee := Callee.builtin Builtin.len, args := #[Operand.const p1], argTypes := #[22] }) 3 (fun t23 w =>
  BinX Try.prog BinOp.lss 3 t7 t23 (fun t24 w =>
  BrW t24
  (BinX Try.prog BinOp.lss 3 t7 (Value.int IntKind.i64 40) (fun t27 w =>
  k2 t27 w) w)
  (k2 (Value.bool false) w) ()) w) w) (fun t28 w =>
  BrW t28
  (OpX Try.prog (Op.indexAddr 22 (Operand.const p1) (Operand.const t7)) 0 (fun t33 w =>
  OpX Try.prog (Op.load 27 (Operand.const t33)) 27 (fun t34 w =>
  OpX Try.prog (Op.alloc 27) 0 (fun t8 w =>
  OpX Try.prog (Op.store 27 (Operand.const t8) (Operand.const t34)) 0 (fun _ w =>
  OpX Try.prog (Op.fieldAddr 27 (Operand.const t8) 0) 0 (fun t35 w =>
  OpX Try.prog (Op.load 3 (Operand.const t35)) 3 (fun t36 w =>
  BinX Try.prog BinOp.and 3 t36 (Value.int IntKind.i64 7) (fun t37 w =>
  BinX Try.prog BinOp.gtr 3 t37 (Value.int IntKind.i64 4) (fun t38 w =>
  BrW t38
  (OpX Try.prog (Op.call { callee := Callee.value (Operand.func 17), args := #[Operand.const t18], argTypes := #[24] }) 30 (fun _ w =>
  BinX Try.prog BinOp.add 3 t7 (Value.int IntKind.i64 1) (fun t30 w =>
  next1 t30 w) w) w)
  (OpX Try.prog (Op.load 27 (Operand.const t8)) 27 (fun t42 w =>
  OpX Try.prog (Op.call { callee := Callee.value (Operand.func 20), args := #[Operand.const t42], argTypes := #[27] }) 29 (fun t43 w =>
  OpX Try.prog (Op.call { callee := Callee.value (Operand.func 19), args := #[Operand.const t18, Operand.const t43], argTypes := #[24, 29] }) 4 (fun _ w =>
  BinX Try.prog BinOp.add 3 t7 (Value.int IntKind.i64 1) (fun t30_1 w =>
  next1 t30_1 w) w) w) w) w) ()) w) w) w) w) w) w) w) w)
  (OpX Try.prog (Op.build 29 #[(0, Operand.const (Value.int IntKind.i64 3)), (1, Operand.const (Value.int IntKind.i64 7)), (2, Operand.const (Value.bool true)), (3, Operand.const (Value.string { data := #[119] }))]) 29 (fun t46 w =>
  OpX Try.prog (Op.call { callee := Callee.value (Operand.func 19), args := #[Operand.const t18, Operand.const t46], argTypes := #[24, 29] }) 4 (fun t47 w =>
  OpX Try.prog (Op.call { callee := Callee.value (Operand.func 21), args := #[Operand.const t18], argTypes := #[24] }) 3 (fun t49 w =>
  OpX Try.prog (Op.call { callee := Callee.value (Operand.func 22), args := #[Operand.const t18], argTypes := #[24] }) 4 (fun t51 w =>
  OpX Try.prog (Op.call { callee := Callee.value (Operand.func 17), args := #[Operand.const t18], argTypes := #[24] }) 30 (fun t54 w =>
  OpX Try.prog (Op.extract (Operand.const t54) 0) 29 (fun t55 w =>
  OpX Try.prog (Op.extract (Operand.const t54) 1) 4 (fun t56 w =>
  OpX Try.prog (Op.alloc 29) 0 (fun t12 w =>
  OpX Try.prog (Op.store 29 (Operand.const t12) (Operand.const t55)) 0 (fun _ w =>
  OpX Try.prog (Op.build 29 #[(0, Operand.const (Value.int IntKind.i64 3)), (1, Operand.const (Value.int IntKind.i64 8))]) 29 (fun t58 w =>
  OpX Try.prog (Op.call { callee := Callee.value (Operand.func 19), args := #[Operand.const t18, Operand.const t58], argTypes := #[24, 29] }) 4 (fun _ w =>
  OpX Try.prog (Op.call { callee := Callee.value (Operand.func 21), args := #[Operand.const t18], argTypes := #[24] }) 3 (fun t61 w =>
  OpX Try.prog (Op.call { callee := Callee.value (Operand.func 18), args := #[Operand.const t18], argTypes := #[24] }) 0 (fun _ w =>
  OpX Try.prog (Op.build 29 #[(0, Operand.const (Value.int IntKind.i64 3)), (1, Operand.const (Value.int IntKind.i64 9))]) 29 (fun t65 w =>
  OpX Try.prog (Op.call { callee := Callee.value (Operand.func 19), args := #[Operand.const t18, Operand.const t65], argTypes := #[24, 29] }) 4 (fun t66 w =>
  Join1 (fun k3 w =>
  BrW t16
  (BrW t47
  (BinX Try.prog BinOp.eql 3 t49 (Value.int IntKind.i64 1) (fun t73 w =>
  BrW t73
  (OpX Try.prog (Op.unOp UnOp.not 4 (Operand.const t51)) 4 (fun t77 w =>
  BrW t77
  (BrW t56
  (OpX Try.prog (Op.fieldAddr 29 (Operand.const t12) 1) 0 (fun t83 w =>
  OpX Try.prog (Op.load 3 (Operand.const t83)) 3 (fun t84 w =>
  BinX Try.prog BinOp.eql 3 t84 (Value.int IntKind.i64 7) (fun t85 w =>
  BrW t85
  (OpX Try.prog (Op.fieldAddr 29 (Operand.const t12) 2) 0 (fun t88 w =>
  OpX Try.prog (Op.load 4 (Operand.const t88)) 4 (fun t89 w =>
  BrW t89
  (OpX Try.prog (Op.fieldAddr 29 (Operand.const t12) 3) 0 (fun t92 w =>
  OpX Try.prog (Op.load 9 (Operand.const t92)) 9 (fun t93 w =>
  BinX Try.prog BinOp.eql 9 t93 (Value.string { data := #[119] }) (fun t94 w =>
  BrW t94
  (BinX Try.prog BinOp.eql 3 t61 (Value.int IntKind.i64 1) (fun t98 w =>
  BrW t98
  (OpX Try.prog (Op.unOp UnOp.not 4 (Operand.const t66)) 4 (fun t102 w =>
  BrW t102
  (OpX Try.prog (Op.call { callee := Callee.value (Operand.func 21), args := #[Operand.const t18], argTypes := #[24] }) 3 (fun t106 w =>
  BinX Try.prog BinOp.eql 3 t106 (Value.int IntKind.i64 0) (fun t107 w =>
  BrW t107
  (OpX Try.prog (Op.call { callee := Callee.value (Operand.func 22), args := #[Operand.const t18], argTypes := #[24] }) 4 (fun t111 w =>
  k3 t111 w) w)
  (k3 (Value.bool false) w) ()) w) w)
  (k3 (Value.bool false) w) ()) w)
  (k3 (Value.bool false) w) ()) w)
  (k3 (Value.bool false) w) ()) w) w) w)
  (k3 (Value.bool false) w) ()) w) w)
  (k3 (Value.bool false) w) ()) w) w) w)
  (k3 (Value.bool false) w) ())
  (k3 (Value.bool false) w) ()) w)
  (k3 (Value.bool false) w) ()) w)
  (k3 (Value.bool false) w) ())
  (k3 (Value.bool false) w) ()) (fun t4 w =>
  K t4 w) w) w) w) w) w) w) w) w) w) w) w) w) w) w) w) w) ()) w) w) ()) w) w) w
theorem lyceumlaw18_QueueWhole_link (p0 p1 : Value) {R : Value → World → Prop} {w : World} (h : ∀ K : Value → World → Prop, (∀ v w', R v w' → K v w') → lyceumlaw18_QueueWhole p0 p1 K w) : Calls Try.prog 4 #[p0, p1] w (retK R) :=
  calls_of_def [p0, p1] [(18, [7]), (21, [28]), (52, [4])] mixed Try.func4 (by kernel_rfl) (by kernel_rfl) (by kernel_rfl) (X := lyceumlaw18_QueueWhole p0 p1 R w) (by kernel_rfl) (h R fun _ _ h => h)
theorem lyceumlaw18_QueueWhole_b : Bodied Try.prog 4 := ⟨_, Try.func4, by kernel_rfl, by kernel_rfl⟩

/- lyceum/lyceumlaw18.QueueNil -/
def lyceumlaw18_QueueNil (p0 : Value) (K : Value → World → Prop) (w : World) : Prop :=
  OpX Try.prog (Op.box 29 (Operand.const p0)) 0 (fun t1 w =>
  Join0 (fun k1 w =>
  OpX Try.prog (Op.fieldAddr 29 (Operand.const t1) 3) 0 (fun t8 w =>
  OpX Try.prog (Op.load 9 (Operand.const t8)) 9 (fun t9 w =>
  OpX Try.prog (Op.call { callee := Callee.builtin Builtin.len, args := #[Operand.const t9], argTypes := #[9] }) 3 (fun t10 w =>
  BinX Try.prog BinOp.gtr 3 t10 (Value.int IntKind.i64 20) (fun t11 w =>
  BrW t11
  (OpX Try.prog (Op.fieldAddr 29 (Operand.const t1) 3) 0 (fun t12 w =>
  OpX Try.prog (Op.load 9 (Operand.const t12)) 9 (fun t13 w =>
  OpX Try.prog (Op.slice 9 (Operand.const t13) none (some (Operand.const (Value.int IntKind.i64 20))) none) 9 (fun t14 w =>
  OpX Try.prog (Op.fieldAddr 29 (Operand.const t1) 3) 0 (fun t15 w =>
  OpX Try.prog (Op.store 9 (Operand.const t15) (Operand.const t14)) 0 (fun _ w =>
  k1 w) w) w) w) w) w)
  (k1 w) ()) w) w) w) w) (fun w =>
  OpX Try.prog (Op.call { callee := Callee.value (Operand.func 18), args := #[Operand.const (Value.pointer none)], argTypes := #[24] }) 0 (fun _ w =>
  OpX Try.prog (Op.call { callee := Callee.value (Operand.func 17), args := #[Operand.const (Value.pointer none)], argTypes := #[24] }) 30 (fun t20 w =>
  OpX Try.prog (Op.extract (Operand.const t20) 0) 29 (fun t21 w =>
  OpX Try.prog (Op.extract (Operand.const t20) 1) 4 (fun t22 w =>
  OpX Try.prog (Op.alloc 29) 0 (fun t4 w =>
  OpX Try.prog (Op.store 29 (Operand.const t4) (Operand.const t21)) 0 (fun _ w =>
  OpX Try.prog (Op.call { callee := Callee.value (Operand.func 16), args := #[Operand.const (Value.int IntKind.i64 3)], argTypes := #[3] }) 24 (fun t23 w =>
  BinX Try.prog BinOp.eql 24 t23 (Value.pointer none) (fun t25 w =>
  BrW t25
  (K (Value.bool false) w)
  (Join1 (fun k2 w =>
  OpX Try.prog (Op.fieldAddr 29 (Operand.const t1) 0) 0 (fun t26 w =>
  OpX Try.prog (Op.load 3 (Operand.const t26)) 3 (fun t27 w =>
  BinX Try.prog BinOp.geq 3 t27 (Value.int IntKind.i64 0) (fun t28 w =>
  BrW t28
  (OpX Try.prog (Op.fieldAddr 29 (Operand.const t1) 0) 0 (fun t30 w =>
  OpX Try.prog (Op.load 3 (Operand.const t30)) 3 (fun t31 w =>
  BinX Try.prog BinOp.leq 3 t31 (Value.int IntKind.i64 1073741824) (fun t32 w =>
  BrW t32
  (OpX Try.prog (Op.fieldAddr 29 (Operand.const t1) 1) 0 (fun t35 w =>
  OpX Try.prog (Op.load 3 (Operand.const t35)) 3 (fun t36 w =>
  BinX Try.prog BinOp.geq 3 t36 (Value.int IntKind.i64 0) (fun t37 w =>
  BrW t37
  (OpX Try.prog (Op.fieldAddr 29 (Operand.const t1) 1) 0 (fun t40 w =>
  OpX Try.prog (Op.load 3 (Operand.const t40)) 3 (fun t41 w =>
  BinX Try.prog BinOp.leq 3 t41 (Value.int IntKind.i64 1073741824) (fun t42 w =>
  k2 t42 w) w) w) w)
  (k2 (Value.bool false) w) ()) w) w) w)
  (k2 (Value.bool false) w) ()) w) w) w)
  (k2 (Value.bool false) w) ()) w) w) w) (fun t7 w =>
  Join1 (fun k3 w =>
  OpX Try.prog (Op.call { callee := Callee.value (Operand.func 15), args := #[], argTypes := #[] }) 4 (fun t44 w =>
  BrW t44
  (OpX Try.prog (Op.load 29 (Operand.const t1)) 29 (fun t47 w =>
  OpX Try.prog (Op.call { callee := Callee.value (Operand.func 19), args := #[Operand.const (Value.pointer none), Operand.const t47], argTypes := #[24, 29] }) 4 (fun t48 w =>
  OpX Try.prog (Op.unOp UnOp.not 4 (Operand.const t48)) 4 (fun t49 w =>
  BrW t49
  (OpX Try.prog (Op.unOp UnOp.not 4 (Operand.const t22)) 4 (fun t53 w =>
  BrW t53
  (OpX Try.prog (Op.call { callee := Callee.value (Operand.func 22), args := #[Operand.const (Value.pointer none)], argTypes := #[24] }) 4 (fun t57 w =>
  OpX Try.prog (Op.unOp UnOp.not 4 (Operand.const t57)) 4 (fun t58 w =>
  BrW t58
  (OpX Try.prog (Op.call { callee := Callee.value (Operand.func 21), args := #[Operand.const (Value.pointer none)], argTypes := #[24] }) 3 (fun t62 w =>
  OpX Try.prog (Op.call { callee := Callee.value (Operand.func 23), args := #[Operand.const (Value.pointer none)], argTypes := #[24] }) 3 (fun t64 w =>
  BinX Try.prog BinOp.add 3 t62 t64 (fun t65 w =>
  BinX Try.prog BinOp.eql 3 t65 (Value.int IntKind.i64 0) (fun t66 w =>
  BrW t66
  (OpX Try.prog (Op.load 29 (Operand.const t1)) 29 (fun t70 w =>
  OpX Try.prog (Op.call { callee := Callee.value (Operand.func 19), args := #[Operand.const t23, Operand.const t70], argTypes := #[24, 29] }) 4 (fun t71 w =>
  BrW t7
  (OpX Try.prog (Op.fieldAddr 29 (Operand.const t1) 2) 0 (fun t74 w =>
  OpX Try.prog (Op.load 4 (Operand.const t74)) 4 (fun t75 w =>
  BinX Try.prog BinOp.eql 4 t71 t75 (fun t77 w =>
  BrW t77
  (OpX Try.prog (Op.call { callee := Callee.value (Operand.func 22), args := #[Operand.const t23], argTypes := #[24] }) 4 (fun t81 w =>
  BrW t7
  (OpX Try.prog (Op.fieldAddr 29 (Operand.const t1) 2) 0 (fun t84 w =>
  OpX Try.prog (Op.load 4 (Operand.const t84)) 4 (fun t85 w =>
  OpX Try.prog (Op.unOp UnOp.not 4 (Operand.const t85)) 4 (fun t87 w =>
  BinX Try.prog BinOp.eql 4 t81 t87 (fun t88 w =>
  k3 t88 w) w) w) w) w)
  (OpX Try.prog (Op.unOp UnOp.not 4 (Operand.const (Value.bool false))) 4 (fun t87_1 w =>
  BinX Try.prog BinOp.eql 4 t81 t87_1 (fun t88_1 w =>
  k3 t88_1 w) w) w) ()) w)
  (k3 (Value.bool false) w) ()) w) w) w)
  (BinX Try.prog BinOp.eql 4 t71 (Value.bool false) (fun t77_1 w =>
  BrW t77_1
  (OpX Try.prog (Op.call { callee := Callee.value (Operand.func 22), args := #[Operand.const t23], argTypes := #[24] }) 4 (fun t81_1 w =>
  BrW t7
  (OpX Try.prog (Op.fieldAddr 29 (Operand.const t1) 2) 0 (fun t84_1 w =>
  OpX Try.prog (Op.load 4 (Operand.const t84_1)) 4 (fun t85_1 w =>
  OpX Try.prog (Op.unOp UnOp.not 4 (Operand.const t85_1)) 4 (fun t87_2 w =>
  BinX Try.prog BinOp.eql 4 t81_1 t87_2 (fun t88_2 w =>
  k3 t88_2 w) w) w) w) w)
  (OpX Try.prog (Op.unOp UnOp.not 4 (Operand.const (Value.bool false))) 4 (fun t87_3 w =>
  BinX Try.prog BinOp.eql 4 t81_1 t87_3 (fun t88_3 w =>
  k3 t88_3 w) w) w) ()) w)
  (k3 (Value.bool false) w) ()) w) ()) w) w)
  (k3 (Value.bool false) w) ()) w) w) w) w)
  (k3 (Value.bool false) w) ()) w) w)
  (k3 (Value.bool false) w) ()) w)
  (k3 (Value.bool false) w) ()) w) w) w)
  (k3 (Value.bool false) w) ()) w) (fun t2 w =>
  K t2 w) w) w) ()) w) w) w) w) w) w) w) w) w) w
theorem lyceumlaw18_QueueNil_link (p0 : Value) {R : Value → World → Prop} {w : World} (h : ∀ K : Value → World → Prop, (∀ v w', R v w' → K v w') → lyceumlaw18_QueueNil p0 K w) : Calls Try.prog 5 #[p0] w (retK R) :=
  calls_of_def [p0] [(4, []), (25, [7]), (27, [2])] mixed Try.func5 (by kernel_rfl) (by kernel_rfl) (by kernel_rfl) (X := lyceumlaw18_QueueNil p0 R w) (by kernel_rfl) (h R fun _ _ h => h)
theorem lyceumlaw18_QueueNil_b : Bodied Try.prog 5 := ⟨_, Try.func5, by kernel_rfl, by kernel_rfl⟩

/- lyceum/lyceumlaw18.awake -/
def lyceumlaw18_awake (K : Value → World → Prop) (w : World) : Prop :=
  OpX Try.prog (Op.call { callee := Callee.value (Operand.func 16), args := #[Operand.const (Value.int IntKind.i64 2)], argTypes := #[3] }) 24 (fun t5 w =>
  OpX Try.prog (Op.build 29 #[(2, Operand.const (Value.bool true))]) 29 (fun t7 w =>
  OpX Try.prog (Op.call { callee := Callee.value (Operand.func 19), args := #[Operand.const t5, Operand.const t7], argTypes := #[24, 29] }) 4 (fun t8 w =>
  OpX Try.prog (Op.build 29 #[(1, Operand.const (Value.int IntKind.i64 1))]) 29 (fun t10 w =>
  OpX Try.prog (Op.call { callee := Callee.value (Operand.func 19), args := #[Operand.const t5, Operand.const t10], argTypes := #[24, 29] }) 4 (fun t11 w =>
  OpX Try.prog (Op.build 29 #[(1, Operand.const (Value.int IntKind.i64 2))]) 29 (fun t13 w =>
  OpX Try.prog (Op.call { callee := Callee.value (Operand.func 19), args := #[Operand.const t5, Operand.const t13], argTypes := #[24, 29] }) 4 (fun t14 w =>
  Join1 (fun k1 w =>
  BrW t8
  (BrW t11
  (OpX Try.prog (Op.unOp UnOp.not 4 (Operand.const t14)) 4 (fun t21 w =>
  BrW t21
  (OpX Try.prog (Op.call { callee := Callee.value (Operand.func 22), args := #[Operand.const t5], argTypes := #[24] }) 4 (fun t25 w =>
  k1 t25 w) w)
  (k1 (Value.bool false) w) ()) w)
  (k1 (Value.bool false) w) ())
  (k1 (Value.bool false) w) ()) (fun t0 w =>
  K t0 w) w) w) w) w) w) w) w) w
theorem lyceumlaw18_awake_link {R : Value → World → Prop} {w : World} (h : ∀ K : Value → World → Prop, (∀ v w', R v w' → K v w') → lyceumlaw18_awake K w) : Calls Try.prog 15 #[] w (retK R) :=
  calls_of_def [] [(11, [0])] mixed Try.func15 (by kernel_rfl) (by kernel_rfl) (by kernel_rfl) (X := lyceumlaw18_awake R w) (by kernel_rfl) (h R fun _ _ h => h)
theorem lyceumlaw18_awake_b : Bodied Try.prog 15 := ⟨_, Try.func15, by kernel_rfl, by kernel_rfl⟩

/- (lyceum/lyceumlaw18.Op).frame -/
def lyceumlaw18_Op_frame (p0 : Value) (K : Value → World → Prop) (w : World) : Prop :=
  OpX Try.prog (Op.box 27 (Operand.const p0)) 0 (fun t1 w =>
  OpX Try.prog (Op.alloc 29) 0 (fun t2 w =>
  OpX Try.prog (Op.fieldAddr 27 (Operand.const t1) 4) 0 (fun t3 w =>
  OpX Try.prog (Op.load 4 (Operand.const t3)) 4 (fun t4 w =>
  BrW t4
  (OpX Try.prog (Op.fieldAddr 27 (Operand.const t1) 1) 0 (fun t5 w =>
  OpX Try.prog (Op.load 3 (Operand.const t5)) 3 (fun t6 w =>
  OpX Try.prog (Op.fieldAddr 27 (Operand.const t1) 2) 0 (fun t7 w =>
  OpX Try.prog (Op.load 3 (Operand.const t7)) 3 (fun t8 w =>
  OpX Try.prog (Op.fieldAddr 27 (Operand.const t1) 3) 0 (fun t9 w =>
  OpX Try.prog (Op.load 4 (Operand.const t9)) 4 (fun t10 w =>
  OpX Try.prog (Op.build 29 #[(0, Operand.const t6), (1, Operand.const t8), (2, Operand.const t10)]) 29 (fun t11 w =>
  OpX Try.prog (Op.store 29 (Operand.const t2) (Operand.const t11)) 0 (fun _ w =>
  LdR Try.prog 29 t2 (fun t2_1 w =>
  K t2_1 w) w) w) w) w) w) w) w) w) w)
  (OpX Try.prog (Op.fieldAddr 27 (Operand.const t1) 2) 0 (fun t12 w =>
  OpX Try.prog (Op.load 3 (Operand.const t12)) 3 (fun t13 w =>
  BinX Try.prog BinOp.and 3 t13 (Value.int IntKind.i64 1023) (fun t14 w =>
  OpX Try.prog (Op.fieldAddr 27 (Operand.const t1) 3) 0 (fun t15 w =>
  OpX Try.prog (Op.load 4 (Operand.const t15)) 4 (fun t16 w =>
  OpX Try.prog (Op.build 29 #[(1, Operand.const t14), (2, Operand.const t16), (3, Operand.const (Value.string { data := #[98] }))]) 29 (fun t17 w =>
  OpX Try.prog (Op.store 29 (Operand.const t2) (Operand.const t17)) 0 (fun _ w =>
  LdR Try.prog 29 t2 (fun t2_2 w =>
  K t2_2 w) w) w) w) w) w) w) w) w) ()) w) w) w) w
theorem lyceumlaw18_Op_frame_link (p0 : Value) {R : Value → World → Prop} {w : World} (h : ∀ K : Value → World → Prop, (∀ v w', R v w' → K v w') → lyceumlaw18_Op_frame p0 K w) : Calls Try.prog 20 #[p0] w (retK R) :=
  calls_of_def [p0] [] mixed Try.func20 (by kernel_rfl) (by kernel_rfl) (by kernel_rfl) (X := lyceumlaw18_Op_frame p0 R w) (by kernel_rfl) (h R fun _ _ h => h)
theorem lyceumlaw18_Op_frame_b : Bodied Try.prog 20 := ⟨_, Try.func20, by kernel_rfl, by kernel_rfl⟩

end Go.Proofs.Ytdjdeahmhenchaa
