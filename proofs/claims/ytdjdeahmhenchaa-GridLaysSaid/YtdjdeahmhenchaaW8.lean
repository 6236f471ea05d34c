/- Written by a program (gen.py): functions of the translation as transformers, with the link to Calls. -/
import Derived.Test.YtdjdeahmhenchaaLycDef
import Derived.Test.YtdjdeahmhenchaaLycTy
import Derived.Test.YtdjdeahmhenchaaW0
set_option linter.unusedSimpArgs false
set_option linter.unusedVariables false
namespace Go.Proofs.Ytdjdeahmhenchaa
open Lyc Go
set_option maxRecDepth 100000

/- lyceum/lyceumref06.New -/
def lyceumref06_New (p0 p1 : Value) (K : Value → World → Prop) (w : World) : Prop :=
  OpX Try.prog (Op.alloc 54) 0 (fun t4 w =>
  OpX Try.prog (Op.call { callee := Callee.value (Operand.func 70), args := #[Operand.const p0, Operand.const p1], argTypes := #[3, 3] }) 4 (fun t10 w =>
  OpX Try.prog (Op.unOp UnOp.not 4 (Operand.const t10)) 4 (fun t12 w =>
  BrW t12
  (OpX Try.prog (Op.build 54 #[]) 54 (fun t13 w =>
  OpX Try.prog (Op.store 54 (Operand.const t4) (Operand.const t13)) 0 (fun _ w =>
  LdR Try.prog 54 t4 (fun t4_1 w =>
  K t4_1 w) w) w) w)
  (OpX Try.prog (Op.build 54 #[(0, Operand.const p0), (1, Operand.const p1)]) 54 (fun t16 w =>
  OpX Try.prog (Op.alloc 54) 0 (fun t6 w =>
  OpX Try.prog (Op.store 54 (Operand.const t6) (Operand.const t16)) 0 (fun _ w =>
  Loop1 (Value.int IntKind.i64 0) (fun t7 next1 w =>
  BinX Try.prog BinOp.mul 3 p0 p1 (fun t20 w =>
  BinX Try.prog BinOp.lss 3 t7 t20 (fun t21 w =>
  BrW t21
  (DrewW (fun w =>
  PurX Try.prog (Op.fieldAddr 54 (Operand.const t6) 2) 0 (fun t24 =>
  RdX Try.prog (Op.load 45 (Operand.const t24)) 45 (fun t25 =>
  OpX Try.prog (Op.call { callee := Callee.value (Operand.func 71), args := #[], argTypes := #[] }) 44 (fun t26 w =>
  (Yld Try.prog (Op.load 45 (Operand.const t24)) 45 t25 w) ∧ (OpX Try.prog (Op.buildSlice 45 1 #[(0, Operand.const t26)]) 45 (fun t27 w =>
  (Yld Try.prog (Op.load 45 (Operand.const t24)) 45 t25 w) ∧ (OpX Try.prog (Op.call { callee := Callee.builtin Builtin.append, args := #[Operand.const t25, Operand.const t27], argTypes := #[45, 45] }) 45 (fun t28 w =>
  PurX Try.prog (Op.fieldAddr 54 (Operand.const t6) 2) 0 (fun t29 =>
  OpX Try.prog (Op.store 45 (Operand.const t29) (Operand.const t28)) 0 (fun _ w =>
  BinX Try.prog BinOp.add 3 t7 (Value.int IntKind.i64 1) (fun t23 w =>
  next1 t23 w) w) w) ()) w)) w)) w) w) ()) w)
  (OpX Try.prog (Op.load 54 (Operand.const t6)) 54 (fun t30 w =>
  OpX Try.prog (Op.store 54 (Operand.const t4) (Operand.const t30)) 0 (fun _ w =>
  LdR Try.prog 54 t4 (fun t4_2 w =>
  K t4_2 w) w) w) w) ()) w) w) w) w) w) w) ()) w) w) w
theorem lyceumref06_New_link (p0 p1 : Value) {R : Value → World → Prop} {w : World} (h : ∀ K : Value → World → Prop, (∀ v w', R v w' → K v w') → lyceumref06_New p0 p1 K w) : Calls Try.prog 37 #[p0, p1] w (retK R) :=
  calls_of_def [p0, p1] [(18, [7])] mixed Try.func37 (by kernel_rfl) (by kernel_rfl) (by kernel_rfl) (X := lyceumref06_New p0 p1 R w) (by kernel_rfl) (h R fun _ _ h => h)
theorem lyceumref06_New_b : Bodied Try.prog 37 := ⟨_, Try.func37, by kernel_rfl, by kernel_rfl⟩

/- lyceum/lyceumref06.Same -/
def lyceumref06_Same (p0 p1 : Value) (K : Value → World → Prop) (w : World) : Prop :=
  OpX Try.prog (Op.box 54 (Operand.const p0)) 0 (fun t2 w =>
  OpX Try.prog (Op.box 54 (Operand.const p1)) 0 (fun t3 w =>
  OpX Try.prog (Op.fieldAddr 54 (Operand.const t2) 2) 0 (fun t6 w =>
  OpX Try.prog (Op.load 45 (Operand.const t6)) 45 (fun t7 w =>
  OpX Try.prog (Op.fieldAddr 54 (Operand.const t3) 2) 0 (fun t8 w =>
  OpX Try.prog (Op.load 45 (Operand.const t8)) 45 (fun t9 w =>
  OpX Try.prog (Op.call { callee := Callee.value (Operand.func 35), args := #[Operand.const t7, Operand.const t9], argTypes := #[45, 45] }) 4 (fun t10 w =>
  Join1 (fun k1 w =>
  BrW t10
  (OpX Try.prog (Op.fieldAddr 54 (Operand.const t2) 0) 0 (fun t13 w =>
  OpX Try.prog (Op.load 3 (Operand.const t13)) 3 (fun t14 w =>
  OpX Try.prog (Op.fieldAddr 54 (Operand.const t3) 0) 0 (fun t15 w =>
  OpX Try.prog (Op.load 3 (Operand.const t15)) 3 (fun t16 w =>
  BinX Try.prog BinOp.eql 3 t14 t16 (fun t17 w =>
  BrW t17
  (OpX Try.prog (Op.fieldAddr 54 (Operand.const t2) 1) 0 (fun t20 w =>
  OpX Try.prog (Op.load 3 (Operand.const t20)) 3 (fun t21 w =>
  OpX Try.prog (Op.fieldAddr 54 (Operand.const t3) 1) 0 (fun t22 w =>
  OpX Try.prog (Op.load 3 (Operand.const t22)) 3 (fun t23 w =>
  BinX Try.prog BinOp.eql 3 t21 t23 (fun t24 w =>
  k1 t24 w) w) w) w) w) w)
  (k1 (Value.bool false) w) ()) w) w) w) w) w)
  (k1 (Value.bool false) w) ()) (fun t4 w =>
  K t4 w) w) w) w) w) w) w) w) w
theorem lyceumref06_Same_link (p0 p1 : Value) {R : Value → World → Prop} {w : World} (h : ∀ K : Value → World → Prop, (∀ v w', R v w' → K v w') → lyceumref06_Same p0 p1 K w) : Calls Try.prog 39 #[p0, p1] w (retK R) :=
  calls_of_def [p0, p1] [(5, [4])] mixed Try.func39 (by kernel_rfl) (by kernel_rfl) (by kernel_rfl) (X := lyceumref06_Same p0 p1 R w) (by kernel_rfl) (h R fun _ _ h => h)
theorem lyceumref06_Same_b : Bodied Try.prog 39 := ⟨_, Try.func39, by kernel_rfl, by kernel_rfl⟩

/- lyceum/lyceumref06.At -/
def lyceumref06_At (p0 p1 p2 : Value) (K : Value → World → Prop) (w : World) : Prop :=
  OpX Try.prog (Op.box 54 (Operand.const p0)) 0 (fun t3 w =>
  OpX Try.prog (Op.alloc 44) 0 (fun t6 w =>
  OpX Try.prog (Op.load 54 (Operand.const t3)) 54 (fun t8 w =>
  OpX Try.prog (Op.call { callee := Callee.value (Operand.func 77), args := #[Operand.const t8, Operand.const p2], argTypes := #[54, 3] }) 45 (fun t10 w =>
  Join1 (fun k1 w =>
  BinX Try.prog BinOp.lss 3 p1 (Value.int IntKind.i64 0) (fun t12 w =>
  BrW t12
  (k1 (Value.bool true) w)
  (OpX Try.prog (Op.call { callee := Callee.builtin Builtin.len, args := #[Operand.const t10], argTypes := #[45] }) 3 (fun t16 w =>
  BinX Try.prog BinOp.geq 3 p1 t16 (fun t17 w =>
  k1 t17 w) w) w) ()) w) (fun t18 w =>
  BrW t18
  (OpX Try.prog (Op.build 44 #[]) 44 (fun t19 w =>
  OpX Try.prog (Op.store 44 (Operand.const t6) (Operand.const t19)) 0 (fun _ w =>
  LdR Try.prog 44 t6 (fun t6_1 w =>
  K t6_1 w) w) w) w)
  (OpX Try.prog (Op.indexAddr 45 (Operand.const t10) (Operand.const p1)) 0 (fun t22 w =>
  OpX Try.prog (Op.load 44 (Operand.const t22)) 44 (fun t23 w =>
  OpX Try.prog (Op.store 44 (Operand.const t6) (Operand.const t23)) 0 (fun _ w =>
  LdR Try.prog 44 t6 (fun t6_2 w =>
  K t6_2 w) w) w) w) w) ()) w) w) w) w) w
theorem lyceumref06_At_link (p0 p1 p2 : Value) {R : Value → World → Prop} {w : World} (h : ∀ K : Value → World → Prop, (∀ v w', R v w' → K v w') → lyceumref06_At p0 p1 p2 K w) : Calls Try.prog 41 #[p0, p1, p2] w (retK R) :=
  calls_of_def [p0, p1, p2] [(6, [18])] mixed Try.func41 (by kernel_rfl) (by kernel_rfl) (by kernel_rfl) (X := lyceumref06_At p0 p1 p2 R w) (by kernel_rfl) (h R fun _ _ h => h)
theorem lyceumref06_At_b : Bodied Try.prog 41 := ⟨_, Try.func41, by kernel_rfl, by kernel_rfl⟩

/- lyceum/lyceumref06.size -/
def lyceumref06_size (p0 p1 : Value) (K : Value → World → Prop) (w : World) : Prop :=
  Join1 (fun k1 w =>
  BinX Try.prog BinOp.geq 3 p0 (Value.int IntKind.i64 1) (fun t6 w =>
  BrW t6
  (BinX Try.prog BinOp.leq 3 p0 (Value.int IntKind.i64 200) (fun t9 w =>
  BrW t9
  (BinX Try.prog BinOp.geq 3 p1 (Value.int IntKind.i64 1) (fun t13 w =>
  BrW t13
  (BinX Try.prog BinOp.leq 3 p1 (Value.int IntKind.i64 60) (fun t17 w =>
  k1 t17 w) w)
  (k1 (Value.bool false) w) ()) w)
  (k1 (Value.bool false) w) ()) w)
  (k1 (Value.bool false) w) ()) w) (fun t4 w =>
  K t4 w) w
theorem lyceumref06_size_link (p0 p1 : Value) {R : Value → World → Prop} {w : World} (h : ∀ K : Value → World → Prop, (∀ v w', R v w' → K v w') → lyceumref06_size p0 p1 K w) : Calls Try.prog 70 #[p0, p1] w (retK R) :=
  calls_of_def [p0, p1] [(3, [4])] mixed Try.func70 (by kernel_rfl) (by kernel_rfl) (by kernel_rfl) (X := lyceumref06_size p0 p1 R w) (by kernel_rfl) (h R fun _ _ h => h)
theorem lyceumref06_size_b : Bodied Try.prog 70 := ⟨_, Try.func70, by kernel_rfl, by kernel_rfl⟩

/- lyceum/lyceumref06.Row -/
def lyceumref06_Row (p0 p1 : Value) (K : Value → World → Prop) (w : World) : Prop :=
  OpX Try.prog (Op.box 54 (Operand.const p0)) 0 (fun t2 w =>
  Join1 (fun k1 w =>
  PurB Try.prog BinOp.lss 3 p1 (Value.int IntKind.i64 0) (fun t6 =>
  BrW t6
  (k1 (Value.bool true) w)
  (PurX Try.prog (Op.fieldAddr 54 (Operand.const t2) 1) 0 (fun t9 =>
  RdX Try.prog (Op.load 3 (Operand.const t9)) 3 (fun t10 =>
  PurB Try.prog BinOp.geq 3 p1 t10 (fun t11 =>
  BrW t11
  (k1 (Value.bool true) w)
  (PurX Try.prog (Op.fieldAddr 54 (Operand.const t2) 0) 0 (fun t14 =>
  RdX Try.prog (Op.load 3 (Operand.const t14)) 3 (fun t15 =>
  PurB Try.prog BinOp.lss 3 t15 (Value.int IntKind.i64 1) (fun t16 =>
  BrW t16
  (k1 (Value.bool true) w)
  (PurX Try.prog (Op.fieldAddr 54 (Operand.const t2) 1) 0 (fun t19 =>
  RdX Try.prog (Op.load 3 (Operand.const t19)) 3 (fun t20 =>
  PurX Try.prog (Op.fieldAddr 54 (Operand.const t2) 2) 0 (fun t21 =>
  RdX Try.prog (Op.load 45 (Operand.const t21)) 45 (fun t22 =>
  RdX Try.prog (Op.call { callee := Callee.builtin Builtin.len, args := #[Operand.const t22], argTypes := #[45] }) 3 (fun t23 =>
  PurX Try.prog (Op.fieldAddr 54 (Operand.const t2) 0) 0 (fun t24 =>
  RdX Try.prog (Op.load 3 (Operand.const t24)) 3 (fun t25 =>
  PurB Try.prog BinOp.quo 3 t23 t25 (fun t26 =>
  PurB Try.prog BinOp.gtr 3 t20 t26 (fun t27 =>
  k1 t27 w) ()) ()) w) ()) w) w) ()) w) ()) ()) ()) w) ()) ()) ()) w) ()) ()) ()) (fun t28 w =>
  BrW t28
  (K (Value.slice none 0 0) w)
  (OpX Try.prog (Op.buildSlice 45 0 #[]) 45 (fun t29 w =>
  OpX Try.prog (Op.fieldAddr 54 (Operand.const t2) 2) 0 (fun t30 w =>
  OpX Try.prog (Op.load 45 (Operand.const t30)) 45 (fun t31 w =>
  OpX Try.prog (Op.fieldAddr 54 (Operand.const t2) 0) 0 (fun t33 w =>
  OpX Try.prog (Op.load 3 (Operand.const t33)) 3 (fun t34 w =>
  BinX Try.prog BinOp.mul 3 p1 t34 (fun t35 w =>
  OpX Try.prog (Op.fieldAddr 54 (Operand.const t2) 0) 0 (fun t37 w =>
  OpX Try.prog (Op.load 3 (Operand.const t37)) 3 (fun t38 w =>
  BinX Try.prog BinOp.mul 3 p1 t38 (fun t39 w =>
  OpX Try.prog (Op.fieldAddr 54 (Operand.const t2) 0) 0 (fun t40 w =>
  OpX Try.prog (Op.load 3 (Operand.const t40)) 3 (fun t41 w =>
  BinX Try.prog BinOp.add 3 t39 t41 (fun t42 w =>
  OpX Try.prog (Op.slice 45 (Operand.const t31) (some (Operand.const t35)) (some (Operand.const t42)) none) 45 (fun t43 w =>
  OpX Try.prog (Op.call { callee := Callee.builtin Builtin.append, args := #[Operand.const t29, Operand.const t43], argTypes := #[45, 45] }) 45 (fun t44 w =>
  K t44 w) w) w) w) w) w) w) w) w) w) w) w) w) w) w) ()) w.drew) w
theorem lyceumref06_Row_link (p0 p1 : Value) {R : Value → World → Prop} {w : World} (h : ∀ K : Value → World → Prop, (∀ v w', R v w' → K v w') → lyceumref06_Row p0 p1 K w) : Calls Try.prog 77 #[p0, p1] w (retK R) :=
  calls_of_def [p0, p1] [(4, [28])] mixed Try.func77 (by kernel_rfl) (by kernel_rfl) (by kernel_rfl) (X := lyceumref06_Row p0 p1 R w) (by kernel_rfl) (h R fun _ _ h => h)
theorem lyceumref06_Row_b : Bodied Try.prog 77 := ⟨_, Try.func77, by kernel_rfl, by kernel_rfl⟩

/- lyceum/lyceumref06.Put -/
def lyceumref06_Put (p0 p1 p2 p3 : Value) (K : Value → World → Prop) (w : World) : Prop :=
  OpX Try.prog (Op.box 54 (Operand.const p0)) 0 (fun t4 w =>
  OpX Try.prog (Op.alloc 54) 0 (fun t8 w =>
  OpX Try.prog (Op.load 54 (Operand.const t4)) 54 (fun t13 w =>
  OpX Try.prog (Op.call { callee := Callee.value (Operand.func 107), args := #[Operand.const t13], argTypes := #[54] }) 4 (fun t14 w =>
  Join1 (fun k1 w =>
  OpX Try.prog (Op.unOp UnOp.not 4 (Operand.const t14)) 4 (fun t16 w =>
  BrW t16
  (k1 (Value.bool true) w)
  (BinX Try.prog BinOp.lss 3 p2 (Value.int IntKind.i64 0) (fun t19 w =>
  BrW t19
  (k1 (Value.bool true) w)
  (OpX Try.prog (Op.fieldAddr 54 (Operand.const t4) 1) 0 (fun t23 w =>
  OpX Try.prog (Op.load 3 (Operand.const t23)) 3 (fun t24 w =>
  BinX Try.prog BinOp.geq 3 p2 t24 (fun t25 w =>
  k1 t25 w) w) w) w) ()) w) ()) w) (fun t26 w =>
  BrW t26
  (OpX Try.prog (Op.load 54 (Operand.const t4)) 54 (fun t27 w =>
  OpX Try.prog (Op.store 54 (Operand.const t8) (Operand.const t27)) 0 (fun _ w =>
  LdR Try.prog 54 t8 (fun t8_1 w =>
  K t8_1 w) w) w) w)
  (OpX Try.prog (Op.fieldAddr 54 (Operand.const t4) 1) 0 (fun t28 w =>
  OpX Try.prog (Op.load 3 (Operand.const t28)) 3 (fun t29 w =>
  OpX Try.prog (Op.makeSlice 136 (Operand.const t29) (Operand.const t29)) 136 (fun t30 w =>
  OpX Try.prog (Op.indexAddr 136 (Operand.const t30) (Operand.const p2)) 0 (fun t33 w =>
  OpX Try.prog (Op.store 4 (Operand.const t33) (Operand.const (Value.bool true))) 0 (fun _ w =>
  OpX Try.prog (Op.buildSlice 45 0 #[]) 45 (fun t34 w =>
  OpX Try.prog (Op.fieldAddr 54 (Operand.const t4) 2) 0 (fun t35 w =>
  OpX Try.prog (Op.load 45 (Operand.const t35)) 45 (fun t36 w =>
  OpX Try.prog (Op.call { callee := Callee.builtin Builtin.append, args := #[Operand.const t34, Operand.const t36], argTypes := #[45, 45] }) 45 (fun t37 w =>
  Loop1 (Value.int IntKind.i64 0) (fun t12 next2 w =>
  OpX Try.prog (Op.call { callee := Callee.builtin Builtin.len, args := #[Operand.const p3], argTypes := #[45] }) 3 (fun t40 w =>
  BinX Try.prog BinOp.lss 3 t12 t40 (fun t41 w =>
  BrW t41
  (Join1 (fun k3 w =>
  BinX Try.prog BinOp.geq 3 p1 (Value.int IntKind.i64 0) (fun t45 w =>
  BrW t45
  (OpX Try.prog (Op.fieldAddr 54 (Operand.const t4) 0) 0 (fun t48 w =>
  OpX Try.prog (Op.load 3 (Operand.const t48)) 3 (fun t49 w =>
  BinX Try.prog BinOp.sub 3 t49 t12 (fun t51 w =>
  BinX Try.prog BinOp.lss 3 p1 t51 (fun t52 w =>
  BrW t52
  (k3 (Value.bool true) w)
  (BinX Try.prog BinOp.lss 3 p1 (Value.int IntKind.i64 0) (fun t56 w =>
  BrW t56
  (BinX Try.prog BinOp.add 3 p1 t12 (fun t60 w =>
  BinX Try.prog BinOp.geq 3 t60 (Value.int IntKind.i64 0) (fun t61 w =>
  BrW t61
  (BinX Try.prog BinOp.add 3 p1 t12 (fun t66 w =>
  OpX Try.prog (Op.fieldAddr 54 (Operand.const t4) 0) 0 (fun t67 w =>
  OpX Try.prog (Op.load 3 (Operand.const t67)) 3 (fun t68 w =>
  BinX Try.prog BinOp.lss 3 t66 t68 (fun t69 w =>
  k3 t69 w) w) w) w) w)
  (k3 (Value.bool false) w) ()) w) w)
  (k3 (Value.bool false) w) ()) w) ()) w) w) w) w)
  (BinX Try.prog BinOp.lss 3 p1 (Value.int IntKind.i64 0) (fun t56_1 w =>
  BrW t56_1
  (BinX Try.prog BinOp.add 3 p1 t12 (fun t60_1 w =>
  BinX Try.prog BinOp.geq 3 t60_1 (Value.int IntKind.i64 0) (fun t61_1 w =>
  BrW t61_1
  (BinX Try.prog BinOp.add 3 p1 t12 (fun t66_1 w =>
  OpX Try.prog (Op.fieldAddr 54 (Operand.const t4) 0) 0 (fun t67_1 w =>
  OpX Try.prog (Op.load 3 (Operand.const t67_1)) 3 (fun t68_1 w =>
  BinX Try.prog BinOp.lss 3 t66_1 t68_1 (fun t69_1 w =>
  k3 t69_1 w) w) w) w) w)
  (k3 (Value.bool false) w) ()) w) w)
  (k3 (Value.bool false) w) ()) w) ()) w) (fun t71 w =>
  BrW t71
  (DrewW (fun w =>
  PurX Try.prog (Op.fieldAddr 54 (Operand.const t4) 0) 0 (fun t74 =>
  RdX Try.prog (Op.load 3 (Operand.const t74)) 3 (fun t75 =>
  PurB Try.prog BinOp.mul 3 p2 t75 (fun t76 =>
  PurB Try.prog BinOp.add 3 t76 p1 (fun t78 =>
  PurB Try.prog BinOp.add 3 t78 t12 (fun t80 =>
  PurX Try.prog (Op.indexAddr 45 (Operand.const p3) (Operand.const t12)) 0 (fun t83 =>
  RdX Try.prog (Op.load 44 (Operand.const t83)) 44 (fun t84 =>
  PurX Try.prog (Op.indexAddr 45 (Operand.const t37) (Operand.const t80)) 0 (fun t85 =>
  OpX Try.prog (Op.store 44 (Operand.const t85) (Operand.const t84)) 0 (fun _ w =>
  BinX Try.prog BinOp.add 3 t12 (Value.int IntKind.i64 1) (fun t43 w =>
  next2 t43 w) w) w) ()) w) ()) ()) ()) ()) w) ()) w)
  (BinX Try.prog BinOp.add 3 t12 (Value.int IntKind.i64 1) (fun t43_1 w =>
  next2 t43_1 w) w) ()) w)
  (OpX Try.prog (Op.fieldAddr 54 (Operand.const t4) 0) 0 (fun t86 w =>
  OpX Try.prog (Op.load 3 (Operand.const t86)) 3 (fun t87 w =>
  OpX Try.prog (Op.fieldAddr 54 (Operand.const t4) 1) 0 (fun t88 w =>
  OpX Try.prog (Op.load 3 (Operand.const t88)) 3 (fun t89 w =>
  OpX Try.prog (Op.call { callee := Callee.value (Operand.func 108), args := #[Operand.const t87, Operand.const t89, Operand.const t30, Operand.const t37], argTypes := #[3, 3, 136, 45] }) 54 (fun t92 w =>
  OpX Try.prog (Op.store 54 (Operand.const t8) (Operand.const t92)) 0 (fun _ w =>
  LdR Try.prog 54 t8 (fun t8_2 w =>
  K t8_2 w) w) w) w) w) w) w) w) ()) w) w) w) w) w) w) w) w) w) w) w) w) ()) w) w) w) w) w
theorem lyceumref06_Put_link (p0 p1 p2 p3 : Value) {R : Value → World → Prop} {w : World} (h : ∀ K : Value → World → Prop, (∀ v w', R v w' → K v w') → lyceumref06_Put p0 p1 p2 p3 K w) : Calls Try.prog 83 #[p0, p1, p2, p3] w (retK R) :=
  calls_of_def [p0, p1, p2, p3] [(6, [26]), (22, [12]), (32, [71])] mixed Try.func83 (by kernel_rfl) (by kernel_rfl) (by kernel_rfl) (X := lyceumref06_Put p0 p1 p2 p3 R w) (by kernel_rfl) (h R fun _ _ h => h)
theorem lyceumref06_Put_b : Bodied Try.prog 83 := ⟨_, Try.func83, by kernel_rfl, by kernel_rfl⟩

/- lyceum/lyceumref06.Check -/
def lyceumref06_Check (p0 : Value) (K : Value → World → Prop) (w : World) : Prop :=
  OpX Try.prog (Op.box 54 (Operand.const p0)) 0 (fun t1 w =>
  OpX Try.prog (Op.fieldAddr 54 (Operand.const t1) 0) 0 (fun t6 w =>
  OpX Try.prog (Op.load 3 (Operand.const t6)) 3 (fun t7 w =>
  OpX Try.prog (Op.fieldAddr 54 (Operand.const t1) 1) 0 (fun t8 w =>
  OpX Try.prog (Op.load 3 (Operand.const t8)) 3 (fun t9 w =>
  OpX Try.prog (Op.call { callee := Callee.value (Operand.func 70), args := #[Operand.const t7, Operand.const t9], argTypes := #[3, 3] }) 4 (fun t10 w =>
  Join1 (fun k1 w =>
  OpX Try.prog (Op.unOp UnOp.not 4 (Operand.const t10)) 4 (fun t12 w =>
  BrW t12
  (k1 (Value.bool true) w)
  (OpX Try.prog (Op.fieldAddr 54 (Operand.const t1) 2) 0 (fun t14 w =>
  OpX Try.prog (Op.load 45 (Operand.const t14)) 45 (fun t15 w =>
  OpX Try.prog (Op.call { callee := Callee.builtin Builtin.len, args := #[Operand.const t15], argTypes := #[45] }) 3 (fun t16 w =>
  OpX Try.prog (Op.fieldAddr 54 (Operand.const t1) 0) 0 (fun t17 w =>
  OpX Try.prog (Op.load 3 (Operand.const t17)) 3 (fun t18 w =>
  OpX Try.prog (Op.fieldAddr 54 (Operand.const t1) 1) 0 (fun t19 w =>
  OpX Try.prog (Op.load 3 (Operand.const t19)) 3 (fun t20 w =>
  BinX Try.prog BinOp.mul 3 t18 t20 (fun t21 w =>
  BinX Try.prog BinOp.neq 3 t16 t21 (fun t22 w =>
  k1 t22 w) w) w) w) w) w) w) w) w) w) ()) w) (fun t23 w =>
  BrW t23
  (K (Value.bool false) w)
  (Loop1 (Value.int IntKind.i64 0) (fun t4 next2 w =>
  OpX Try.prog (Op.fieldAddr 54 (Operand.const t1) 1) 0 (fun t25 w =>
  OpX Try.prog (Op.load 3 (Operand.const t25)) 3 (fun t26 w =>
  BinX Try.prog BinOp.lss 3 t4 t26 (fun t27 w =>
  BrW t27
  (OpX Try.prog (Op.load 54 (Operand.const t1)) 54 (fun t30 w =>
  OpX Try.prog (Op.call { callee := Callee.value (Operand.func 77), args := #[Operand.const t30, Operand.const t4], argTypes := #[54, 3] }) 45 (fun t32 w =>
  OpX Try.prog (Op.call { callee := Callee.value (Operand.func 120), args := #[Operand.const t32], argTypes := #[45] }) 4 (fun t33 w =>
  OpX Try.prog (Op.unOp UnOp.not 4 (Operand.const t33)) 4 (fun t35 w =>
  BrW t35
  (K (Value.bool false) w)
  (BinX Try.prog BinOp.add 3 t4 (Value.int IntKind.i64 1) (fun t29 w =>
  next2 t29 w) w) ()) w) w) w) w)
  (K (Value.bool true) w) ()) w) w) w) w) ()) w) w) w) w) w) w) w
theorem lyceumref06_Check_link (p0 : Value) {R : Value → World → Prop} {w : World} (h : ∀ K : Value → World → Prop, (∀ v w', R v w' → K v w') → lyceumref06_Check p0 K w) : Calls Try.prog 107 #[p0] w (retK R) :=
  calls_of_def [p0] [(6, [23]), (16, [4])] mixed Try.func107 (by kernel_rfl) (by kernel_rfl) (by kernel_rfl) (X := lyceumref06_Check p0 R w) (by kernel_rfl) (h R fun _ _ h => h)
theorem lyceumref06_Check_b : Bodied Try.prog 107 := ⟨_, Try.func107, by kernel_rfl, by kernel_rfl⟩

/- lyceum/lyceumref06.all -/
def lyceumref06_all (p0 p1 p2 p3 : Value) (K : Value → World → Prop) (w : World) : Prop :=
  OpX Try.prog (Op.alloc 54) 0 (fun t8 w =>
  OpX Try.prog (Op.build 54 #[(0, Operand.const p0), (1, Operand.const p1)]) 54 (fun t14 w =>
  OpX Try.prog (Op.alloc 54) 0 (fun t9 w =>
  OpX Try.prog (Op.store 54 (Operand.const t9) (Operand.const t14)) 0 (fun _ w =>
  Loop1 (Value.int IntKind.i64 0) (fun t10 next1 w =>
  BinX Try.prog BinOp.lss 3 t10 p1 (fun t17 w =>
  BrW t17
  (BinX Try.prog BinOp.mul 3 t10 p0 (fun t23 w =>
  BinX Try.prog BinOp.mul 3 t10 p0 (fun t26 w =>
  BinX Try.prog BinOp.add 3 t26 p0 (fun t28 w =>
  OpX Try.prog (Op.slice 45 (Operand.const p3) (some (Operand.const t23)) (some (Operand.const t28)) none) 45 (fun t29 w =>
  Join1 (fun k2 w =>
  OpX Try.prog (Op.indexAddr 136 (Operand.const p2) (Operand.const t10)) 0 (fun t32 w =>
  OpX Try.prog (Op.load 4 (Operand.const t32)) 4 (fun t33 w =>
  BrW t33
  (OpX Try.prog (Op.call { callee := Callee.value (Operand.func 121), args := #[Operand.const t29], argTypes := #[45] }) 45 (fun t35 w =>
  k2 t35 w) w)
  (k2 t29 w) ()) w) w) (fun t11 w =>
  OpX Try.prog (Op.fieldAddr 54 (Operand.const t9) 2) 0 (fun t36 w =>
  OpX Try.prog (Op.load 45 (Operand.const t36)) 45 (fun t37 w =>
  OpX Try.prog (Op.call { callee := Callee.builtin Builtin.append, args := #[Operand.const t37, Operand.const t11], argTypes := #[45, 45] }) 45 (fun t39 w =>
  OpX Try.prog (Op.fieldAddr 54 (Operand.const t9) 2) 0 (fun t40 w =>
  OpX Try.prog (Op.store 45 (Operand.const t40) (Operand.const t39)) 0 (fun _ w =>
  BinX Try.prog BinOp.add 3 t10 (Value.int IntKind.i64 1) (fun t19 w =>
  next1 t19 w) w) w) w) w) w) w) w) w) w) w) w)
  (OpX Try.prog (Op.load 54 (Operand.const t9)) 54 (fun t41 w =>
  OpX Try.prog (Op.store 54 (Operand.const t8) (Operand.const t41)) 0 (fun _ w =>
  LdR Try.prog 54 t8 (fun t8_1 w =>
  K t8_1 w) w) w) w) ()) w) w) w) w) w) w
theorem lyceumref06_all_link (p0 p1 p2 p3 : Value) {R : Value → World → Prop} {w : World} (h : ∀ K : Value → World → Prop, (∀ v w', R v w' → K v w') → lyceumref06_all p0 p1 p2 p3 K w) : Calls Try.prog 108 #[p0, p1, p2, p3] w (retK R) :=
  calls_of_def [p0, p1, p2, p3] [(8, [10]), (19, [11])] mixed Try.func108 (by kernel_rfl) (by kernel_rfl) (by kernel_rfl) (X := lyceumref06_all p0 p1 p2 p3 R w) (by kernel_rfl) (h R fun _ _ h => h)
theorem lyceumref06_all_b : Bodied Try.prog 108 := ⟨_, Try.func108, by kernel_rfl, by kernel_rfl⟩

/- lyceum/lyceumlaw06.GridBeside -/
def lyceumlaw06_GridBeside (p0 p1 p2 : Value) (K : Value → World → Prop) (w : World) : Prop :=
  OpX Try.prog (Op.box 62 (Operand.const p0)) 0 (fun t3 w =>
  OpX Try.prog (Op.box 63 (Operand.const p1)) 0 (fun t4 w =>
  OpX Try.prog (Op.call { callee := Callee.value (Operand.func 43), args := #[], argTypes := #[] }) 4 (fun t17 w =>
  OpX Try.prog (Op.load 62 (Operand.const t3)) 62 (fun t18 w =>
  OpX Try.prog (Op.call { callee := Callee.value (Operand.func 44), args := #[Operand.const t18], argTypes := #[62] }) 54 (fun t19 w =>
  OpX Try.prog (Op.alloc 54) 0 (fun t8 w =>
  OpX Try.prog (Op.store 54 (Operand.const t8) (Operand.const t19)) 0 (fun _ w =>
  OpX Try.prog (Op.indexAddr 63 (Operand.const t4) (Operand.const (Value.int IntKind.i64 0))) 0 (fun t20 w =>
  OpX Try.prog (Op.load 3 (Operand.const t20)) 3 (fun t21 w =>
  BinX Try.prog BinOp.and 3 t21 (Value.int IntKind.i64 31) (fun t22 w =>
  BinX Try.prog BinOp.sub 3 t22 (Value.int IntKind.i64 8) (fun t23 w =>
  OpX Try.prog (Op.indexAddr 63 (Operand.const t4) (Operand.const (Value.int IntKind.i64 1))) 0 (fun t24 w =>
  OpX Try.prog (Op.load 3 (Operand.const t24)) 3 (fun t25 w =>
  BinX Try.prog BinOp.and 3 t25 (Value.int IntKind.i64 31) (fun t26 w =>
  BinX Try.prog BinOp.sub 3 t26 (Value.int IntKind.i64 8) (fun t27 w =>
  OpX Try.prog (Op.indexAddr 63 (Operand.const t4) (Operand.const (Value.int IntKind.i64 2))) 0 (fun t28 w =>
  OpX Try.prog (Op.load 3 (Operand.const t28)) 3 (fun t29 w =>
  BinX Try.prog BinOp.and 3 t29 (Value.int IntKind.i64 31) (fun t30 w =>
  BinX Try.prog BinOp.sub 3 t30 (Value.int IntKind.i64 8) (fun t31 w =>
  OpX Try.prog (Op.indexAddr 63 (Operand.const t4) (Operand.const (Value.int IntKind.i64 3))) 0 (fun t32 w =>
  OpX Try.prog (Op.load 3 (Operand.const t32)) 3 (fun t33 w =>
  BinX Try.prog BinOp.and 3 t33 (Value.int IntKind.i64 31) (fun t34 w =>
  BinX Try.prog BinOp.sub 3 t34 (Value.int IntKind.i64 8) (fun t35 w =>
  OpX Try.prog (Op.build 66 #[(0, Operand.const t23), (1, Operand.const t27), (2, Operand.const t31), (3, Operand.const t35)]) 66 (fun t36 w =>
  OpX Try.prog (Op.alloc 66) 0 (fun t9 w =>
  OpX Try.prog (Op.store 66 (Operand.const t9) (Operand.const t36)) 0 (fun _ w =>
  Join1 (fun k1 w =>
  RdX Try.prog (Op.load 54 (Operand.const t8)) 54 (fun t37 =>
  RdX Try.prog (Op.load 66 (Operand.const t9)) 66 (fun t38 =>
  (OpX Try.prog (Op.call { callee := Callee.value (Operand.func 46), args := #[Operand.const p2], argTypes := #[3] }) 44 (fun t40 w =>
  (Yld Try.prog (Op.load 66 (Operand.const t9)) 66 t38 w) ∧ ((Yld Try.prog (Op.load 54 (Operand.const t8)) 54 t37 w) ∧ ((OpX Try.prog (Op.call { callee := Callee.value (Operand.func 45), args := #[Operand.const t37, Operand.const t38, Operand.const t40], argTypes := #[54, 66, 44] }) 54 (fun t41 w =>
  OpX Try.prog (Op.alloc 54) 0 (fun t10 w =>
  OpX Try.prog (Op.store 54 (Operand.const t10) (Operand.const t41)) 0 (fun _ w =>
  k1 t10 w) w) w) w) ∧ (OpX Try.prog (Op.alloc 54) 0 (fun t10_1 w =>
  (Yld Try.prog (Op.load 66 (Operand.const t9)) 66 t38 w) ∧ ((Yld Try.prog (Op.load 54 (Operand.const t8)) 54 t37 w) ∧ (OpX Try.prog (Op.call { callee := Callee.value (Operand.func 45), args := #[Operand.const t37, Operand.const t38, Operand.const t40], argTypes := #[54, 66, 44] }) 54 (fun t41_1 w =>
  OpX Try.prog (Op.store 54 (Operand.const t10_1) (Operand.const t41_1)) 0 (fun _ w =>
  k1 t10_1 w) w) w))) w)))) w) ∧ (OpX Try.prog (Op.alloc 54) 0 (fun t10_2 w =>
  (Yld Try.prog (Op.load 66 (Operand.const t9)) 66 t38 w) ∧ ((Yld Try.prog (Op.load 54 (Operand.const t8)) 54 t37 w) ∧ (OpX Try.prog (Op.call { callee := Callee.value (Operand.func 46), args := #[Operand.const p2], argTypes := #[3] }) 44 (fun t40_1 w =>
  (Yld Try.prog (Op.load 66 (Operand.const t9)) 66 t38 w) ∧ ((Yld Try.prog (Op.load 54 (Operand.const t8)) 54 t37 w) ∧ (OpX Try.prog (Op.call { callee := Callee.value (Operand.func 45), args := #[Operand.const t37, Operand.const t38, Operand.const t40_1], argTypes := #[54, 66, 44] }) 54 (fun t41_2 w =>
  OpX Try.prog (Op.store 54 (Operand.const t10_2) (Operand.const t41_2)) 0 (fun _ w =>
  k1 t10_2 w) w) w))) w))) w)) w) w) (fun t10_3 w =>
  Join1 (fun k2 w =>
  OpX Try.prog (Op.fieldAddr 54 (Operand.const t10_3) 0) 0 (fun t42 w =>
  OpX Try.prog (Op.load 3 (Operand.const t42)) 3 (fun t43 w =>
  OpX Try.prog (Op.fieldAddr 54 (Operand.const t8) 0) 0 (fun t44 w =>
  OpX Try.prog (Op.load 3 (Operand.const t44)) 3 (fun t45 w =>
  BinX Try.prog BinOp.neq 3 t43 t45 (fun t46 w =>
  BrW t46
  (k2 (Value.bool true) w)
  (OpX Try.prog (Op.fieldAddr 54 (Operand.const t10_3) 1) 0 (fun t48 w =>
  OpX Try.prog (Op.load 3 (Operand.const t48)) 3 (fun t49 w =>
  OpX Try.prog (Op.fieldAddr 54 (Operand.const t8) 1) 0 (fun t50 w =>
  OpX Try.prog (Op.load 3 (Operand.const t50)) 3 (fun t51 w =>
  BinX Try.prog BinOp.neq 3 t49 t51 (fun t52 w =>
  BrW t52
  (k2 (Value.bool true) w)
  (OpX Try.prog (Op.fieldAddr 54 (Operand.const t10_3) 2) 0 (fun t55 w =>
  OpX Try.prog (Op.load 45 (Operand.const t55)) 45 (fun t56 w =>
  OpX Try.prog (Op.call { callee := Callee.builtin Builtin.len, args := #[Operand.const t56], argTypes := #[45] }) 3 (fun t57 w =>
  OpX Try.prog (Op.fieldAddr 54 (Operand.const t8) 2) 0 (fun t58 w =>
  OpX Try.prog (Op.load 45 (Operand.const t58)) 45 (fun t59 w =>
  OpX Try.prog (Op.call { callee := Callee.builtin Builtin.len, args := #[Operand.const t59], argTypes := #[45] }) 3 (fun t60 w =>
  BinX Try.prog BinOp.neq 3 t57 t60 (fun t61 w =>
  k2 t61 w) w) w) w) w) w) w) w) ()) w) w) w) w) w) ()) w) w) w) w) w) (fun t62 w =>
  BrW t62
  (K (Value.bool false) w)
  (Loop1 (Value.int IntKind.i64 0) (fun t11 next3 w =>
  OpX Try.prog (Op.fieldAddr 54 (Operand.const t8) 1) 0 (fun t64 w =>
  OpX Try.prog (Op.load 3 (Operand.const t64)) 3 (fun t65 w =>
  BinX Try.prog BinOp.lss 3 t11 t65 (fun t66 w =>
  BrW t66
  (Loop1 (Value.int IntKind.i64 0) (fun t12 next4 w =>
  OpX Try.prog (Op.fieldAddr 54 (Operand.const t8) 0) 0 (fun t70 w =>
  OpX Try.prog (Op.load 3 (Operand.const t70)) 3 (fun t71 w =>
  BinX Try.prog BinOp.lss 3 t12 t71 (fun t72 w =>
  BrW t72
  (Join1 (fun k5 w =>
  OpX Try.prog (Op.fieldAddr 66 (Operand.const t9) 0) 0 (fun t76 w =>
  OpX Try.prog (Op.load 3 (Operand.const t76)) 3 (fun t77 w =>
  BinX Try.prog BinOp.geq 3 t12 t77 (fun t78 w =>
  BrW t78
  (OpX Try.prog (Op.fieldAddr 66 (Operand.const t9) 0) 0 (fun t81 w =>
  OpX Try.prog (Op.load 3 (Operand.const t81)) 3 (fun t82 w =>
  OpX Try.prog (Op.fieldAddr 66 (Operand.const t9) 2) 0 (fun t83 w =>
  OpX Try.prog (Op.load 3 (Operand.const t83)) 3 (fun t84 w =>
  BinX Try.prog BinOp.add 3 t82 t84 (fun t85 w =>
  BinX Try.prog BinOp.lss 3 t12 t85 (fun t86 w =>
  BrW t86
  (OpX Try.prog (Op.fieldAddr 66 (Operand.const t9) 1) 0 (fun t90 w =>
  OpX Try.prog (Op.load 3 (Operand.const t90)) 3 (fun t91 w =>
  BinX Try.prog BinOp.geq 3 t11 t91 (fun t92 w =>
  BrW t92
  (OpX Try.prog (Op.fieldAddr 66 (Operand.const t9) 1) 0 (fun t96 w =>
  OpX Try.prog (Op.load 3 (Operand.const t96)) 3 (fun t97 w =>
  OpX Try.prog (Op.fieldAddr 66 (Operand.const t9) 3) 0 (fun t98 w =>
  OpX Try.prog (Op.load 3 (Operand.const t98)) 3 (fun t99 w =>
  BinX Try.prog BinOp.add 3 t97 t99 (fun t100 w =>
  BinX Try.prog BinOp.lss 3 t11 t100 (fun t101 w =>
  k5 t101 w) w) w) w) w) w) w)
  (k5 (Value.bool false) w) ()) w) w) w)
  (k5 (Value.bool false) w) ()) w) w) w) w) w) w)
  (k5 (Value.bool false) w) ()) w) w) w) (fun t13 w =>
  OpX Try.prog (Op.fieldAddr 54 (Operand.const t8) 2) 0 (fun t103 w =>
  OpX Try.prog (Op.load 45 (Operand.const t103)) 45 (fun t104 w =>
  OpX Try.prog (Op.fieldAddr 54 (Operand.const t8) 0) 0 (fun t106 w =>
  OpX Try.prog (Op.load 3 (Operand.const t106)) 3 (fun t107 w =>
  BinX Try.prog BinOp.mul 3 t11 t107 (fun t108 w =>
  BinX Try.prog BinOp.add 3 t108 t12 (fun t110 w =>
  OpX Try.prog (Op.indexAddr 45 (Operand.const t104) (Operand.const t110)) 0 (fun t111 w =>
  OpX Try.prog (Op.load 44 (Operand.const t111)) 44 (fun t112 w =>
  OpX Try.prog (Op.alloc 44) 0 (fun t14 w =>
  OpX Try.prog (Op.store 44 (Operand.const t14) (Operand.const t112)) 0 (fun _ w =>
  OpX Try.prog (Op.fieldAddr 54 (Operand.const t10_3) 2) 0 (fun t113 w =>
  OpX Try.prog (Op.load 45 (Operand.const t113)) 45 (fun t114 w =>
  OpX Try.prog (Op.fieldAddr 54 (Operand.const t8) 0) 0 (fun t116 w =>
  OpX Try.prog (Op.load 3 (Operand.const t116)) 3 (fun t117 w =>
  BinX Try.prog BinOp.mul 3 t11 t117 (fun t118 w =>
  BinX Try.prog BinOp.add 3 t118 t12 (fun t120 w =>
  OpX Try.prog (Op.indexAddr 45 (Operand.const t114) (Operand.const t120)) 0 (fun t121 w =>
  OpX Try.prog (Op.load 44 (Operand.const t121)) 44 (fun t122 w =>
  OpX Try.prog (Op.alloc 44) 0 (fun t15 w =>
  OpX Try.prog (Op.store 44 (Operand.const t15) (Operand.const t122)) 0 (fun _ w =>
  Join1 (fun k6 w =>
  OpX Try.prog (Op.fieldAddr 66 (Operand.const t9) 1) 0 (fun t124 w =>
  OpX Try.prog (Op.load 3 (Operand.const t124)) 3 (fun t125 w =>
  BinX Try.prog BinOp.geq 3 t11 t125 (fun t126 w =>
  BrW t126
  (OpX Try.prog (Op.fieldAddr 66 (Operand.const t9) 1) 0 (fun t129 w =>
  OpX Try.prog (Op.load 3 (Operand.const t129)) 3 (fun t130 w =>
  OpX Try.prog (Op.fieldAddr 66 (Operand.const t9) 3) 0 (fun t131 w =>
  OpX Try.prog (Op.load 3 (Operand.const t131)) 3 (fun t132 w =>
  BinX Try.prog BinOp.add 3 t130 t132 (fun t133 w =>
  BinX Try.prog BinOp.lss 3 t11 t133 (fun t134 w =>
  BrW t134
  (OpX Try.prog (Op.fieldAddr 44 (Operand.const t14) 3) 0 (fun t137 w =>
  OpX Try.prog (Op.load 5 (Operand.const t137)) 5 (fun t138 w =>
  BinX Try.prog BinOp.geq 5 t138 (Value.int IntKind.u8 64) (fun t139 w =>
  BrW t139
  (OpX Try.prog (Op.fieldAddr 66 (Operand.const t9) 0) 0 (fun t143 w =>
  OpX Try.prog (Op.load 3 (Operand.const t143)) 3 (fun t144 w =>
  BinX Try.prog BinOp.sub 3 t144 (Value.int IntKind.i64 1) (fun t145 w =>
  BinX Try.prog BinOp.eql 3 t12 t145 (fun t146 w =>
  BrW t146
  (k6 (Value.bool true) w)
  (OpX Try.prog (Op.fieldAddr 66 (Operand.const t9) 0) 0 (fun t149 w =>
  OpX Try.prog (Op.load 3 (Operand.const t149)) 3 (fun t150 w =>
  OpX Try.prog (Op.fieldAddr 66 (Operand.const t9) 2) 0 (fun t151 w =>
  OpX Try.prog (Op.load 3 (Operand.const t151)) 3 (fun t152 w =>
  BinX Try.prog BinOp.add 3 t150 t152 (fun t153 w =>
  BinX Try.prog BinOp.eql 3 t12 t153 (fun t154 w =>
  k6 t154 w) w) w) w) w) w) w) ()) w) w) w) w)
  (k6 (Value.bool false) w) ()) w) w) w)
  (k6 (Value.bool false) w) ()) w) w) w) w) w) w)
  (k6 (Value.bool false) w) ()) w) w) w) (fun t16 w =>
  Join1 (fun k7 w =>
  BrW t13
  (RdX Try.prog (Op.load 44 (Operand.const t15)) 44 (fun t159 =>
  OpX Try.prog (Op.call { callee := Callee.value (Operand.func 46), args := #[Operand.const p2], argTypes := #[3] }) 44 (fun t161 w =>
  (Yld Try.prog (Op.load 44 (Operand.const t15)) 44 t159 w) ∧ (RdB Try.prog BinOp.neq 44 t159 t161 (fun t162 =>
  BrW t162
  (k7 (Value.bool true) w)
  (PurX Try.prog (Op.unOp UnOp.not 4 (Operand.const t13)) 4 (fun t166 =>
  BrW t166
  (RdX Try.prog (Op.load 44 (Operand.const t14)) 44 (fun t168 =>
  RdX Try.prog (Op.load 44 (Operand.const t15)) 44 (fun t169 =>
  RdB Try.prog BinOp.neq 44 t168 t169 (fun t170 =>
  BrW t170
  (PurX Try.prog (Op.unOp UnOp.not 4 (Operand.const t16)) 4 (fun t174 =>
  k7 t174 w) ())
  (k7 (Value.bool false) w) ()) w) w) w)
  (k7 (Value.bool false) w) ()) ()) ()) w)) w) w)
  (PurX Try.prog (Op.unOp UnOp.not 4 (Operand.const t13)) 4 (fun t166_1 =>
  BrW t166_1
  (RdX Try.prog (Op.load 44 (Operand.const t14)) 44 (fun t168_1 =>
  RdX Try.prog (Op.load 44 (Operand.const t15)) 44 (fun t169_1 =>
  RdB Try.prog BinOp.neq 44 t168_1 t169_1 (fun t170_1 =>
  BrW t170_1
  (PurX Try.prog (Op.unOp UnOp.not 4 (Operand.const t16)) 4 (fun t174_1 =>
  k7 t174_1 w) ())
  (k7 (Value.bool false) w) ()) w) w) w)
  (k7 (Value.bool false) w) ()) ()) ()) (fun t176 w =>
  BrW t176
  (K (Value.bool false) w)
  (BinX Try.prog BinOp.add 3 t12 (Value.int IntKind.i64 1) (fun t74 w =>
  next4 t74 w) w) ()) w.drew) w) w) w) w) w) w) w) w) w) w) w) w) w) w) w) w) w) w) w) w) w) w)
  (BinX Try.prog BinOp.add 3 t11 (Value.int IntKind.i64 1) (fun t68 w =>
  next3 t68 w) w) ()) w) w) w) w)
  (K t17 w) ()) w) w) w) w) ()) w) w.drew) w) w) w) w) w) w) w) w) w) w) w) w) w) w) w) w) w) w) w) w) w) w) w) w) w) w
theorem lyceumlaw06_GridBeside_link (p0 p1 p2 : Value) {R : Value → World → Prop} {w : World} (h : ∀ K : Value → World → Prop, (∀ v w', R v w' → K v w') → lyceumlaw06_GridBeside p0 p1 p2 K w) : Calls Try.prog 10 #[p0, p1, p2] w (retK R) :=
  calls_of_def [p0, p1, p2] [(9, [10]), (12, [62]), (22, [11]), (34, [12]), (44, [13]), (50, [16]), (52, [176])] mixed Try.func10 (by kernel_rfl) (by kernel_rfl) (by kernel_rfl) (X := lyceumlaw06_GridBeside p0 p1 p2 R w) (by kernel_rfl) (h R fun _ _ h => h)
theorem lyceumlaw06_GridBeside_b : Bodied Try.prog 10 := ⟨_, Try.func10, by kernel_rfl, by kernel_rfl⟩

/- lyceum/lyceumlaw06.GridScrolls -/
def lyceumlaw06_GridScrolls (p0 p1 : Value) (K : Value → World → Prop) (w : World) : Prop :=
  OpX Try.prog (Op.box 62 (Operand.const p0)) 0 (fun t2 w =>
  OpX Try.prog (Op.box 70 (Operand.const p1)) 0 (fun t3 w =>
  OpX Try.prog (Op.call { callee := Callee.value (Operand.func 43), args := #[], argTypes := #[] }) 4 (fun t19 w =>
  OpX Try.prog (Op.load 62 (Operand.const t2)) 62 (fun t20 w =>
  OpX Try.prog (Op.call { callee := Callee.value (Operand.func 44), args := #[Operand.const t20], argTypes := #[62] }) 54 (fun t21 w =>
  OpX Try.prog (Op.alloc 54) 0 (fun t6 w =>
  OpX Try.prog (Op.store 54 (Operand.const t6) (Operand.const t21)) 0 (fun _ w =>
  OpX Try.prog (Op.indexAddr 70 (Operand.const t3) (Operand.const (Value.int IntKind.i64 0))) 0 (fun t22 w =>
  OpX Try.prog (Op.load 3 (Operand.const t22)) 3 (fun t23 w =>
  BinX Try.prog BinOp.and 3 t23 (Value.int IntKind.i64 7) (fun t24 w =>
  OpX Try.prog (Op.indexAddr 70 (Operand.const t3) (Operand.const (Value.int IntKind.i64 1))) 0 (fun t25 w =>
  OpX Try.prog (Op.load 3 (Operand.const t25)) 3 (fun t26 w =>
  BinX Try.prog BinOp.and 3 t26 (Value.int IntKind.i64 7) (fun t27 w =>
  OpX Try.prog (Op.indexAddr 70 (Operand.const t3) (Operand.const (Value.int IntKind.i64 2))) 0 (fun t28 w =>
  OpX Try.prog (Op.load 3 (Operand.const t28)) 3 (fun t29 w =>
  BinX Try.prog BinOp.and 3 t29 (Value.int IntKind.i64 7) (fun t30 w =>
  OpX Try.prog (Op.build 44 #[(0, Operand.const (Value.int IntKind.i32 95))]) 44 (fun t31 w =>
  OpX Try.prog (Op.alloc 44) 0 (fun t10 w =>
  OpX Try.prog (Op.store 44 (Operand.const t10) (Operand.const t31)) 0 (fun _ w =>
  OpX Try.prog (Op.load 54 (Operand.const t6)) 54 (fun t32 w =>
  OpX Try.prog (Op.load 44 (Operand.const t10)) 44 (fun t36 w =>
  OpX Try.prog (Op.call { callee := Callee.value (Operand.func 47), args := #[Operand.const t32, Operand.const t24, Operand.const t27, Operand.const t30, Operand.const t36], argTypes := #[54, 3, 3, 3, 44] }) 54 (fun t37 w =>
  OpX Try.prog (Op.alloc 54) 0 (fun t11 w =>
  OpX Try.prog (Op.store 54 (Operand.const t11) (Operand.const t37)) 0 (fun _ w =>
  OpX Try.prog (Op.load 54 (Operand.const t11)) 54 (fun t38 w =>
  OpX Try.prog (Op.unOp UnOp.neg 3 (Operand.const t30)) 3 (fun t42 w =>
  OpX Try.prog (Op.load 44 (Operand.const t10)) 44 (fun t43 w =>
  OpX Try.prog (Op.call { callee := Callee.value (Operand.func 47), args := #[Operand.const t38, Operand.const t24, Operand.const t27, Operand.const t42, Operand.const t43], argTypes := #[54, 3, 3, 3, 44] }) 54 (fun t44 w =>
  OpX Try.prog (Op.alloc 54) 0 (fun t12 w =>
  OpX Try.prog (Op.store 54 (Operand.const t12) (Operand.const t44)) 0 (fun _ w =>
  Join1 (fun k1 w =>
  OpX Try.prog (Op.fieldAddr 54 (Operand.const t12) 0) 0 (fun t45 w =>
  OpX Try.prog (Op.load 3 (Operand.const t45)) 3 (fun t46 w =>
  OpX Try.prog (Op.fieldAddr 54 (Operand.const t6) 0) 0 (fun t47 w =>
  OpX Try.prog (Op.load 3 (Operand.const t47)) 3 (fun t48 w =>
  BinX Try.prog BinOp.neq 3 t46 t48 (fun t49 w =>
  BrW t49
  (k1 (Value.bool true) w)
  (OpX Try.prog (Op.fieldAddr 54 (Operand.const t12) 1) 0 (fun t51 w =>
  OpX Try.prog (Op.load 3 (Operand.const t51)) 3 (fun t52 w =>
  OpX Try.prog (Op.fieldAddr 54 (Operand.const t6) 1) 0 (fun t53 w =>
  OpX Try.prog (Op.load 3 (Operand.const t53)) 3 (fun t54 w =>
  BinX Try.prog BinOp.neq 3 t52 t54 (fun t55 w =>
  BrW t55
  (k1 (Value.bool true) w)
  (OpX Try.prog (Op.fieldAddr 54 (Operand.const t12) 2) 0 (fun t58 w =>
  OpX Try.prog (Op.load 45 (Operand.const t58)) 45 (fun t59 w =>
  OpX Try.prog (Op.call { callee := Callee.builtin Builtin.len, args := #[Operand.const t59], argTypes := #[45] }) 3 (fun t60 w =>
  OpX Try.prog (Op.fieldAddr 54 (Operand.const t6) 2) 0 (fun t61 w =>
  OpX Try.prog (Op.load 45 (Operand.const t61)) 45 (fun t62 w =>
  OpX Try.prog (Op.call { callee := Callee.builtin Builtin.len, args := #[Operand.const t62], argTypes := #[45] }) 3 (fun t63 w =>
  BinX Try.prog BinOp.neq 3 t60 t63 (fun t64 w =>
  BrW t64
  (k1 (Value.bool true) w)
  (OpX Try.prog (Op.fieldAddr 54 (Operand.const t11) 2) 0 (fun t67 w =>
  OpX Try.prog (Op.load 45 (Operand.const t67)) 45 (fun t68 w =>
  OpX Try.prog (Op.call { callee := Callee.builtin Builtin.len, args := #[Operand.const t68], argTypes := #[45] }) 3 (fun t69 w =>
  OpX Try.prog (Op.fieldAddr 54 (Operand.const t6) 2) 0 (fun t70 w =>
  OpX Try.prog (Op.load 45 (Operand.const t70)) 45 (fun t71 w =>
  OpX Try.prog (Op.call { callee := Callee.builtin Builtin.len, args := #[Operand.const t71], argTypes := #[45] }) 3 (fun t72 w =>
  BinX Try.prog BinOp.neq 3 t69 t72 (fun t73 w =>
  k1 t73 w) w) w) w) w) w) w) w) ()) w) w) w) w) w) w) w) ()) w) w) w) w) w) ()) w) w) w) w) w) (fun t74 w =>
  BrW t74
  (K (Value.bool false) w)
  (OpX Try.prog (Op.fieldAddr 54 (Operand.const t6) 1) 0 (fun t76 w =>
  OpX Try.prog (Op.load 3 (Operand.const t76)) 3 (fun t77 w =>
  OpX Try.prog (Op.call { callee := Callee.builtin Builtin.min, args := #[Operand.const t27, Operand.const t77], argTypes := #[3, 3] }) 3 (fun t78 w =>
  Loop1 (Value.int IntKind.i64 0) (fun t14 next2 w =>
  OpX Try.prog (Op.fieldAddr 54 (Operand.const t6) 1) 0 (fun t80 w =>
  OpX Try.prog (Op.load 3 (Operand.const t80)) 3 (fun t81 w =>
  BinX Try.prog BinOp.lss 3 t14 t81 (fun t82 w =>
  BrW t82
  (Join1 (fun k3 w =>
  BinX Try.prog BinOp.geq 3 t14 t24 (fun t87 w =>
  BrW t87
  (BinX Try.prog BinOp.lss 3 t14 t78 (fun t91 w =>
  k3 t91 w) w)
  (k3 (Value.bool false) w) ()) w) (fun t15 w =>
  Join1 (fun k4 w =>
  BrW t15
  (BinX Try.prog BinOp.add 3 t24 t30 (fun t98 w =>
  BinX Try.prog BinOp.lss 3 t14 t98 (fun t99 w =>
  k4 t99 w) w) w)
  (k4 (Value.bool false) w) ()) (fun t16 w =>
  Loop1 (Value.int IntKind.i64 0) (fun t17 next5 w =>
  OpX Try.prog (Op.fieldAddr 54 (Operand.const t6) 0) 0 (fun t102 w =>
  OpX Try.prog (Op.load 3 (Operand.const t102)) 3 (fun t103 w =>
  BinX Try.prog BinOp.lss 3 t17 t103 (fun t104 w =>
  BrW t104
  (OpX Try.prog (Op.fieldAddr 54 (Operand.const t6) 2) 0 (fun t107 w =>
  OpX Try.prog (Op.load 45 (Operand.const t107)) 45 (fun t108 w =>
  OpX Try.prog (Op.fieldAddr 54 (Operand.const t6) 0) 0 (fun t110 w =>
  OpX Try.prog (Op.load 3 (Operand.const t110)) 3 (fun t111 w =>
  BinX Try.prog BinOp.mul 3 t14 t111 (fun t112 w =>
  BinX Try.prog BinOp.add 3 t112 t17 (fun t114 w =>
  OpX Try.prog (Op.indexAddr 45 (Operand.const t108) (Operand.const t114)) 0 (fun t115 w =>
  OpX Try.prog (Op.load 44 (Operand.const t115)) 44 (fun t116 w =>
  OpX Try.prog (Op.alloc 44) 0 (fun t18 w =>
  OpX Try.prog (Op.store 44 (Operand.const t18) (Operand.const t116)) 0 (fun _ w =>
  Join0 (fun k6 w =>
  BrW t16
  (OpX Try.prog (Op.load 44 (Operand.const t10)) 44 (fun t118 w =>
  OpX Try.prog (Op.store 44 (Operand.const t18) (Operand.const t118)) 0 (fun _ w =>
  k6 w) w) w)
  (k6 w) ()) (fun w =>
  DrewW (fun w =>
  PurX Try.prog (Op.fieldAddr 54 (Operand.const t12) 2) 0 (fun t119 =>
  RdX Try.prog (Op.load 45 (Operand.const t119)) 45 (fun t120 =>
  PurX Try.prog (Op.fieldAddr 54 (Operand.const t6) 0) 0 (fun t122 =>
  RdX Try.prog (Op.load 3 (Operand.const t122)) 3 (fun t123 =>
  PurB Try.prog BinOp.mul 3 t14 t123 (fun t124 =>
  PurB Try.prog BinOp.add 3 t124 t17 (fun t126 =>
  PurX Try.prog (Op.indexAddr 45 (Operand.const t120) (Operand.const t126)) 0 (fun t127 =>
  RdX Try.prog (Op.load 44 (Operand.const t127)) 44 (fun t128 =>
  RdX Try.prog (Op.load 44 (Operand.const t18)) 44 (fun t129 =>
  RdB Try.prog BinOp.neq 44 t128 t129 (fun t130 =>
  BrW t130
  (K (Value.bool false) w)
  (Join1 (fun k7 w =>
  BrW t15
  (PurB Try.prog BinOp.add 3 t14 t30 (fun t135 =>
  PurB Try.prog BinOp.lss 3 t135 t78 (fun t137 =>
  BrW t137
  (PurX Try.prog (Op.fieldAddr 54 (Operand.const t11) 2) 0 (fun t140 =>
  RdX Try.prog (Op.load 45 (Operand.const t140)) 45 (fun t141 =>
  PurX Try.prog (Op.fieldAddr 54 (Operand.const t6) 0) 0 (fun t143 =>
  RdX Try.prog (Op.load 3 (Operand.const t143)) 3 (fun t144 =>
  PurB Try.prog BinOp.mul 3 t14 t144 (fun t145 =>
  PurB Try.prog BinOp.add 3 t145 t17 (fun t147 =>
  PurX Try.prog (Op.indexAddr 45 (Operand.const t141) (Operand.const t147)) 0 (fun t148 =>
  RdX Try.prog (Op.load 44 (Operand.const t148)) 44 (fun t149 =>
  PurX Try.prog (Op.fieldAddr 54 (Operand.const t6) 2) 0 (fun t150 =>
  RdX Try.prog (Op.load 45 (Operand.const t150)) 45 (fun t151 =>
  PurB Try.prog BinOp.add 3 t14 t30 (fun t154 =>
  PurX Try.prog (Op.fieldAddr 54 (Operand.const t6) 0) 0 (fun t155 =>
  RdX Try.prog (Op.load 3 (Operand.const t155)) 3 (fun t156 =>
  PurB Try.prog BinOp.mul 3 t154 t156 (fun t157 =>
  PurB Try.prog BinOp.add 3 t157 t17 (fun t159 =>
  PurX Try.prog (Op.indexAddr 45 (Operand.const t151) (Operand.const t159)) 0 (fun t160 =>
  RdX Try.prog (Op.load 44 (Operand.const t160)) 44 (fun t161 =>
  RdB Try.prog BinOp.neq 44 t149 t161 (fun t162 =>
  BrW t162
  (k7 (Value.bool true) w)
  (BrW t15
  (PurB Try.prog BinOp.add 3 t14 t30 (fun t169 =>
  PurB Try.prog BinOp.geq 3 t169 t78 (fun t171 =>
  BrW t171
  (PurX Try.prog (Op.fieldAddr 54 (Operand.const t11) 2) 0 (fun t174 =>
  RdX Try.prog (Op.load 45 (Operand.const t174)) 45 (fun t175 =>
  PurX Try.prog (Op.fieldAddr 54 (Operand.const t6) 0) 0 (fun t177 =>
  RdX Try.prog (Op.load 3 (Operand.const t177)) 3 (fun t178 =>
  PurB Try.prog BinOp.mul 3 t14 t178 (fun t179 =>
  PurB Try.prog BinOp.add 3 t179 t17 (fun t181 =>
  PurX Try.prog (Op.indexAddr 45 (Operand.const t175) (Operand.const t181)) 0 (fun t182 =>
  RdX Try.prog (Op.load 44 (Operand.const t182)) 44 (fun t183 =>
  RdX Try.prog (Op.load 44 (Operand.const t10)) 44 (fun t184 =>
  RdB Try.prog BinOp.neq 44 t183 t184 (fun t185 =>
  k7 t185 w) w) w) w) ()) ()) ()) w) ()) w) ())
  (k7 (Value.bool false) w) ()) ()) ())
  (k7 (Value.bool false) w) ()) ()) w) w) ()) ()) ()) w) ()) ()) w) ()) w) ()) ()) ()) w) ()) w) ())
  (BrW t15
  (PurB Try.prog BinOp.add 3 t14 t30 (fun t169_1 =>
  PurB Try.prog BinOp.geq 3 t169_1 t78 (fun t171_1 =>
  BrW t171_1
  (PurX Try.prog (Op.fieldAddr 54 (Operand.const t11) 2) 0 (fun t174_1 =>
  RdX Try.prog (Op.load 45 (Operand.const t174_1)) 45 (fun t175_1 =>
  PurX Try.prog (Op.fieldAddr 54 (Operand.const t6) 0) 0 (fun t177_1 =>
  RdX Try.prog (Op.load 3 (Operand.const t177_1)) 3 (fun t178_1 =>
  PurB Try.prog BinOp.mul 3 t14 t178_1 (fun t179_1 =>
  PurB Try.prog BinOp.add 3 t179_1 t17 (fun t181_1 =>
  PurX Try.prog (Op.indexAddr 45 (Operand.const t175_1) (Operand.const t181_1)) 0 (fun t182_1 =>
  RdX Try.prog (Op.load 44 (Operand.const t182_1)) 44 (fun t183_1 =>
  RdX Try.prog (Op.load 44 (Operand.const t10)) 44 (fun t184_1 =>
  RdB Try.prog BinOp.neq 44 t183_1 t184_1 (fun t185_1 =>
  k7 t185_1 w) w) w) w) ()) ()) ()) w) ()) w) ())
  (k7 (Value.bool false) w) ()) ()) ())
  (k7 (Value.bool false) w) ()) ()) ()) ())
  (BrW t15
  (PurB Try.prog BinOp.add 3 t14 t30 (fun t169_2 =>
  PurB Try.prog BinOp.geq 3 t169_2 t78 (fun t171_2 =>
  BrW t171_2
  (PurX Try.prog (Op.fieldAddr 54 (Operand.const t11) 2) 0 (fun t174_2 =>
  RdX Try.prog (Op.load 45 (Operand.const t174_2)) 45 (fun t175_2 =>
  PurX Try.prog (Op.fieldAddr 54 (Operand.const t6) 0) 0 (fun t177_2 =>
  RdX Try.prog (Op.load 3 (Operand.const t177_2)) 3 (fun t178_2 =>
  PurB Try.prog BinOp.mul 3 t14 t178_2 (fun t179_2 =>
  PurB Try.prog BinOp.add 3 t179_2 t17 (fun t181_2 =>
  PurX Try.prog (Op.indexAddr 45 (Operand.const t175_2) (Operand.const t181_2)) 0 (fun t182_2 =>
  RdX Try.prog (Op.load 44 (Operand.const t182_2)) 44 (fun t183_2 =>
  RdX Try.prog (Op.load 44 (Operand.const t10)) 44 (fun t184_2 =>
  RdB Try.prog BinOp.neq 44 t183_2 t184_2 (fun t185_2 =>
  k7 t185_2 w) w) w) w) ()) ()) ()) w) ()) w) ())
  (k7 (Value.bool false) w) ()) ()) ())
  (k7 (Value.bool false) w) ()) ()) (fun t187 w =>
  BrW t187
  (K (Value.bool false) w)
  (BinX Try.prog BinOp.add 3 t17 (Value.int IntKind.i64 1) (fun t106 w =>
  next5 t106 w) w) ()) w.drew) ()) w) w) w) ()) ()) ()) w) ()) w) ()) w) w) w) w) w) w) w) w) w) w) w) w)
  (BinX Try.prog BinOp.add 3 t14 (Value.int IntKind.i64 1) (fun t84 w =>
  next2 t84 w) w) ()) w) w) w) w) w) w)
  (K t19 w) ()) w) w) w) w) w) w) w) ()) w) w) w) w) w) w) w) w) w) w) w) w) w) w) w) w) w) w) w) w) w) w) w) w) w) w) w) w) w) w) w
theorem lyceumlaw06_GridScrolls_link (p0 p1 : Value) {R : Value → World → Prop} {w : World} (h : ∀ K : Value → World → Prop, (∀ v w', R v w' → K v w') → lyceumlaw06_GridScrolls p0 p1 K w) : Calls Try.prog 11 #[p0, p1] w (retK R) :=
  calls_of_def [p0, p1] [(20, [74]), (32, [14]), (42, [15]), (44, [16]), (48, [17]), (59, []), (74, [187])] mixed Try.func11 (by kernel_rfl) (by kernel_rfl) (by kernel_rfl) (X := lyceumlaw06_GridScrolls p0 p1 R w) (by kernel_rfl) (h R fun _ _ h => h)
theorem lyceumlaw06_GridScrolls_b : Bodied Try.prog 11 := ⟨_, Try.func11, by kernel_rfl, by kernel_rfl⟩

/- lyceum/lyceumlaw06.GridLays -/
def lyceumlaw06_GridLays (p0 p1 p2 : Value) (K : Value → World → Prop) (w : World) : Prop :=
  OpX Try.prog (Op.box 62 (Operand.const p0)) 0 (fun t3 w =>
  OpX Try.prog (Op.box 62 (Operand.const p1)) 0 (fun t4 w =>
  OpX Try.prog (Op.box 73 (Operand.const p2)) 0 (fun t5 w =>
  OpX Try.prog (Op.call { callee := Callee.value (Operand.func 43), args := #[], argTypes := #[] }) 4 (fun t18 w =>
  OpX Try.prog (Op.fieldAddr 62 (Operand.const t3) 0) 0 (fun t19 w =>
  OpX Try.prog (Op.load 3 (Operand.const t19)) 3 (fun t20 w =>
  OpX Try.prog (Op.fieldAddr 62 (Operand.const t4) 0) 0 (fun t21 w =>
  OpX Try.prog (Op.store 3 (Operand.const t21) (Operand.const t20)) 0 (fun _ w =>
  OpX Try.prog (Op.fieldAddr 62 (Operand.const t3) 1) 0 (fun t22 w =>
  OpX Try.prog (Op.load 3 (Operand.const t22)) 3 (fun t23 w =>
  OpX Try.prog (Op.fieldAddr 62 (Operand.const t4) 1) 0 (fun t24 w =>
  OpX Try.prog (Op.store 3 (Operand.const t24) (Operand.const t23)) 0 (fun _ w =>
  OpX Try.prog (Op.load 62 (Operand.const t3)) 62 (fun t25 w =>
  OpX Try.prog (Op.call { callee := Callee.value (Operand.func 44), args := #[Operand.const t25], argTypes := #[62] }) 54 (fun t26 w =>
  OpX Try.prog (Op.alloc 54) 0 (fun t8 w =>
  OpX Try.prog (Op.store 54 (Operand.const t8) (Operand.const t26)) 0 (fun _ w =>
  OpX Try.prog (Op.load 62 (Operand.const t4)) 62 (fun t27 w =>
  OpX Try.prog (Op.call { callee := Callee.value (Operand.func 44), args := #[Operand.const t27], argTypes := #[62] }) 54 (fun t28 w =>
  OpX Try.prog (Op.alloc 54) 0 (fun t9 w =>
  OpX Try.prog (Op.store 54 (Operand.const t9) (Operand.const t28)) 0 (fun _ w =>
  OpX Try.prog (Op.load 54 (Operand.const t8)) 54 (fun t29 w =>
  OpX Try.prog (Op.load 54 (Operand.const t9)) 54 (fun t30 w =>
  OpX Try.prog (Op.call { callee := Callee.value (Operand.func 48), args := #[Operand.const t29, Operand.const t30, Operand.const (Value.int IntKind.i64 0), Operand.const (Value.int IntKind.i64 0)], argTypes := #[54, 54, 3, 3] }) 54 (fun t31 w =>
  OpX Try.prog (Op.alloc 54) 0 (fun t10 w =>
  OpX Try.prog (Op.store 54 (Operand.const t10) (Operand.const t31)) 0 (fun _ w =>
  OpX Try.prog (Op.indexAddr 73 (Operand.const t5) (Operand.const (Value.int IntKind.i64 0))) 0 (fun t32 w =>
  OpX Try.prog (Op.load 3 (Operand.const t32)) 3 (fun t33 w =>
  BinX Try.prog BinOp.rem 3 t33 (Value.int IntKind.i64 12) (fun t34 w =>
  BinX Try.prog BinOp.add 3 t34 (Value.int IntKind.i64 12) (fun t35 w =>
  BinX Try.prog BinOp.rem 3 t35 (Value.int IntKind.i64 12) (fun t36 w =>
  BinX Try.prog BinOp.add 3 (Value.int IntKind.i64 1) t36 (fun t37 w =>
  OpX Try.prog (Op.indexAddr 73 (Operand.const t5) (Operand.const (Value.int IntKind.i64 1))) 0 (fun t38 w =>
  OpX Try.prog (Op.load 3 (Operand.const t38)) 3 (fun t39 w =>
  BinX Try.prog BinOp.rem 3 t39 (Value.int IntKind.i64 6) (fun t40 w =>
  BinX Try.prog BinOp.add 3 t40 (Value.int IntKind.i64 6) (fun t41 w =>
  BinX Try.prog BinOp.rem 3 t41 (Value.int IntKind.i64 6) (fun t42 w =>
  BinX Try.prog BinOp.add 3 (Value.int IntKind.i64 1) t42 (fun t43 w =>
  OpX Try.prog (Op.load 54 (Operand.const t8)) 54 (fun t44 w =>
  OpX Try.prog (Op.build 44 #[(0, Operand.const (Value.int IntKind.i32 32))]) 44 (fun t47 w =>
  OpX Try.prog (Op.call { callee := Callee.value (Operand.func 49), args := #[Operand.const t44, Operand.const t37, Operand.const t43, Operand.const t47], argTypes := #[54, 3, 3, 44] }) 54 (fun t48 w =>
  OpX Try.prog (Op.alloc 54) 0 (fun t13 w =>
  OpX Try.prog (Op.store 54 (Operand.const t13) (Operand.const t48)) 0 (fun _ w =>
  Join1 (fun k1 w =>
  OpX Try.prog (Op.load 54 (Operand.const t10)) 54 (fun t49 w =>
  OpX Try.prog (Op.load 54 (Operand.const t9)) 54 (fun t50 w =>
  OpX Try.prog (Op.call { callee := Callee.value (Operand.func 50), args := #[Operand.const t49, Operand.const t50], argTypes := #[54, 54] }) 4 (fun t51 w =>
  OpX Try.prog (Op.unOp UnOp.not 4 (Operand.const t51)) 4 (fun t52 w =>
  BrW t52
  (k1 (Value.bool true) w)
  (OpX Try.prog (Op.fieldAddr 54 (Operand.const t13) 0) 0 (fun t54 w =>
  OpX Try.prog (Op.load 3 (Operand.const t54)) 3 (fun t55 w =>
  BinX Try.prog BinOp.neq 3 t55 t37 (fun t57 w =>
  BrW t57
  (k1 (Value.bool true) w)
  (OpX Try.prog (Op.fieldAddr 54 (Operand.const t13) 1) 0 (fun t60 w =>
  OpX Try.prog (Op.load 3 (Operand.const t60)) 3 (fun t61 w =>
  BinX Try.prog BinOp.neq 3 t61 t43 (fun t63 w =>
  BrW t63
  (k1 (Value.bool true) w)
  (OpX Try.prog (Op.load 54 (Operand.const t13)) 54 (fun t66 w =>
  OpX Try.prog (Op.call { callee := Callee.value (Operand.func 51), args := #[Operand.const t66], argTypes := #[54] }) 4 (fun t67 w =>
  OpX Try.prog (Op.unOp UnOp.not 4 (Operand.const t67)) 4 (fun t68 w =>
  k1 t68 w) w) w) w) ()) w) w) w) ()) w) w) w) ()) w) w) w) w) (fun t69 w =>
  BrW t69
  (K (Value.bool false) w)
  (Loop1 (Value.int IntKind.i64 0) (fun t14 next2 w =>
  OpX Try.prog (Op.fieldAddr 54 (Operand.const t8) 1) 0 (fun t72 w =>
  OpX Try.prog (Op.load 3 (Operand.const t72)) 3 (fun t73 w =>
  OpX Try.prog (Op.call { callee := Callee.builtin Builtin.min, args := #[Operand.const t43, Operand.const t73], argTypes := #[3, 3] }) 3 (fun t74 w =>
  BinX Try.prog BinOp.lss 3 t14 t74 (fun t75 w =>
  BrW t75
  (Loop1 (Value.int IntKind.i64 0) (fun t15 next3 w =>
  OpX Try.prog (Op.fieldAddr 54 (Operand.const t8) 0) 0 (fun t80 w =>
  OpX Try.prog (Op.load 3 (Operand.const t80)) 3 (fun t81 w =>
  OpX Try.prog (Op.call { callee := Callee.builtin Builtin.min, args := #[Operand.const t37, Operand.const t81], argTypes := #[3, 3] }) 3 (fun t82 w =>
  BinX Try.prog BinOp.lss 3 t15 t82 (fun t83 w =>
  BrW t83
  (OpX Try.prog (Op.load 54 (Operand.const t13)) 54 (fun t86 w =>
  OpX Try.prog (Op.call { callee := Callee.value (Operand.func 42), args := #[Operand.const t86, Operand.const t15, Operand.const t14], argTypes := #[54, 3, 3] }) 44 (fun t89 w =>
  OpX Try.prog (Op.alloc 44) 0 (fun t16 w =>
  OpX Try.prog (Op.store 44 (Operand.const t16) (Operand.const t89)) 0 (fun _ w =>
  OpX Try.prog (Op.load 54 (Operand.const t8)) 54 (fun t90 w =>
  OpX Try.prog (Op.call { callee := Callee.value (Operand.func 42), args := #[Operand.const t90, Operand.const t15, Operand.const t14], argTypes := #[54, 3, 3] }) 44 (fun t93 w =>
  OpX Try.prog (Op.alloc 44) 0 (fun t17 w =>
  OpX Try.prog (Op.store 44 (Operand.const t17) (Operand.const t93)) 0 (fun _ w =>
  Join1 (fun k4 w =>
  OpX Try.prog (Op.load 44 (Operand.const t16)) 44 (fun t94 w =>
  OpX Try.prog (Op.load 44 (Operand.const t17)) 44 (fun t95 w =>
  BinX Try.prog BinOp.neq 44 t94 t95 (fun t96 w =>
  BrW t96
  (BinX Try.prog BinOp.sub 3 t37 (Value.int IntKind.i64 1) (fun t100 w =>
  BinX Try.prog BinOp.neq 3 t15 t100 (fun t101 w =>
  BrW t101
  (k4 (Value.bool true) w)
  (OpX Try.prog (Op.fieldAddr 44 (Operand.const t17) 3) 0 (fun t103 w =>
  OpX Try.prog (Op.load 5 (Operand.const t103)) 5 (fun t104 w =>
  BinX Try.prog BinOp.lss 5 t104 (Value.int IntKind.u8 64) (fun t105 w =>
  BrW t105
  (k4 (Value.bool true) w)
  (OpX Try.prog (Op.fieldAddr 44 (Operand.const t16) 0) 0 (fun t108 w =>
  OpX Try.prog (Op.load 21 (Operand.const t108)) 21 (fun t109 w =>
  BinX Try.prog BinOp.neq 21 t109 (Value.int IntKind.i32 32) (fun t110 w =>
  k4 t110 w) w) w) w) ()) w) w) w) ()) w) w)
  (k4 (Value.bool false) w) ()) w) w) w) (fun t112 w =>
  BrW t112
  (K (Value.bool false) w)
  (BinX Try.prog BinOp.add 3 t15 (Value.int IntKind.i64 1) (fun t85 w =>
  next3 t85 w) w) ()) w) w) w) w) w) w) w) w) w)
  (BinX Try.prog BinOp.add 3 t14 (Value.int IntKind.i64 1) (fun t77 w =>
  next2 t77 w) w) ()) w) w) w) w) w)
  (Join1 (fun k5 w =>
  BrW t18
  (RdX Try.prog (Op.load 54 (Operand.const t8)) 54 (fun t115 =>
  PurX Try.prog (Op.fieldAddr 54 (Operand.const t8) 0) 0 (fun t116 =>
  RdX Try.prog (Op.load 3 (Operand.const t116)) 3 (fun t117 =>
  PurX Try.prog (Op.fieldAddr 54 (Operand.const t8) 1) 0 (fun t118 =>
  RdX Try.prog (Op.load 3 (Operand.const t118)) 3 (fun t119 =>
  RdX Try.prog (Op.load 54 (Operand.const t8)) 54 (fun t122 =>
  OpX Try.prog (Op.build 44 #[(0, Operand.const (Value.int IntKind.i32 46))]) 44 (fun t120 w =>
  (Yld Try.prog (Op.load 54 (Operand.const t8)) 54 t122 w) ∧ ((Yld Try.prog (Op.load 3 (Operand.const t118)) 3 t119 w) ∧ ((Yld Try.prog (Op.load 3 (Operand.const t116)) 3 t117 w) ∧ ((Yld Try.prog (Op.load 54 (Operand.const t8)) 54 t115 w) ∧ (OpX Try.prog (Op.call { callee := Callee.value (Operand.func 49), args := #[Operand.const t115, Operand.const t117, Operand.const t119, Operand.const t120], argTypes := #[54, 3, 3, 44] }) 54 (fun t121 w =>
  (Yld Try.prog (Op.load 54 (Operand.const t8)) 54 t122 w) ∧ (OpX Try.prog (Op.call { callee := Callee.value (Operand.func 50), args := #[Operand.const t121, Operand.const t122], argTypes := #[54, 54] }) 4 (fun t123 w =>
  k5 t123 w) w)) w))))) w) w) w) ()) w) ()) w)
  (k5 (Value.bool false) w) ()) (fun t6 w =>
  K t6 w) w.drew) ()) w) w) w) w) w) ()) w) w) w) w) w) w) w) w) w) w) w) w) w) w) w) w) w) w) w) w) w) w) w) w) w) w) w) w) w) w) w) w) w) w) w) w) w) w) w) w) w) w) w
theorem lyceumlaw06_GridLays_link (p0 p1 p2 : Value) {R : Value → World → Prop} {w : World} (h : ∀ K : Value → World → Prop, (∀ v w', R v w' → K v w') → lyceumlaw06_GridLays p0 p1 p2 K w) : Calls Try.prog 12 #[p0, p1, p2] w (retK R) :=
  calls_of_def [p0, p1, p2] [(22, [69]), (32, [14]), (44, [15]), (58, [112]), (67, [6])] mixed Try.func12 (by kernel_rfl) (by kernel_rfl) (by kernel_rfl) (X := lyceumlaw06_GridLays p0 p1 p2 R w) (by kernel_rfl) (h R fun _ _ h => h)
theorem lyceumlaw06_GridLays_b : Bodied Try.prog 12 := ⟨_, Try.func12, by kernel_rfl, by kernel_rfl⟩

/- lyceum/lyceumlaw06.awake -/
def lyceumlaw06_awake (K : Value → World → Prop) (w : World) : Prop :=
  OpX Try.prog (Op.call { callee := Callee.value (Operand.func 79), args := #[Operand.const (Value.int IntKind.i64 3), Operand.const (Value.int IntKind.i64 1)], argTypes := #[3, 3] }) 54 (fun t3 w =>
  OpX Try.prog (Op.buildSlice 50 3 #[(0, Operand.const (Value.int IntKind.i64 2)), (1, Operand.const (Value.int IntKind.i64 3)), (2, Operand.const (Value.int IntKind.i64 6))]) 50 (fun t4 w =>
  OpX Try.prog (Op.call { callee := Callee.value (Operand.func 80), args := #[Operand.const t4], argTypes := #[50] }) 45 (fun t5 w =>
  OpX Try.prog (Op.call { callee := Callee.value (Operand.func 38), args := #[Operand.const t3, Operand.const (Value.int IntKind.i64 0), Operand.const (Value.int IntKind.i64 0), Operand.const t5], argTypes := #[54, 3, 3, 45] }) 54 (fun t6 w =>
  OpX Try.prog (Op.alloc 54) 0 (fun t1 w =>
  OpX Try.prog (Op.store 54 (Operand.const t1) (Operand.const t6)) 0 (fun _ w =>
  OpX Try.prog (Op.load 54 (Operand.const t1)) 54 (fun t7 w =>
  OpX Try.prog (Op.build 44 #[(0, Operand.const (Value.int IntKind.i32 32))]) 44 (fun t8 w =>
  OpX Try.prog (Op.call { callee := Callee.value (Operand.func 82), args := #[Operand.const t7, Operand.const (Value.int IntKind.i64 1), Operand.const (Value.int IntKind.i64 0), Operand.const (Value.int IntKind.i64 1), Operand.const t8], argTypes := #[54, 3, 3, 3, 44] }) 54 (fun t9 w =>
  OpX Try.prog (Op.call { callee := Callee.value (Operand.func 81), args := #[Operand.const t9], argTypes := #[54] }) 113 (fun t10 w =>
  Join1 (fun k1 w =>
  OpX Try.prog (Op.call { callee := Callee.builtin Builtin.len, args := #[Operand.const t10], argTypes := #[113] }) 3 (fun t12 w =>
  BinX Try.prog BinOp.eql 3 t12 (Value.int IntKind.i64 1) (fun t13 w =>
  BrW t13
  (OpX Try.prog (Op.indexAddr 113 (Operand.const t10) (Operand.const (Value.int IntKind.i64 0))) 0 (fun t16 w =>
  OpX Try.prog (Op.load 9 (Operand.const t16)) 9 (fun t17 w =>
  BinX Try.prog BinOp.eql 9 t17 (Value.string { data := #[97, 32, 98] }) (fun t18 w =>
  k1 t18 w) w) w) w)
  (k1 (Value.bool false) w) ()) w) w) (fun t0 w =>
  K t0 w) w) w) w) w) w) w) w) w) w) w) w
theorem lyceumlaw06_awake_link {R : Value → World → Prop} {w : World} (h : ∀ K : Value → World → Prop, (∀ v w', R v w' → K v w') → lyceumlaw06_awake K w) : Calls Try.prog 43 #[] w (retK R) :=
  calls_of_def [] [(7, [0])] mixed Try.func43 (by kernel_rfl) (by kernel_rfl) (by kernel_rfl) (X := lyceumlaw06_awake R w) (by kernel_rfl) (h R fun _ _ h => h)
theorem lyceumlaw06_awake_b : Bodied Try.prog 43 := ⟨_, Try.func43, by kernel_rfl, by kernel_rfl⟩

/- (lyceum/lyceumlaw06.Num).grid -/
def lyceumlaw06_Num_grid (p0 : Value) (K : Value → World → Prop) (w : World) : Prop :=
  OpX Try.prog (Op.box 62 (Operand.const p0)) 0 (fun t1 w =>
  OpX Try.prog (Op.alloc 54) 0 (fun t2 w =>
  OpX Try.prog (Op.fieldAddr 62 (Operand.const t1) 0) 0 (fun t7 w =>
  OpX Try.prog (Op.load 3 (Operand.const t7)) 3 (fun t8 w =>
  BinX Try.prog BinOp.rem 3 t8 (Value.int IntKind.i64 12) (fun t9 w =>
  BinX Try.prog BinOp.add 3 t9 (Value.int IntKind.i64 12) (fun t10 w =>
  BinX Try.prog BinOp.rem 3 t10 (Value.int IntKind.i64 12) (fun t11 w =>
  BinX Try.prog BinOp.add 3 (Value.int IntKind.i64 1) t11 (fun t12 w =>
  OpX Try.prog (Op.fieldAddr 62 (Operand.const t1) 1) 0 (fun t13 w =>
  OpX Try.prog (Op.load 3 (Operand.const t13)) 3 (fun t14 w =>
  BinX Try.prog BinOp.rem 3 t14 (Value.int IntKind.i64 6) (fun t15 w =>
  BinX Try.prog BinOp.add 3 t15 (Value.int IntKind.i64 6) (fun t16 w =>
  BinX Try.prog BinOp.rem 3 t16 (Value.int IntKind.i64 6) (fun t17 w =>
  BinX Try.prog BinOp.add 3 (Value.int IntKind.i64 1) t17 (fun t18 w =>
  OpX Try.prog (Op.call { callee := Callee.value (Operand.func 37), args := #[Operand.const t12, Operand.const t18], argTypes := #[3, 3] }) 54 (fun t19 w =>
  OpX Try.prog (Op.alloc 54) 0 (fun t3 w =>
  OpX Try.prog (Op.store 54 (Operand.const t3) (Operand.const t19)) 0 (fun _ w =>
  OpX Try.prog (Op.fieldAddr 62 (Operand.const t1) 2) 0 (fun t20 w =>
  OpX Try.prog (Op.load 50 (Operand.const t20)) 50 (fun t21 w =>
  OpX Try.prog (Op.call { callee := Callee.value (Operand.func 80), args := #[Operand.const t21], argTypes := #[50] }) 45 (fun t22 w =>
  Loop2 t22 (Value.int IntKind.i64 0) (fun t4 t5 next1 w =>
  OpX Try.prog (Op.fieldAddr 54 (Operand.const t3) 1) 0 (fun t24 w =>
  OpX Try.prog (Op.load 3 (Operand.const t24)) 3 (fun t25 w =>
  BinX Try.prog BinOp.lss 3 t5 t25 (fun t26 w =>
  BrW t26
  (OpX Try.prog (Op.call { callee := Callee.builtin Builtin.len, args := #[Operand.const t4], argTypes := #[45] }) 3 (fun t30 w =>
  OpX Try.prog (Op.fieldAddr 54 (Operand.const t3) 0) 0 (fun t31 w =>
  OpX Try.prog (Op.load 3 (Operand.const t31)) 3 (fun t32 w =>
  OpX Try.prog (Op.call { callee := Callee.builtin Builtin.min, args := #[Operand.const t30, Operand.const t32], argTypes := #[3, 3] }) 3 (fun t33 w =>
  DrewW (fun w =>
  RdX Try.prog (Op.load 54 (Operand.const t3)) 54 (fun t34 =>
  PurX Try.prog (Op.slice 45 (Operand.const t4) none (some (Operand.const t33)) none) 45 (fun t38 =>
  OpX Try.prog (Op.call { callee := Callee.value (Operand.func 83), args := #[Operand.const t34, Operand.const (Value.int IntKind.i64 0), Operand.const t5, Operand.const t38], argTypes := #[54, 3, 3, 45] }) 54 (fun t39 w =>
  OpX Try.prog (Op.store 54 (Operand.const t3) (Operand.const t39)) 0 (fun _ w =>
  OpX Try.prog (Op.slice 45 (Operand.const t4) (some (Operand.const t33)) none none) 45 (fun t42 w =>
  BinX Try.prog BinOp.add 3 t5 (Value.int IntKind.i64 1) (fun t28 w =>
  next1 t42 t28 w) w) w) w) w) ()) w) w) w) w) w) w)
  (OpX Try.prog (Op.load 54 (Operand.const t3)) 54 (fun t43 w =>
  OpX Try.prog (Op.store 54 (Operand.const t2) (Operand.const t43)) 0 (fun _ w =>
  LdR Try.prog 54 t2 (fun t2_1 w =>
  K t2_1 w) w) w) w) ()) w) w) w) w) w) w) w) w) w) w) w) w) w) w) w) w) w) w) w) w) w) w) w) w
theorem lyceumlaw06_Num_grid_link (p0 : Value) {R : Value → World → Prop} {w : World} (h : ∀ K : Value → World → Prop, (∀ v w', R v w' → K v w') → lyceumlaw06_Num_grid p0 K w) : Calls Try.prog 44 #[p0] w (retK R) :=
  calls_of_def [p0] [(10, [4, 5])] mixed Try.func44 (by kernel_rfl) (by kernel_rfl) (by kernel_rfl) (X := lyceumlaw06_Num_grid p0 R w) (by kernel_rfl) (h R fun _ _ h => h)
theorem lyceumlaw06_Num_grid_b : Bodied Try.prog 44 := ⟨_, Try.func44, by kernel_rfl, by kernel_rfl⟩

/- lyceum/lyceumlaw06.plain -/
def lyceumlaw06_plain (p0 : Value) (K : Value → World → Prop) (w : World) : Prop :=
  OpX Try.prog (Op.alloc 44) 0 (fun t2 w =>
  OpX Try.prog (Op.build 118 #[(0, Operand.const (Value.int IntKind.i32 32)), (1, Operand.const (Value.int IntKind.i32 46)), (2, Operand.const (Value.int IntKind.i32 45)), (3, Operand.const (Value.int IntKind.i32 122))]) 118 (fun t4 w =>
  OpX Try.prog (Op.alloc 118) 0 (fun t3 w =>
  OpX Try.prog (Op.store 118 (Operand.const t3) (Operand.const t4)) 0 (fun _ w =>
  BinX Try.prog BinOp.and 3 p0 (Value.int IntKind.i64 3) (fun t6 w =>
  OpX Try.prog (Op.indexAddr 118 (Operand.const t3) (Operand.const t6)) 0 (fun t7 w =>
  OpX Try.prog (Op.load 21 (Operand.const t7)) 21 (fun t8 w =>
  BinX Try.prog BinOp.shr 3 p0 (Value.int IntKind.u64 2) (fun t10 w =>
  BinX Try.prog BinOp.and 3 t10 (Value.int IntKind.i64 3) (fun t11 w =>
  OpX Try.prog (Op.convert 3 5 (Operand.const t11)) 5 (fun t12 w =>
  BinX Try.prog BinOp.shr 3 p0 (Value.int IntKind.u64 4) (fun t14 w =>
  BinX Try.prog BinOp.and 3 t14 (Value.int IntKind.i64 3) (fun t15 w =>
  OpX Try.prog (Op.convert 3 5 (Operand.const t15)) 5 (fun t16 w =>
  OpX Try.prog (Op.build 44 #[(0, Operand.const t8), (2, Operand.const t12), (3, Operand.const t16)]) 44 (fun t17 w =>
  OpX Try.prog (Op.store 44 (Operand.const t2) (Operand.const t17)) 0 (fun _ w =>
  LdR Try.prog 44 t2 (fun t2_1 w =>
  K t2_1 w) w) w) w) w) w) w) w) w) w) w) w) w) w) w) w) w
theorem lyceumlaw06_plain_link (p0 : Value) {R : Value → World → Prop} {w : World} (h : ∀ K : Value → World → Prop, (∀ v w', R v w' → K v w') → lyceumlaw06_plain p0 K w) : Calls Try.prog 46 #[p0] w (retK R) :=
  calls_of_def [p0] [] mixed Try.func46 (by kernel_rfl) (by kernel_rfl) (by kernel_rfl) (X := lyceumlaw06_plain p0 R w) (by kernel_rfl) (h R fun _ _ h => h)
theorem lyceumlaw06_plain_b : Bodied Try.prog 46 := ⟨_, Try.func46, by kernel_rfl, by kernel_rfl⟩

/- lyceum/lyceumlaw06.cells -/
def lyceumlaw06_cells (p0 : Value) (K : Value → World → Prop) (w : World) : Prop :=
  OpX Try.prog (Op.build 135 #[(0, Operand.const (Value.int IntKind.i32 32)), (1, Operand.const (Value.int IntKind.i32 32)), (2, Operand.const (Value.int IntKind.i32 97)), (3, Operand.const (Value.int IntKind.i32 98)), (4, Operand.const (Value.int IntKind.i32 19968)), (5, Operand.const (Value.int IntKind.i32 19969)), (6, Operand.const (Value.int IntKind.i32 99)), (7, Operand.const (Value.int IntKind.i32 32)), (8, Operand.const (Value.int IntKind.i32 8364)), (9, Operand.const (Value.int IntKind.i32 128512)), (10, Operand.const (Value.int IntKind.i32 120)), (11, Operand.const (Value.int IntKind.i32 97)), (12, Operand.const (Value.int IntKind.i32 100)), (13, Operand.const (Value.int IntKind.i32 32)), (14, Operand.const (Value.int IntKind.i32 12354)), (15, Operand.const (Value.int IntKind.i32 35))]) 135 (fun t7 w =>
  OpX Try.prog (Op.alloc 135) 0 (fun t3 w =>
  OpX Try.prog (Op.store 135 (Operand.const t3) (Operand.const t7)) 0 (fun _ w =>
  Loop2 (Value.slice none 0 0) (Value.int IntKind.i64 0) (fun t4 t5 next1 w =>
  Join1 (fun k2 w =>
  OpX Try.prog (Op.call { callee := Callee.builtin Builtin.len, args := #[Operand.const p0], argTypes := #[50] }) 3 (fun t10 w =>
  BinX Try.prog BinOp.lss 3 t5 t10 (fun t11 w =>
  BrW t11
  (BinX Try.prog BinOp.lss 3 t5 (Value.int IntKind.i64 80) (fun t14 w =>
  k2 t14 w) w)
  (k2 (Value.bool false) w) ()) w) w) (fun t15 w =>
  BrW t15
  (OpX Try.prog (Op.indexAddr 50 (Operand.const p0) (Operand.const t5)) 0 (fun t20 w =>
  OpX Try.prog (Op.load 3 (Operand.const t20)) 3 (fun t21 w =>
  BinX Try.prog BinOp.and 3 t21 (Value.int IntKind.i64 15) (fun t24 w =>
  OpX Try.prog (Op.indexAddr 135 (Operand.const t3) (Operand.const t24)) 0 (fun t25 w =>
  OpX Try.prog (Op.load 21 (Operand.const t25)) 21 (fun t26 w =>
  BinX Try.prog BinOp.shr 3 t21 (Value.int IntKind.u64 4) (fun t28 w =>
  BinX Try.prog BinOp.and 3 t28 (Value.int IntKind.i64 3) (fun t29 w =>
  OpX Try.prog (Op.convert 3 5 (Operand.const t29)) 5 (fun t30 w =>
  BinX Try.prog BinOp.shr 3 t21 (Value.int IntKind.u64 6) (fun t32 w =>
  BinX Try.prog BinOp.and 3 t32 (Value.int IntKind.i64 1) (fun t33 w =>
  OpX Try.prog (Op.convert 3 5 (Operand.const t33)) 5 (fun t34 w =>
  OpX Try.prog (Op.build 44 #[(1, Operand.const t30), (3, Operand.const t34)]) 44 (fun t35 w =>
  OpX Try.prog (Op.call { callee := Callee.value (Operand.func 68), args := #[Operand.const t26, Operand.const t35], argTypes := #[21, 44] }) 45 (fun t36 w =>
  OpX Try.prog (Op.call { callee := Callee.builtin Builtin.append, args := #[Operand.const t4, Operand.const t36], argTypes := #[45, 45] }) 45 (fun t37 w =>
  BinX Try.prog BinOp.add 3 t5 (Value.int IntKind.i64 1) (fun t17 w =>
  next1 t37 t17 w) w) w) w) w) w) w) w) w) w) w) w) w) w) w) w)
  (K t4 w) ()) w) w) w) w) w
theorem lyceumlaw06_cells_link (p0 : Value) {R : Value → World → Prop} {w : World} (h : ∀ K : Value → World → Prop, (∀ v w', R v w' → K v w') → lyceumlaw06_cells p0 K w) : Calls Try.prog 80 #[p0] w (retK R) :=
  calls_of_def [p0] [(10, [4, 5]), (13, [15])] mixed Try.func80 (by kernel_rfl) (by kernel_rfl) (by kernel_rfl) (X := lyceumlaw06_cells p0 R w) (by kernel_rfl) (h R fun _ _ h => h)
theorem lyceumlaw06_cells_b : Bodied Try.prog 80 := ⟨_, Try.func80, by kernel_rfl, by kernel_rfl⟩

end Go.Proofs.Ytdjdeahmhenchaa
