/- Written by a program (gen.py): functions of the translation as transformers, with the link to Calls. -/
import Derived.Test.YtdjdeahmhenchaaLycDef
import Derived.Test.YtdjdeahmhenchaaLycTy
import Derived.Test.YtdjdeahmhenchaaW0
set_option linter.unusedSimpArgs false
set_option linter.unusedVariables false
namespace Go.Proofs.Ytdjdeahmhenchaa
open Lyc Go
set_option maxRecDepth 100000

/- lyceum/cell.Text -/
def cell_Text (p0 : Value) (K : Value → World → Prop) (w : World) : Prop :=
  OpX Try.prog (Op.call { callee := Callee.builtin Builtin.len, args := #[Operand.const p0], argTypes := #[45] }) 3 (fun t7 w =>
  Loop2 (Value.slice none 0 0) (Value.int IntKind.i64 0) (fun t3 t8 next1 w =>
  BinX Try.prog BinOp.lss 3 t8 t7 (fun t9 w =>
  BrW t9
  (OpX Try.prog (Op.indexAddr 45 (Operand.const p0) (Operand.const t8)) 0 (fun t10 w =>
  OpX Try.prog (Op.load 44 (Operand.const t10)) 44 (fun t11 w =>
  OpX Try.prog (Op.alloc 44) 0 (fun t5 w =>
  OpX Try.prog (Op.store 44 (Operand.const t5) (Operand.const t11)) 0 (fun _ w =>
  OpX Try.prog (Op.load 44 (Operand.const t5)) 44 (fun t13 w =>
  OpX Try.prog (Op.call { callee := Callee.value (Operand.func 98), args := #[Operand.const t13], argTypes := #[44] }) 4 (fun t14 w =>
  OpX Try.prog (Op.unOp UnOp.not 4 (Operand.const t14)) 4 (fun t15 w =>
  BrW t15
  (OpX Try.prog (Op.buildSlice 129 1 #[(0, Operand.const (Value.int IntKind.i32 63))]) 129 (fun t17 w =>
  OpX Try.prog (Op.call { callee := Callee.builtin Builtin.append, args := #[Operand.const t3, Operand.const t17], argTypes := #[129, 129] }) 129 (fun t18 w =>
  BinX Try.prog BinOp.add 3 t8 (Value.int IntKind.i64 1) (fun t29 w =>
  next1 t18 t29 w) w) w) w)
  (OpX Try.prog (Op.fieldAddr 44 (Operand.const t5) 3) 0 (fun t20 w =>
  OpX Try.prog (Op.load 5 (Operand.const t20)) 5 (fun t21 w =>
  BinX Try.prog BinOp.and 5 t21 (Value.int IntKind.u8 128) (fun t22 w =>
  BinX Try.prog BinOp.eql 5 t22 (Value.int IntKind.u8 0) (fun t23 w =>
  BrW t23
  (OpX Try.prog (Op.fieldAddr 44 (Operand.const t5) 0) 0 (fun t25 w =>
  OpX Try.prog (Op.load 21 (Operand.const t25)) 21 (fun t26 w =>
  OpX Try.prog (Op.buildSlice 129 1 #[(0, Operand.const t26)]) 129 (fun t27 w =>
  OpX Try.prog (Op.call { callee := Callee.builtin Builtin.append, args := #[Operand.const t3, Operand.const t27], argTypes := #[129, 129] }) 129 (fun t28 w =>
  BinX Try.prog BinOp.add 3 t8 (Value.int IntKind.i64 1) (fun t29_1 w =>
  next1 t28 t29_1 w) w) w) w) w) w)
  (BinX Try.prog BinOp.add 3 t8 (Value.int IntKind.i64 1) (fun t29_2 w =>
  next1 t3 t29_2 w) w) ()) w) w) w) w) ()) w) w) w) w) w) w) w)
  (Loop1 t3 (fun t3_1 next2 w =>
  Join1 (fun k3 w =>
  OpX Try.prog (Op.call { callee := Callee.builtin Builtin.len, args := #[Operand.const t3_1], argTypes := #[129] }) 3 (fun t31 w =>
  BinX Try.prog BinOp.gtr 3 t31 (Value.int IntKind.i64 0) (fun t32 w =>
  BrW t32
  (OpX Try.prog (Op.call { callee := Callee.builtin Builtin.len, args := #[Operand.const t3_1], argTypes := #[129] }) 3 (fun t36 w =>
  BinX Try.prog BinOp.sub 3 t36 (Value.int IntKind.i64 1) (fun t37 w =>
  OpX Try.prog (Op.indexAddr 129 (Operand.const t3_1) (Operand.const t37)) 0 (fun t38 w =>
  OpX Try.prog (Op.load 21 (Operand.const t38)) 21 (fun t39 w =>
  BinX Try.prog BinOp.eql 21 t39 (Value.int IntKind.i32 32) (fun t40 w =>
  k3 t40 w) w) w) w) w) w)
  (k3 (Value.bool false) w) ()) w) w) (fun t41 w =>
  BrW t41
  (OpX Try.prog (Op.call { callee := Callee.builtin Builtin.len, args := #[Operand.const t3_1], argTypes := #[129] }) 3 (fun t44 w =>
  BinX Try.prog BinOp.sub 3 t44 (Value.int IntKind.i64 1) (fun t45 w =>
  OpX Try.prog (Op.slice 129 (Operand.const t3_1) none (some (Operand.const t45)) none) 129 (fun t46 w =>
  next2 t46 w) w) w) w)
  (OpX Try.prog (Op.call { callee := Callee.value (Operand.func 99), args := #[Operand.const t3_1], argTypes := #[129] }) 9 (fun t48 w =>
  K t48 w) w) ()) w) w) ()) w) w) w
theorem cell_Text_link (p0 : Value) {R : Value → World → Prop} {w : World} (h : ∀ K : Value → World → Prop, (∀ v w', R v w' → K v w') → cell_Text p0 K w) : Calls Try.prog 63 #[p0] w (retK R) :=
  calls_of_def [p0] [(8, [3, 8]), (32, [3]), (35, [41])] mixed Try.func63 (by kernel_rfl) (by kernel_rfl) (by kernel_rfl) (X := cell_Text p0 R w) (by kernel_rfl) (h R fun _ _ h => h)
theorem cell_Text_b : Bodied Try.prog 63 := ⟨_, Try.func63, by kernel_rfl, by kernel_rfl⟩

/- lyceum/cell.Mend -/
def cell_Mend (p0 : Value) (K : Value → World → Prop) (w : World) : Prop :=
  OpX Try.prog (Op.call { callee := Callee.builtin Builtin.len, args := #[Operand.const p0], argTypes := #[45] }) 3 (fun t6 w =>
  OpX Try.prog (Op.makeSlice 45 (Operand.const t6) (Operand.const t6)) 45 (fun t7 w =>
  OpX Try.prog (Op.call { callee := Callee.builtin Builtin.copy, args := #[Operand.const t7, Operand.const p0], argTypes := #[45, 45] }) 3 (fun _ w =>
  Loop1 (Value.int IntKind.i64 0) (fun t4 next1 w =>
  OpX Try.prog (Op.call { callee := Callee.builtin Builtin.len, args := #[Operand.const p0], argTypes := #[45] }) 3 (fun t13 w =>
  BinX Try.prog BinOp.lss 3 t4 t13 (fun t14 w =>
  BrW t14
  (OpX Try.prog (Op.call { callee := Callee.value (Operand.func 100), args := #[Operand.const p0, Operand.const t4], argTypes := #[45, 3] }) 4 (fun t20 w =>
  BrW t20
  (BinX Try.prog BinOp.add 3 t4 (Value.int IntKind.i64 1) (fun t22 w =>
  BinX Try.prog BinOp.add 3 t22 (Value.int IntKind.i64 1) (fun t16 w =>
  next1 t16 w) w) w)
  (OpX Try.prog (Op.indexAddr 45 (Operand.const p0) (Operand.const t4)) 0 (fun t26 w =>
  OpX Try.prog (Op.load 44 (Operand.const t26)) 44 (fun t27 w =>
  OpX Try.prog (Op.call { callee := Callee.value (Operand.func 101), args := #[Operand.const t27], argTypes := #[44] }) 4 (fun t28 w =>
  OpX Try.prog (Op.unOp UnOp.not 4 (Operand.const t28)) 4 (fun t29 w =>
  BrW t29
  (DrewW (fun w =>
  PurX Try.prog (Op.indexAddr 45 (Operand.const p0) (Operand.const t4)) 0 (fun t34 =>
  PurX Try.prog (Op.fieldAddr 44 (Operand.const t34) 1) 0 (fun t35 =>
  RdX Try.prog (Op.load 5 (Operand.const t35)) 5 (fun t36 =>
  PurX Try.prog (Op.indexAddr 45 (Operand.const p0) (Operand.const t4)) 0 (fun t39 =>
  PurX Try.prog (Op.fieldAddr 44 (Operand.const t39) 2) 0 (fun t40 =>
  RdX Try.prog (Op.load 5 (Operand.const t40)) 5 (fun t41 =>
  OpX Try.prog (Op.build 44 #[(0, Operand.const (Value.int IntKind.i32 32)), (1, Operand.const t36), (2, Operand.const t41)]) 44 (fun t42 w =>
  PurX Try.prog (Op.indexAddr 45 (Operand.const t7) (Operand.const t4)) 0 (fun t43 =>
  OpX Try.prog (Op.store 44 (Operand.const t43) (Operand.const t42)) 0 (fun _ w =>
  BinX Try.prog BinOp.add 3 t4 (Value.int IntKind.i64 1) (fun t16_1 w =>
  next1 t16_1 w) w) w) ()) w) w) ()) ()) w) ()) ()) w)
  (BinX Try.prog BinOp.add 3 t4 (Value.int IntKind.i64 1) (fun t16_2 w =>
  next1 t16_2 w) w) ()) w) w) w) w) ()) w)
  (K t7 w) ()) w) w) w) w) w) w
theorem cell_Mend_link (p0 : Value) {R : Value → World → Prop} {w : World} (h : ∀ K : Value → World → Prop, (∀ v w', R v w' → K v w') → cell_Mend p0 K w) : Calls Try.prog 65 #[p0] w (retK R) :=
  calls_of_def [p0] [(10, [4])] mixed Try.func65 (by kernel_rfl) (by kernel_rfl) (by kernel_rfl) (X := cell_Mend p0 R w) (by kernel_rfl) (h R fun _ _ h => h)
theorem cell_Mend_b : Bodied Try.prog 65 := ⟨_, Try.func65, by kernel_rfl, by kernel_rfl⟩

/- lyceum/cell.Right -/
def cell_Right (p0 : Value) (K : Value → World → Prop) (w : World) : Prop :=
  Loop1 (Value.int IntKind.i64 0) (fun t3 next1 w =>
  OpX Try.prog (Op.call { callee := Callee.builtin Builtin.len, args := #[Operand.const p0], argTypes := #[45] }) 3 (fun t6 w =>
  BinX Try.prog BinOp.lss 3 t3 t6 (fun t7 w =>
  BrW t7
  (OpX Try.prog (Op.call { callee := Callee.value (Operand.func 100), args := #[Operand.const p0, Operand.const t3], argTypes := #[45, 3] }) 4 (fun t13 w =>
  BrW t13
  (BinX Try.prog BinOp.add 3 t3 (Value.int IntKind.i64 1) (fun t15 w =>
  BinX Try.prog BinOp.add 3 t15 (Value.int IntKind.i64 1) (fun t9 w =>
  next1 t9 w) w) w)
  (OpX Try.prog (Op.indexAddr 45 (Operand.const p0) (Operand.const t3)) 0 (fun t19 w =>
  OpX Try.prog (Op.load 44 (Operand.const t19)) 44 (fun t20 w =>
  OpX Try.prog (Op.call { callee := Callee.value (Operand.func 101), args := #[Operand.const t20], argTypes := #[44] }) 4 (fun t21 w =>
  OpX Try.prog (Op.unOp UnOp.not 4 (Operand.const t21)) 4 (fun t22 w =>
  BrW t22
  (K (Value.bool false) w)
  (BinX Try.prog BinOp.add 3 t3 (Value.int IntKind.i64 1) (fun t9_1 w =>
  next1 t9_1 w) w) ()) w) w) w) w) ()) w)
  (K (Value.bool true) w) ()) w) w) w
theorem cell_Right_link (p0 : Value) {R : Value → World → Prop} {w : World} (h : ∀ K : Value → World → Prop, (∀ v w', R v w' → K v w') → cell_Right p0 K w) : Calls Try.prog 95 #[p0] w (retK R) :=
  calls_of_def [p0] [(6, [3])] mixed Try.func95 (by kernel_rfl) (by kernel_rfl) (by kernel_rfl) (X := cell_Right p0 R w) (by kernel_rfl) (h R fun _ _ h => h)
theorem cell_Right_b : Bodied Try.prog 95 := ⟨_, Try.func95, by kernel_rfl, by kernel_rfl⟩

/- lyceum/cell.Check -/
def cell_Check (p0 : Value) (K : Value → World → Prop) (w : World) : Prop :=
  OpX Try.prog (Op.box 44 (Operand.const p0)) 0 (fun t1 w =>
  DrewW (fun w =>
  PurX Try.prog (Op.fieldAddr 44 (Operand.const t1) 3) 0 (fun t5 =>
  RdX Try.prog (Op.load 5 (Operand.const t5)) 5 (fun t6 =>
  PurB Try.prog BinOp.and 5 t6 (Value.int IntKind.u8 64) (fun t7 =>
  RdB Try.prog BinOp.neq 5 t7 (Value.int IntKind.u8 0) (fun t8 =>
  PurX Try.prog (Op.fieldAddr 44 (Operand.const t1) 3) 0 (fun t9 =>
  RdX Try.prog (Op.load 5 (Operand.const t9)) 5 (fun t10 =>
  PurB Try.prog BinOp.and 5 t10 (Value.int IntKind.u8 128) (fun t11 =>
  RdB Try.prog BinOp.neq 5 t11 (Value.int IntKind.u8 0) (fun t12 =>
  BrW t12
  (Join1 (fun k1 w =>
  OpX Try.prog (Op.unOp UnOp.not 4 (Operand.const t8)) 4 (fun t16 w =>
  BrW t16
  (OpX Try.prog (Op.fieldAddr 44 (Operand.const t1) 0) 0 (fun t18 w =>
  OpX Try.prog (Op.load 21 (Operand.const t18)) 21 (fun t19 w =>
  BinX Try.prog BinOp.eql 21 t19 (Value.int IntKind.i32 0) (fun t20 w =>
  k1 t20 w) w) w) w)
  (k1 (Value.bool false) w) ()) w) (fun t2 w =>
  K t2 w) w)
  (BrW t8
  (OpX Try.prog (Op.fieldAddr 44 (Operand.const t1) 0) 0 (fun t24 w =>
  OpX Try.prog (Op.load 21 (Operand.const t24)) 21 (fun t25 w =>
  OpX Try.prog (Op.call { callee := Callee.value (Operand.func 114), args := #[Operand.const t25], argTypes := #[21] }) 3 (fun t26 w =>
  BinX Try.prog BinOp.eql 3 t26 (Value.int IntKind.i64 2) (fun t27 w =>
  K t27 w) w) w) w) w)
  (OpX Try.prog (Op.fieldAddr 44 (Operand.const t1) 0) 0 (fun t28 w =>
  OpX Try.prog (Op.load 21 (Operand.const t28)) 21 (fun t29 w =>
  OpX Try.prog (Op.call { callee := Callee.value (Operand.func 114), args := #[Operand.const t29], argTypes := #[21] }) 3 (fun t30 w =>
  BinX Try.prog BinOp.eql 3 t30 (Value.int IntKind.i64 1) (fun t31 w =>
  K t31 w) w) w) w) w) ()) ()) w) ()) w) ()) w) ()) w) ()) w) w
theorem cell_Check_link (p0 : Value) {R : Value → World → Prop} {w : World} (h : ∀ K : Value → World → Prop, (∀ v w', R v w' → K v w') → cell_Check p0 K w) : Calls Try.prog 98 #[p0] w (retK R) :=
  calls_of_def [p0] [(10, [2])] mixed Try.func98 (by kernel_rfl) (by kernel_rfl) (by kernel_rfl) (X := cell_Check p0 R w) (by kernel_rfl) (h R fun _ _ h => h)
theorem cell_Check_b : Bodied Try.prog 98 := ⟨_, Try.func98, by kernel_rfl, by kernel_rfl⟩

/- lyceum/cell.paired -/
def cell_paired (p0 p1 : Value) (K : Value → World → Prop) (w : World) : Prop :=
  OpX Try.prog (Op.indexAddr 45 (Operand.const p0) (Operand.const p1)) 0 (fun t8 w =>
  OpX Try.prog (Op.load 44 (Operand.const t8)) 44 (fun t9 w =>
  OpX Try.prog (Op.alloc 44) 0 (fun t5 w =>
  OpX Try.prog (Op.store 44 (Operand.const t5) (Operand.const t9)) 0 (fun _ w =>
  Join1 (fun k1 w =>
  PurX Try.prog (Op.fieldAddr 44 (Operand.const t5) 3) 0 (fun t10 =>
  RdX Try.prog (Op.load 5 (Operand.const t10)) 5 (fun t11 =>
  PurB Try.prog BinOp.and 5 t11 (Value.int IntKind.u8 64) (fun t12 =>
  RdB Try.prog BinOp.neq 5 t12 (Value.int IntKind.u8 0) (fun t13 =>
  BrW t13
  (RdX Try.prog (Op.load 44 (Operand.const t5)) 44 (fun t15 =>
  OpX Try.prog (Op.call { callee := Callee.value (Operand.func 98), args := #[Operand.const t15], argTypes := #[44] }) 4 (fun t16 w =>
  BrW t16
  (PurB Try.prog BinOp.add 3 p1 (Value.int IntKind.i64 1) (fun t20 =>
  RdX Try.prog (Op.call { callee := Callee.builtin Builtin.len, args := #[Operand.const p0], argTypes := #[45] }) 3 (fun t22 =>
  PurB Try.prog BinOp.lss 3 t20 t22 (fun t23 =>
  BrW t23
  (PurB Try.prog BinOp.add 3 p1 (Value.int IntKind.i64 1) (fun t28 =>
  PurX Try.prog (Op.indexAddr 45 (Operand.const p0) (Operand.const t28)) 0 (fun t29 =>
  RdX Try.prog (Op.load 44 (Operand.const t29)) 44 (fun t30 =>
  RdX Try.prog (Op.load 44 (Operand.const t5)) 44 (fun t31 =>
  OpX Try.prog (Op.call { callee := Callee.value (Operand.func 117), args := #[Operand.const t31], argTypes := #[44] }) 44 (fun t32 w =>
  (Yld Try.prog (Op.load 44 (Operand.const t29)) 44 t30 w) ∧ (RdB Try.prog BinOp.eql 44 t30 t32 (fun t33 =>
  k1 t33 w) w)) w) w) w) ()) ())
  (k1 (Value.bool false) w) ()) ()) w) ())
  (k1 (Value.bool false) w) ()) w) w)
  (k1 (Value.bool false) w) ()) w) ()) w) ()) (fun t4 w =>
  K t4 w) w.drew) w) w) w) w
theorem cell_paired_link (p0 p1 : Value) {R : Value → World → Prop} {w : World} (h : ∀ K : Value → World → Prop, (∀ v w', R v w' → K v w') → cell_paired p0 p1 K w) : Calls Try.prog 100 #[p0, p1] w (retK R) :=
  calls_of_def [p0, p1] [(5, [4])] mixed Try.func100 (by kernel_rfl) (by kernel_rfl) (by kernel_rfl) (X := cell_paired p0 p1 R w) (by kernel_rfl) (h R fun _ _ h => h)
theorem cell_paired_b : Bodied Try.prog 100 := ⟨_, Try.func100, by kernel_rfl, by kernel_rfl⟩

/- lyceum/cell.single -/
def cell_single (p0 : Value) (K : Value → World → Prop) (w : World) : Prop :=
  OpX Try.prog (Op.box 44 (Operand.const p0)) 0 (fun t1 w =>
  Join1 (fun k1 w =>
  OpX Try.prog (Op.fieldAddr 44 (Operand.const t1) 3) 0 (fun t3 w =>
  OpX Try.prog (Op.load 5 (Operand.const t3)) 5 (fun t4 w =>
  BinX Try.prog BinOp.and 5 t4 (Value.int IntKind.u8 192) (fun t5 w =>
  BinX Try.prog BinOp.eql 5 t5 (Value.int IntKind.u8 0) (fun t6 w =>
  BrW t6
  (OpX Try.prog (Op.load 44 (Operand.const t1)) 44 (fun t8 w =>
  OpX Try.prog (Op.call { callee := Callee.value (Operand.func 98), args := #[Operand.const t8], argTypes := #[44] }) 4 (fun t9 w =>
  k1 t9 w) w) w)
  (k1 (Value.bool false) w) ()) w) w) w) w) (fun t2 w =>
  K t2 w) w) w
theorem cell_single_link (p0 : Value) {R : Value → World → Prop} {w : World} (h : ∀ K : Value → World → Prop, (∀ v w', R v w' → K v w') → cell_single p0 K w) : Calls Try.prog 101 #[p0] w (retK R) :=
  calls_of_def [p0] [(3, [2])] mixed Try.func101 (by kernel_rfl) (by kernel_rfl) (by kernel_rfl) (X := cell_single p0 R w) (by kernel_rfl) (h R fun _ _ h => h)
theorem cell_single_b : Bodied Try.prog 101 := ⟨_, Try.func101, by kernel_rfl, by kernel_rfl⟩

/- lyceum/cell.Blank -/
def cell_Blank (K : Value → World → Prop) (w : World) : Prop :=
  OpX Try.prog (Op.alloc 44) 0 (fun t0 w =>
  OpX Try.prog (Op.build 44 #[(0, Operand.const (Value.int IntKind.i32 32))]) 44 (fun t1 w =>
  OpX Try.prog (Op.store 44 (Operand.const t0) (Operand.const t1)) 0 (fun _ w =>
  LdR Try.prog 44 t0 (fun t0_1 w =>
  K t0_1 w) w) w) w) w
theorem cell_Blank_link {R : Value → World → Prop} {w : World} (h : ∀ K : Value → World → Prop, (∀ v w', R v w' → K v w') → cell_Blank K w) : Calls Try.prog 105 #[] w (retK R) :=
  calls_of_def [] [] mixed Try.func105 (by kernel_rfl) (by kernel_rfl) (by kernel_rfl) (X := cell_Blank R w) (by kernel_rfl) (h R fun _ _ h => h)
theorem cell_Blank_b : Bodied Try.prog 105 := ⟨_, Try.func105, by kernel_rfl, by kernel_rfl⟩

/- lyceum/cell.tailOf -/
def cell_tailOf (p0 : Value) (K : Value → World → Prop) (w : World) : Prop :=
  OpX Try.prog (Op.box 44 (Operand.const p0)) 0 (fun t1 w =>
  OpX Try.prog (Op.alloc 44) 0 (fun t2 w =>
  OpX Try.prog (Op.fieldAddr 44 (Operand.const t1) 1) 0 (fun t3 w =>
  OpX Try.prog (Op.load 5 (Operand.const t3)) 5 (fun t4 w =>
  OpX Try.prog (Op.fieldAddr 44 (Operand.const t1) 2) 0 (fun t5 w =>
  OpX Try.prog (Op.load 5 (Operand.const t5)) 5 (fun t6 w =>
  OpX Try.prog (Op.fieldAddr 44 (Operand.const t1) 3) 0 (fun t7 w =>
  OpX Try.prog (Op.load 5 (Operand.const t7)) 5 (fun t8 w =>
  BinX Try.prog BinOp.andNot 5 t8 (Value.int IntKind.u8 64) (fun t9 w =>
  BinX Try.prog BinOp.or 5 t9 (Value.int IntKind.u8 128) (fun t10 w =>
  OpX Try.prog (Op.build 44 #[(1, Operand.const t4), (2, Operand.const t6), (3, Operand.const t10)]) 44 (fun t11 w =>
  OpX Try.prog (Op.store 44 (Operand.const t2) (Operand.const t11)) 0 (fun _ w =>
  LdR Try.prog 44 t2 (fun t2_1 w =>
  K t2_1 w) w) w) w) w) w) w) w) w) w) w) w) w) w
theorem cell_tailOf_link (p0 : Value) {R : Value → World → Prop} {w : World} (h : ∀ K : Value → World → Prop, (∀ v w', R v w' → K v w') → cell_tailOf p0 K w) : Calls Try.prog 117 #[p0] w (retK R) :=
  calls_of_def [p0] [] mixed Try.func117 (by kernel_rfl) (by kernel_rfl) (by kernel_rfl) (X := cell_tailOf p0 R w) (by kernel_rfl) (h R fun _ _ h => h)
theorem cell_tailOf_b : Bodied Try.prog 117 := ⟨_, Try.func117, by kernel_rfl, by kernel_rfl⟩

/- lyceum/runes.Encode -/
def runes_Encode (p0 : Value) (K : Value → World → Prop) (w : World) : Prop :=
  OpX Try.prog (Op.call { callee := Callee.builtin Builtin.len, args := #[Operand.const p0], argTypes := #[129] }) 3 (fun t7 w =>
  Loop2 (Value.slice none 0 0) (Value.int IntKind.i64 0) (fun t3 t8 next1 w =>
  BinX Try.prog BinOp.lss 3 t8 t7 (fun t9 w =>
  BrW t9
  (OpX Try.prog (Op.indexAddr 129 (Operand.const p0) (Operand.const t8)) 0 (fun t10 w =>
  OpX Try.prog (Op.load 21 (Operand.const t10)) 21 (fun t11 w =>
  Join1 (fun k2 w =>
  OpX Try.prog (Op.call { callee := Callee.value (Operand.func 115), args := #[Operand.const t11], argTypes := #[21] }) 4 (fun t13 w =>
  OpX Try.prog (Op.unOp UnOp.not 4 (Operand.const t13)) 4 (fun t14 w =>
  BrW t14
  (k2 (Value.int IntKind.i32 65533) w)
  (k2 t11 w) ()) w) w) (fun t5 w =>
  OpX Try.prog (Op.call { callee := Callee.value (Operand.func 116), args := #[Operand.const t3, Operand.const t5], argTypes := #[140, 21] }) 140 (fun t17 w =>
  BinX Try.prog BinOp.add 3 t8 (Value.int IntKind.i64 1) (fun t18 w =>
  next1 t17 t18 w) w) w) w) w) w)
  (OpX Try.prog (Op.convert 140 9 (Operand.const t3)) 9 (fun t20 w =>
  K t20 w) w) ()) w) w) w
theorem runes_Encode_link (p0 : Value) {R : Value → World → Prop} {w : World} (h : ∀ K : Value → World → Prop, (∀ v w', R v w' → K v w') → runes_Encode p0 K w) : Calls Try.prog 99 #[p0] w (retK R) :=
  calls_of_def [p0] [(8, [3, 8]), (19, [5])] mixed Try.func99 (by kernel_rfl) (by kernel_rfl) (by kernel_rfl) (X := runes_Encode p0 R w) (by kernel_rfl) (h R fun _ _ h => h)
theorem runes_Encode_b : Bodied Try.prog 99 := ⟨_, Try.func99, by kernel_rfl, by kernel_rfl⟩

/- lyceum/runes.Width -/
def runes_Width (p0 : Value) (K : Value → World → Prop) (w : World) : Prop :=
  OpX Try.prog (Op.build 150 #[(0, Operand.const (Value.int IntKind.i32 127)), (1, Operand.const (Value.int IntKind.i32 159)), (2, Operand.const (Value.int IntKind.i64 0))]) 150 (fun t6 w =>
  OpX Try.prog (Op.build 150 #[(0, Operand.const (Value.int IntKind.i32 768)), (1, Operand.const (Value.int IntKind.i32 879)), (2, Operand.const (Value.int IntKind.i64 0))]) 150 (fun t7 w =>
  OpX Try.prog (Op.build 150 #[(0, Operand.const (Value.int IntKind.i32 8203)), (1, Operand.const (Value.int IntKind.i32 8207)), (2, Operand.const (Value.int IntKind.i64 0))]) 150 (fun t8 w =>
  OpX Try.prog (Op.build 150 #[(0, Operand.const (Value.int IntKind.i32 55296)), (1, Operand.const (Value.int IntKind.i32 57343)), (2, Operand.const (Value.int IntKind.i64 0))]) 150 (fun t9 w =>
  OpX Try.prog (Op.build 150 #[(0, Operand.const (Value.int IntKind.i32 65024)), (1, Operand.const (Value.int IntKind.i32 65039)), (2, Operand.const (Value.int IntKind.i64 0))]) 150 (fun t10 w =>
  OpX Try.prog (Op.build 150 #[(0, Operand.const (Value.int IntKind.i32 4352)), (1, Operand.const (Value.int IntKind.i32 4447)), (2, Operand.const (Value.int IntKind.i64 2))]) 150 (fun t11 w =>
  OpX Try.prog (Op.build 150 #[(0, Operand.const (Value.int IntKind.i32 11904)), (1, Operand.const (Value.int IntKind.i32 12350)), (2, Operand.const (Value.int IntKind.i64 2))]) 150 (fun t12 w =>
  OpX Try.prog (Op.build 150 #[(0, Operand.const (Value.int IntKind.i32 12353)), (1, Operand.const (Value.int IntKind.i32 42191)), (2, Operand.const (Value.int IntKind.i64 2))]) 150 (fun t13 w =>
  OpX Try.prog (Op.build 150 #[(0, Operand.const (Value.int IntKind.i32 44032)), (1, Operand.const (Value.int IntKind.i32 55203)), (2, Operand.const (Value.int IntKind.i64 2))]) 150 (fun t14 w =>
  OpX Try.prog (Op.build 150 #[(0, Operand.const (Value.int IntKind.i32 63744)), (1, Operand.const (Value.int IntKind.i32 64255)), (2, Operand.const (Value.int IntKind.i64 2))]) 150 (fun t15 w =>
  OpX Try.prog (Op.build 150 #[(0, Operand.const (Value.int IntKind.i32 65072)), (1, Operand.const (Value.int IntKind.i32 65135)), (2, Operand.const (Value.int IntKind.i64 2))]) 150 (fun t16 w =>
  OpX Try.prog (Op.build 150 #[(0, Operand.const (Value.int IntKind.i32 65281)), (1, Operand.const (Value.int IntKind.i32 65376)), (2, Operand.const (Value.int IntKind.i64 2))]) 150 (fun t17 w =>
  OpX Try.prog (Op.build 150 #[(0, Operand.const (Value.int IntKind.i32 65504)), (1, Operand.const (Value.int IntKind.i32 65510)), (2, Operand.const (Value.int IntKind.i64 2))]) 150 (fun t18 w =>
  OpX Try.prog (Op.build 150 #[(0, Operand.const (Value.int IntKind.i32 127744)), (1, Operand.const (Value.int IntKind.i32 128591)), (2, Operand.const (Value.int IntKind.i64 2))]) 150 (fun t19 w =>
  OpX Try.prog (Op.build 150 #[(0, Operand.const (Value.int IntKind.i32 129280)), (1, Operand.const (Value.int IntKind.i32 129535)), (2, Operand.const (Value.int IntKind.i64 2))]) 150 (fun t20 w =>
  OpX Try.prog (Op.build 150 #[(0, Operand.const (Value.int IntKind.i32 131072)), (1, Operand.const (Value.int IntKind.i32 262141)), (2, Operand.const (Value.int IntKind.i64 2))]) 150 (fun t21 w =>
  OpX Try.prog (Op.build 151 #[(0, Operand.const t6), (1, Operand.const t7), (2, Operand.const t8), (3, Operand.const t9), (4, Operand.const t10), (5, Operand.const t11), (6, Operand.const t12), (7, Operand.const t13), (8, Operand.const t14), (9, Operand.const t15), (10, Operand.const t16), (11, Operand.const t17), (12, Operand.const t18), (13, Operand.const t19), (14, Operand.const t20), (15, Operand.const t21)]) 151 (fun t22 w =>
  OpX Try.prog (Op.alloc 151) 0 (fun t3 w =>
  OpX Try.prog (Op.store 151 (Operand.const t3) (Operand.const t22)) 0 (fun _ w =>
  Join1 (fun k1 w =>
  BinX Try.prog BinOp.lss 21 p0 (Value.int IntKind.i32 32) (fun t25 w =>
  BrW t25
  (k1 (Value.bool true) w)
  (BinX Try.prog BinOp.gtr 21 p0 (Value.int IntKind.i32 1114111) (fun t28 w =>
  k1 t28 w) w) ()) w) (fun t23 w =>
  BrW t23
  (K (Value.int IntKind.i64 0) w)
  (BinX Try.prog BinOp.lss 21 p0 (Value.int IntKind.i32 127) (fun t32 w =>
  BrW t32
  (K (Value.int IntKind.i64 1) w)
  (OpX Try.prog (Op.load 151 (Operand.const t3)) 151 (fun t33 w =>
  Loop1 (Value.int IntKind.i64 0) (fun t34 next2 w =>
  BinX Try.prog BinOp.lss 3 t34 (Value.int IntKind.i64 16) (fun t35 w =>
  BrW t35
  (OpX Try.prog (Op.index 151 (Operand.const t33) (Operand.const t34)) 150 (fun t36 w =>
  OpX Try.prog (Op.alloc 150) 0 (fun t5 w =>
  OpX Try.prog (Op.store 150 (Operand.const t5) (Operand.const t36)) 0 (fun _ w =>
  Join1 (fun k3 w =>
  OpX Try.prog (Op.fieldAddr 150 (Operand.const t5) 0) 0 (fun t38 w =>
  OpX Try.prog (Op.load 21 (Operand.const t38)) 21 (fun t39 w =>
  BinX Try.prog BinOp.geq 21 p0 t39 (fun t40 w =>
  BrW t40
  (OpX Try.prog (Op.fieldAddr 150 (Operand.const t5) 1) 0 (fun t43 w =>
  OpX Try.prog (Op.load 21 (Operand.const t43)) 21 (fun t44 w =>
  BinX Try.prog BinOp.leq 21 p0 t44 (fun t45 w =>
  k3 t45 w) w) w) w)
  (k3 (Value.bool false) w) ()) w) w) w) (fun t46 w =>
  BrW t46
  (OpX Try.prog (Op.fieldAddr 150 (Operand.const t5) 2) 0 (fun t47 w =>
  OpX Try.prog (Op.load 3 (Operand.const t47)) 3 (fun t48 w =>
  K t48 w) w) w)
  (BinX Try.prog BinOp.add 3 t34 (Value.int IntKind.i64 1) (fun t49 w =>
  next2 t49 w) w) ()) w) w) w) w)
  (K (Value.int IntKind.i64 1) w) ()) w) w) w) ()) w) ()) w) w) w) w) w) w) w) w) w) w) w) w) w) w) w) w) w) w) w) w
theorem runes_Width_link (p0 : Value) {R : Value → World → Prop} {w : World} (h : ∀ K : Value → World → Prop, (∀ v w', R v w' → K v w') → runes_Width p0 K w) : Calls Try.prog 114 #[p0] w (retK R) :=
  calls_of_def [p0] [(7, [23]), (23, [34]), (35, [46])] mixed Try.func114 (by kernel_rfl) (by kernel_rfl) (by kernel_rfl) (X := runes_Width p0 R w) (by kernel_rfl) (h R fun _ _ h => h)
theorem runes_Width_b : Bodied Try.prog 114 := ⟨_, Try.func114, by kernel_rfl, by kernel_rfl⟩

/- unicode/utf8.ValidRune -/
def unicode_utf8_ValidRune (p0 : Value) (K : Value → World → Prop) (w : World) : Prop :=
  Join1 (fun k1 w =>
  BinX Try.prog BinOp.leq 21 (Value.int IntKind.i32 0) p0 (fun t5 w =>
  BrW t5
  (BinX Try.prog BinOp.lss 21 p0 (Value.int IntKind.i32 55296) (fun t8 w =>
  k1 t8 w) w)
  (k1 (Value.bool false) w) ()) w) (fun t3 w =>
  BrW t3
  (K (Value.bool true) w)
  (Join1 (fun k2 w =>
  BinX Try.prog BinOp.lss 21 (Value.int IntKind.i32 57343) p0 (fun t12 w =>
  BrW t12
  (BinX Try.prog BinOp.leq 21 p0 (Value.int IntKind.i32 1114111) (fun t15 w =>
  k2 t15 w) w)
  (k2 (Value.bool false) w) ()) w) (fun t10 w =>
  BrW t10
  (K (Value.bool true) w)
  (K (Value.bool false) w) ()) w) ()) w
theorem unicode_utf8_ValidRune_link (p0 : Value) {R : Value → World → Prop} {w : World} (h : ∀ K : Value → World → Prop, (∀ v w', R v w' → K v w') → unicode_utf8_ValidRune p0 K w) : Calls Try.prog 115 #[p0] w (retK R) :=
  calls_of_def [p0] [(5, [3]), (11, [10])] mixed Try.func115 (by kernel_rfl) (by kernel_rfl) (by kernel_rfl) (X := unicode_utf8_ValidRune p0 R w) (by kernel_rfl) (h R fun _ _ h => h)
theorem unicode_utf8_ValidRune_b : Bodied Try.prog 115 := ⟨_, Try.func115, by kernel_rfl, by kernel_rfl⟩

/- unicode/utf8.AppendRune -/
def unicode_utf8_AppendRune (p0 p1 : Value) (K : Value → World → Prop) (w : World) : Prop :=
  OpX Try.prog (Op.convert 21 152 (Operand.const p1)) 152 (fun t6 w =>
  BinX Try.prog BinOp.leq 152 t6 (Value.int IntKind.u32 127) (fun t7 w =>
  BrW t7
  (OpX Try.prog (Op.convert 21 5 (Operand.const p1)) 5 (fun t10 w =>
  OpX Try.prog (Op.buildSlice 140 1 #[(0, Operand.const t10)]) 140 (fun t11 w =>
  OpX Try.prog (Op.call { callee := Callee.builtin Builtin.append, args := #[Operand.const p0, Operand.const t11], argTypes := #[140, 140] }) 140 (fun t12 w =>
  K t12 w) w) w) w)
  (OpX Try.prog (Op.call { callee := Callee.value (Operand.func 126), args := #[Operand.const p0, Operand.const p1], argTypes := #[140, 21] }) 140 (fun t15 w =>
  K t15 w) w) ()) w) w
theorem unicode_utf8_AppendRune_link (p0 p1 : Value) {R : Value → World → Prop} {w : World} (h : ∀ K : Value → World → Prop, (∀ v w', R v w' → K v w') → unicode_utf8_AppendRune p0 p1 K w) : Calls Try.prog 116 #[p0, p1] w (retK R) :=
  calls_of_def [p0, p1] [] mixed Try.func116 (by kernel_rfl) (by kernel_rfl) (by kernel_rfl) (X := unicode_utf8_AppendRune p0 p1 R w) (by kernel_rfl) (h R fun _ _ h => h)
theorem unicode_utf8_AppendRune_b : Bodied Try.prog 116 := ⟨_, Try.func116, by kernel_rfl, by kernel_rfl⟩

/- unicode/utf8.appendRuneNonASCII -/
def unicode_utf8_appendRuneNonASCII (p0 p1 : Value) (K : Value → World → Prop) (w : World) : Prop :=
  OpX Try.prog (Op.convert 21 152 (Operand.const p1)) 152 (fun t7 w =>
  BinX Try.prog BinOp.leq 152 t7 (Value.int IntKind.u32 2047) (fun t13 w =>
  BrW t13
  (BinX Try.prog BinOp.shr 21 p1 (Value.int IntKind.u64 6) (fun t16 w =>
  OpX Try.prog (Op.convert 21 5 (Operand.const t16)) 5 (fun t17 w =>
  BinX Try.prog BinOp.or 5 (Value.int IntKind.u8 192) t17 (fun t18 w =>
  OpX Try.prog (Op.convert 21 5 (Operand.const p1)) 5 (fun t20 w =>
  BinX Try.prog BinOp.and 5 t20 (Value.int IntKind.u8 63) (fun t21 w =>
  BinX Try.prog BinOp.or 5 (Value.int IntKind.u8 128) t21 (fun t22 w =>
  OpX Try.prog (Op.buildSlice 140 2 #[(0, Operand.const t18), (1, Operand.const t22)]) 140 (fun t23 w =>
  OpX Try.prog (Op.call { callee := Callee.builtin Builtin.append, args := #[Operand.const p0, Operand.const t23], argTypes := #[140, 140] }) 140 (fun t24 w =>
  K t24 w) w) w) w) w) w) w) w) w)
  (Join1 (fun k1 w =>
  BinX Try.prog BinOp.lss 152 t7 (Value.int IntKind.u32 55296) (fun t27 w =>
  BrW t27
  (k1 (Value.bool true) w)
  (Join1 (fun k2 w =>
  BinX Try.prog BinOp.lss 152 (Value.int IntKind.u32 57343) t7 (fun t29 w =>
  BrW t29
  (BinX Try.prog BinOp.leq 152 t7 (Value.int IntKind.u32 65535) (fun t32 w =>
  k2 t32 w) w)
  (k2 (Value.bool false) w) ()) w) (fun t25 w =>
  k1 t25 w) w) ()) w) (fun t25_1 w =>
  BrW t25_1
  (BinX Try.prog BinOp.shr 21 p1 (Value.int IntKind.u64 12) (fun t36 w =>
  OpX Try.prog (Op.convert 21 5 (Operand.const t36)) 5 (fun t37 w =>
  BinX Try.prog BinOp.or 5 (Value.int IntKind.u8 224) t37 (fun t38 w =>
  BinX Try.prog BinOp.shr 21 p1 (Value.int IntKind.u64 6) (fun t40 w =>
  OpX Try.prog (Op.convert 21 5 (Operand.const t40)) 5 (fun t41 w =>
  BinX Try.prog BinOp.and 5 t41 (Value.int IntKind.u8 63) (fun t42 w =>
  BinX Try.prog BinOp.or 5 (Value.int IntKind.u8 128) t42 (fun t43 w =>
  OpX Try.prog (Op.convert 21 5 (Operand.const p1)) 5 (fun t45 w =>
  BinX Try.prog BinOp.and 5 t45 (Value.int IntKind.u8 63) (fun t46 w =>
  BinX Try.prog BinOp.or 5 (Value.int IntKind.u8 128) t46 (fun t47 w =>
  OpX Try.prog (Op.buildSlice 140 3 #[(0, Operand.const t38), (1, Operand.const t43), (2, Operand.const t47)]) 140 (fun t48 w =>
  OpX Try.prog (Op.call { callee := Callee.builtin Builtin.append, args := #[Operand.const p0, Operand.const t48], argTypes := #[140, 140] }) 140 (fun t49 w =>
  K t49 w) w) w) w) w) w) w) w) w) w) w) w) w)
  (Join1 (fun k3 w =>
  BinX Try.prog BinOp.gtr 152 t7 (Value.int IntKind.u32 65535) (fun t52 w =>
  BrW t52
  (BinX Try.prog BinOp.leq 152 t7 (Value.int IntKind.u32 1114111) (fun t55 w =>
  k3 t55 w) w)
  (k3 (Value.bool false) w) ()) w) (fun t50 w =>
  BrW t50
  (BinX Try.prog BinOp.shr 21 p1 (Value.int IntKind.u64 18) (fun t59 w =>
  OpX Try.prog (Op.convert 21 5 (Operand.const t59)) 5 (fun t60 w =>
  BinX Try.prog BinOp.or 5 (Value.int IntKind.u8 240) t60 (fun t61 w =>
  BinX Try.prog BinOp.shr 21 p1 (Value.int IntKind.u64 12) (fun t63 w =>
  OpX Try.prog (Op.convert 21 5 (Operand.const t63)) 5 (fun t64 w =>
  BinX Try.prog BinOp.and 5 t64 (Value.int IntKind.u8 63) (fun t65 w =>
  BinX Try.prog BinOp.or 5 (Value.int IntKind.u8 128) t65 (fun t66 w =>
  BinX Try.prog BinOp.shr 21 p1 (Value.int IntKind.u64 6) (fun t68 w =>
  OpX Try.prog (Op.convert 21 5 (Operand.const t68)) 5 (fun t69 w =>
  BinX Try.prog BinOp.and 5 t69 (Value.int IntKind.u8 63) (fun t70 w =>
  BinX Try.prog BinOp.or 5 (Value.int IntKind.u8 128) t70 (fun t71 w =>
  OpX Try.prog (Op.convert 21 5 (Operand.const p1)) 5 (fun t73 w =>
  BinX Try.prog BinOp.and 5 t73 (Value.int IntKind.u8 63) (fun t74 w =>
  BinX Try.prog BinOp.or 5 (Value.int IntKind.u8 128) t74 (fun t75 w =>
  OpX Try.prog (Op.buildSlice 140 4 #[(0, Operand.const t61), (1, Operand.const t66), (2, Operand.const t71), (3, Operand.const t75)]) 140 (fun t76 w =>
  OpX Try.prog (Op.call { callee := Callee.builtin Builtin.append, args := #[Operand.const p0, Operand.const t76], argTypes := #[140, 140] }) 140 (fun t77 w =>
  K t77 w) w) w) w) w) w) w) w) w) w) w) w) w) w) w) w) w)
  (OpX Try.prog (Op.buildSlice 140 3 #[(0, Operand.const (Value.int IntKind.u8 239)), (1, Operand.const (Value.int IntKind.u8 191)), (2, Operand.const (Value.int IntKind.u8 189))]) 140 (fun t9 w =>
  OpX Try.prog (Op.call { callee := Callee.builtin Builtin.append, args := #[Operand.const p0, Operand.const t9], argTypes := #[140, 140] }) 140 (fun t10 w =>
  K t10 w) w) w) ()) w) ()) w) ()) w) w
theorem unicode_utf8_appendRuneNonASCII_link (p0 p1 : Value) {R : Value → World → Prop} {w : World} (h : ∀ K : Value → World → Prop, (∀ v w', R v w' → K v w') → unicode_utf8_appendRuneNonASCII p0 p1 K w) : Calls Try.prog 126 #[p0, p1] w (retK R) :=
  calls_of_def [p0, p1] [(11, [25]), (16, [25]), (22, [50])] mixed Try.func126 (by kernel_rfl) (by kernel_rfl) (by kernel_rfl) (X := unicode_utf8_appendRuneNonASCII p0 p1 R w) (by kernel_rfl) (h R fun _ _ h => h)
theorem unicode_utf8_appendRuneNonASCII_b : Bodied Try.prog 126 := ⟨_, Try.func126, by kernel_rfl, by kernel_rfl⟩

/- lyceum/lyceumref04.Width -/
def lyceumref04_Width (p0 : Value) (K : Value → World → Prop) (w : World) : Prop :=
  Join1 (fun k1 w =>
  OpX Try.prog (Op.call { callee := Callee.value (Operand.func 118), args := #[Operand.const p0], argTypes := #[21] }) 4 (fun t4 w =>
  BrW t4
  (k1 (Value.bool true) w)
  (BinX Try.prog BinOp.lss 21 p0 (Value.int IntKind.i32 32) (fun t7 w =>
  BrW t7
  (k1 (Value.bool true) w)
  (OpX Try.prog (Op.call { callee := Callee.value (Operand.func 119), args := #[Operand.const p0, Operand.const (Value.int IntKind.i64 127), Operand.const (Value.int IntKind.i64 159)], argTypes := #[21, 3, 3] }) 4 (fun t11 w =>
  BrW t11
  (k1 (Value.bool true) w)
  (OpX Try.prog (Op.call { callee := Callee.value (Operand.func 119), args := #[Operand.const p0, Operand.const (Value.int IntKind.i64 768), Operand.const (Value.int IntKind.i64 879)], argTypes := #[21, 3, 3] }) 4 (fun t15 w =>
  BrW t15
  (k1 (Value.bool true) w)
  (OpX Try.prog (Op.call { callee := Callee.value (Operand.func 119), args := #[Operand.const p0, Operand.const (Value.int IntKind.i64 8203), Operand.const (Value.int IntKind.i64 8207)], argTypes := #[21, 3, 3] }) 4 (fun t19 w =>
  BrW t19
  (k1 (Value.bool true) w)
  (OpX Try.prog (Op.call { callee := Callee.value (Operand.func 119), args := #[Operand.const p0, Operand.const (Value.int IntKind.i64 65024), Operand.const (Value.int IntKind.i64 65039)], argTypes := #[21, 3, 3] }) 4 (fun t23 w =>
  k1 t23 w) w) ()) w) ()) w) ()) w) ()) w) ()) w) (fun t24 w =>
  BrW t24
  (K (Value.int IntKind.i64 0) w)
  (Join1 (fun k2 w =>
  OpX Try.prog (Op.call { callee := Callee.value (Operand.func 119), args := #[Operand.const p0, Operand.const (Value.int IntKind.i64 4352), Operand.const (Value.int IntKind.i64 4447)], argTypes := #[21, 3, 3] }) 4 (fun t26 w =>
  BrW t26
  (k2 (Value.bool true) w)
  (OpX Try.prog (Op.call { callee := Callee.value (Operand.func 119), args := #[Operand.const p0, Operand.const (Value.int IntKind.i64 11904), Operand.const (Value.int IntKind.i64 12350)], argTypes := #[21, 3, 3] }) 4 (fun t29 w =>
  BrW t29
  (k2 (Value.bool true) w)
  (OpX Try.prog (Op.call { callee := Callee.value (Operand.func 119), args := #[Operand.const p0, Operand.const (Value.int IntKind.i64 12353), Operand.const (Value.int IntKind.i64 42191)], argTypes := #[21, 3, 3] }) 4 (fun t33 w =>
  BrW t33
  (k2 (Value.bool true) w)
  (OpX Try.prog (Op.call { callee := Callee.value (Operand.func 119), args := #[Operand.const p0, Operand.const (Value.int IntKind.i64 44032), Operand.const (Value.int IntKind.i64 55203)], argTypes := #[21, 3, 3] }) 4 (fun t37 w =>
  BrW t37
  (k2 (Value.bool true) w)
  (OpX Try.prog (Op.call { callee := Callee.value (Operand.func 119), args := #[Operand.const p0, Operand.const (Value.int IntKind.i64 63744), Operand.const (Value.int IntKind.i64 64255)], argTypes := #[21, 3, 3] }) 4 (fun t41 w =>
  BrW t41
  (k2 (Value.bool true) w)
  (OpX Try.prog (Op.call { callee := Callee.value (Operand.func 119), args := #[Operand.const p0, Operand.const (Value.int IntKind.i64 65072), Operand.const (Value.int IntKind.i64 65135)], argTypes := #[21, 3, 3] }) 4 (fun t45 w =>
  BrW t45
  (k2 (Value.bool true) w)
  (OpX Try.prog (Op.call { callee := Callee.value (Operand.func 119), args := #[Operand.const p0, Operand.const (Value.int IntKind.i64 65281), Operand.const (Value.int IntKind.i64 65376)], argTypes := #[21, 3, 3] }) 4 (fun t49 w =>
  BrW t49
  (k2 (Value.bool true) w)
  (OpX Try.prog (Op.call { callee := Callee.value (Operand.func 119), args := #[Operand.const p0, Operand.const (Value.int IntKind.i64 65504), Operand.const (Value.int IntKind.i64 65510)], argTypes := #[21, 3, 3] }) 4 (fun t53 w =>
  BrW t53
  (k2 (Value.bool true) w)
  (OpX Try.prog (Op.call { callee := Callee.value (Operand.func 119), args := #[Operand.const p0, Operand.const (Value.int IntKind.i64 127744), Operand.const (Value.int IntKind.i64 128591)], argTypes := #[21, 3, 3] }) 4 (fun t57 w =>
  BrW t57
  (k2 (Value.bool true) w)
  (OpX Try.prog (Op.call { callee := Callee.value (Operand.func 119), args := #[Operand.const p0, Operand.const (Value.int IntKind.i64 129280), Operand.const (Value.int IntKind.i64 129535)], argTypes := #[21, 3, 3] }) 4 (fun t61 w =>
  BrW t61
  (k2 (Value.bool true) w)
  (OpX Try.prog (Op.call { callee := Callee.value (Operand.func 119), args := #[Operand.const p0, Operand.const (Value.int IntKind.i64 131072), Operand.const (Value.int IntKind.i64 262141)], argTypes := #[21, 3, 3] }) 4 (fun t65 w =>
  k2 t65 w) w) ()) w) ()) w) ()) w) ()) w) ()) w) ()) w) ()) w) ()) w) ()) w) ()) w) (fun t66 w =>
  BrW t66
  (K (Value.int IntKind.i64 2) w)
  (K (Value.int IntKind.i64 1) w) ()) w) ()) w
theorem lyceumref04_Width_link (p0 : Value) {R : Value → World → Prop} {w : World} (h : ∀ K : Value → World → Prop, (∀ v w', R v w' → K v w') → lyceumref04_Width p0 K w) : Calls Try.prog 102 #[p0] w (retK R) :=
  calls_of_def [p0] [(4, [24]), (12, [66])] mixed Try.func102 (by kernel_rfl) (by kernel_rfl) (by kernel_rfl) (X := lyceumref04_Width p0 R w) (by kernel_rfl) (h R fun _ _ h => h)
theorem lyceumref04_Width_b : Bodied Try.prog 102 := ⟨_, Try.func102, by kernel_rfl, by kernel_rfl⟩

/- lyceum/lyceumref04.none -/
def lyceumref04_none (p0 : Value) (K : Value → World → Prop) (w : World) : Prop :=
  Join1 (fun k1 w =>
  BinX Try.prog BinOp.lss 21 p0 (Value.int IntKind.i32 0) (fun t4 w =>
  BrW t4
  (k1 (Value.bool true) w)
  (BinX Try.prog BinOp.gtr 21 p0 (Value.int IntKind.i32 1114111) (fun t7 w =>
  BrW t7
  (k1 (Value.bool true) w)
  (BinX Try.prog BinOp.geq 21 p0 (Value.int IntKind.i32 55296) (fun t11 w =>
  BrW t11
  (BinX Try.prog BinOp.leq 21 p0 (Value.int IntKind.i32 57343) (fun t14 w =>
  k1 t14 w) w)
  (k1 (Value.bool false) w) ()) w) ()) w) ()) w) (fun t2 w =>
  K t2 w) w
theorem lyceumref04_none_link (p0 : Value) {R : Value → World → Prop} {w : World} (h : ∀ K : Value → World → Prop, (∀ v w', R v w' → K v w') → lyceumref04_none p0 K w) : Calls Try.prog 118 #[p0] w (retK R) :=
  calls_of_def [p0] [(3, [2])] mixed Try.func118 (by kernel_rfl) (by kernel_rfl) (by kernel_rfl) (X := lyceumref04_none p0 R w) (by kernel_rfl) (h R fun _ _ h => h)
theorem lyceumref04_none_b : Bodied Try.prog 118 := ⟨_, Try.func118, by kernel_rfl, by kernel_rfl⟩

/- lyceum/lyceumref04.within -/
def lyceumref04_within (p0 p1 p2 : Value) (K : Value → World → Prop) (w : World) : Prop :=
  Join1 (fun k1 w =>
  OpX Try.prog (Op.convert 21 3 (Operand.const p0)) 3 (fun t8 w =>
  BinX Try.prog BinOp.geq 3 t8 p1 (fun t10 w =>
  BrW t10
  (OpX Try.prog (Op.convert 21 3 (Operand.const p0)) 3 (fun t13 w =>
  BinX Try.prog BinOp.leq 3 t13 p2 (fun t15 w =>
  k1 t15 w) w) w)
  (k1 (Value.bool false) w) ()) w) w) (fun t6 w =>
  K t6 w) w
theorem lyceumref04_within_link (p0 p1 p2 : Value) {R : Value → World → Prop} {w : World} (h : ∀ K : Value → World → Prop, (∀ v w', R v w' → K v w') → lyceumref04_within p0 p1 p2 K w) : Calls Try.prog 119 #[p0, p1, p2] w (retK R) :=
  calls_of_def [p0, p1, p2] [(3, [6])] mixed Try.func119 (by kernel_rfl) (by kernel_rfl) (by kernel_rfl) (X := lyceumref04_within p0 p1 p2 R w) (by kernel_rfl) (h R fun _ _ h => h)
theorem lyceumref04_within_b : Bodied Try.prog 119 := ⟨_, Try.func119, by kernel_rfl, by kernel_rfl⟩

/- lyceum/lyceumref05.Same -/
def lyceumref05_Same (p0 p1 : Value) (K : Value → World → Prop) (w : World) : Prop :=
  OpX Try.prog (Op.call { callee := Callee.builtin Builtin.len, args := #[Operand.const p0], argTypes := #[45] }) 3 (fun t7 w =>
  OpX Try.prog (Op.call { callee := Callee.builtin Builtin.len, args := #[Operand.const p1], argTypes := #[45] }) 3 (fun t9 w =>
  BinX Try.prog BinOp.neq 3 t7 t9 (fun t10 w =>
  BrW t10
  (K (Value.bool false) w)
  (Loop1 (Value.int IntKind.i64 0) (fun t5 next1 w =>
  OpX Try.prog (Op.call { callee := Callee.builtin Builtin.len, args := #[Operand.const p0], argTypes := #[45] }) 3 (fun t13 w =>
  BinX Try.prog BinOp.lss 3 t5 t13 (fun t14 w =>
  BrW t14
  (DrewW (fun w =>
  PurX Try.prog (Op.indexAddr 45 (Operand.const p0) (Operand.const t5)) 0 (fun t19 =>
  RdX Try.prog (Op.load 44 (Operand.const t19)) 44 (fun t20 =>
  PurX Try.prog (Op.indexAddr 45 (Operand.const p1) (Operand.const t5)) 0 (fun t23 =>
  RdX Try.prog (Op.load 44 (Operand.const t23)) 44 (fun t24 =>
  RdB Try.prog BinOp.neq 44 t20 t24 (fun t25 =>
  BrW t25
  (K (Value.bool false) w)
  (BinX Try.prog BinOp.add 3 t5 (Value.int IntKind.i64 1) (fun t16 w =>
  next1 t16 w) w) ()) w) w) ()) w) ()) w)
  (K (Value.bool true) w) ()) w) w) w) ()) w) w) w
theorem lyceumref05_Same_link (p0 p1 : Value) {R : Value → World → Prop} {w : World} (h : ∀ K : Value → World → Prop, (∀ v w', R v w' → K v w') → lyceumref05_Same p0 p1 K w) : Calls Try.prog 35 #[p0, p1] w (retK R) :=
  calls_of_def [p0, p1] [(14, [5])] mixed Try.func35 (by kernel_rfl) (by kernel_rfl) (by kernel_rfl) (X := lyceumref05_Same p0 p1 R w) (by kernel_rfl) (h R fun _ _ h => h)
theorem lyceumref05_Same_b : Bodied Try.prog 35 := ⟨_, Try.func35, by kernel_rfl, by kernel_rfl⟩

/- lyceum/lyceumref05.Make -/
def lyceumref05_Make (p0 p1 : Value) (K : Value → World → Prop) (w : World) : Prop :=
  OpX Try.prog (Op.box 44 (Operand.const p1)) 0 (fun t3 w =>
  OpX Try.prog (Op.call { callee := Callee.value (Operand.func 102), args := #[Operand.const p0], argTypes := #[21] }) 3 (fun t8 w =>
  OpX Try.prog (Op.fieldAddr 44 (Operand.const t3) 1) 0 (fun t10 w =>
  OpX Try.prog (Op.load 5 (Operand.const t10)) 5 (fun t11 w =>
  OpX Try.prog (Op.fieldAddr 44 (Operand.const t3) 2) 0 (fun t12 w =>
  OpX Try.prog (Op.load 5 (Operand.const t12)) 5 (fun t13 w =>
  OpX Try.prog (Op.fieldAddr 44 (Operand.const t3) 3) 0 (fun t14 w =>
  OpX Try.prog (Op.load 5 (Operand.const t14)) 5 (fun t15 w =>
  BinX Try.prog BinOp.rem 5 t15 (Value.int IntKind.u8 64) (fun t16 w =>
  OpX Try.prog (Op.build 44 #[(0, Operand.const p0), (1, Operand.const t11), (2, Operand.const t13), (3, Operand.const t16)]) 44 (fun t17 w =>
  OpX Try.prog (Op.alloc 44) 0 (fun t6 w =>
  OpX Try.prog (Op.store 44 (Operand.const t6) (Operand.const t17)) 0 (fun _ w =>
  BinX Try.prog BinOp.eql 3 t8 (Value.int IntKind.i64 1) (fun t19 w =>
  BrW t19
  (OpX Try.prog (Op.load 44 (Operand.const t6)) 44 (fun t20 w =>
  OpX Try.prog (Op.buildSlice 45 1 #[(0, Operand.const t20)]) 45 (fun t21 w =>
  K t21 w) w) w)
  (BinX Try.prog BinOp.eql 3 t8 (Value.int IntKind.i64 2) (fun t23 w =>
  BrW t23
  (OpX Try.prog (Op.fieldAddr 44 (Operand.const t6) 3) 0 (fun t24 w =>
  OpX Try.prog (Op.load 5 (Operand.const t24)) 5 (fun t25 w =>
  BinX Try.prog BinOp.add 5 t25 (Value.int IntKind.u8 64) (fun t26 w =>
  OpX Try.prog (Op.fieldAddr 44 (Operand.const t6) 3) 0 (fun t27 w =>
  OpX Try.prog (Op.store 5 (Operand.const t27) (Operand.const t26)) 0 (fun _ w =>
  DrewW (fun w =>
  RdX Try.prog (Op.load 44 (Operand.const t6)) 44 (fun t28 =>
  RdX Try.prog (Op.load 44 (Operand.const t6)) 44 (fun t29 =>
  OpX Try.prog (Op.call { callee := Callee.value (Operand.func 103), args := #[Operand.const t29], argTypes := #[44] }) 44 (fun t30 w =>
  (Yld Try.prog (Op.load 44 (Operand.const t6)) 44 t28 w) ∧ (OpX Try.prog (Op.buildSlice 45 2 #[(0, Operand.const t28), (1, Operand.const t30)]) 45 (fun t31 w =>
  K t31 w) w)) w) w) w) w) w) w) w) w) w)
  (K (Value.slice none 0 0) w) ()) w) ()) w) w) w) w) w) w) w) w) w) w) w) w) w
theorem lyceumref05_Make_link (p0 p1 : Value) {R : Value → World → Prop} {w : World} (h : ∀ K : Value → World → Prop, (∀ v w', R v w' → K v w') → lyceumref05_Make p0 p1 K w) : Calls Try.prog 68 #[p0, p1] w (retK R) :=
  calls_of_def [p0, p1] [] mixed Try.func68 (by kernel_rfl) (by kernel_rfl) (by kernel_rfl) (X := lyceumref05_Make p0 p1 R w) (by kernel_rfl) (h R fun _ _ h => h)
theorem lyceumref05_Make_b : Bodied Try.prog 68 := ⟨_, Try.func68, by kernel_rfl, by kernel_rfl⟩

/- lyceum/lyceumref05.Blank -/
def lyceumref05_Blank (K : Value → World → Prop) (w : World) : Prop :=
  OpX Try.prog (Op.alloc 44) 0 (fun t0 w =>
  OpX Try.prog (Op.build 44 #[(0, Operand.const (Value.int IntKind.i32 32))]) 44 (fun t1 w =>
  OpX Try.prog (Op.store 44 (Operand.const t0) (Operand.const t1)) 0 (fun _ w =>
  LdR Try.prog 44 t0 (fun t0_1 w =>
  K t0_1 w) w) w) w) w
theorem lyceumref05_Blank_link {R : Value → World → Prop} {w : World} (h : ∀ K : Value → World → Prop, (∀ v w', R v w' → K v w') → lyceumref05_Blank K w) : Calls Try.prog 71 #[] w (retK R) :=
  calls_of_def [] [] mixed Try.func71 (by kernel_rfl) (by kernel_rfl) (by kernel_rfl) (X := lyceumref05_Blank R w) (by kernel_rfl) (h R fun _ _ h => h)
theorem lyceumref05_Blank_b : Bodied Try.prog 71 := ⟨_, Try.func71, by kernel_rfl, by kernel_rfl⟩

/- lyceum/lyceumref05.Tail -/
def lyceumref05_Tail (p0 : Value) (K : Value → World → Prop) (w : World) : Prop :=
  OpX Try.prog (Op.box 44 (Operand.const p0)) 0 (fun t1 w =>
  OpX Try.prog (Op.alloc 44) 0 (fun t2 w =>
  OpX Try.prog (Op.fieldAddr 44 (Operand.const t1) 1) 0 (fun t3 w =>
  OpX Try.prog (Op.load 5 (Operand.const t3)) 5 (fun t4 w =>
  OpX Try.prog (Op.fieldAddr 44 (Operand.const t1) 2) 0 (fun t5 w =>
  OpX Try.prog (Op.load 5 (Operand.const t5)) 5 (fun t6 w =>
  OpX Try.prog (Op.fieldAddr 44 (Operand.const t1) 3) 0 (fun t7 w =>
  OpX Try.prog (Op.load 5 (Operand.const t7)) 5 (fun t8 w =>
  BinX Try.prog BinOp.rem 5 t8 (Value.int IntKind.u8 64) (fun t9 w =>
  BinX Try.prog BinOp.add 5 t9 (Value.int IntKind.u8 128) (fun t10 w =>
  OpX Try.prog (Op.build 44 #[(1, Operand.const t4), (2, Operand.const t6), (3, Operand.const t10)]) 44 (fun t11 w =>
  OpX Try.prog (Op.store 44 (Operand.const t2) (Operand.const t11)) 0 (fun _ w =>
  LdR Try.prog 44 t2 (fun t2_1 w =>
  K t2_1 w) w) w) w) w) w) w) w) w) w) w) w) w) w
theorem lyceumref05_Tail_link (p0 : Value) {R : Value → World → Prop} {w : World} (h : ∀ K : Value → World → Prop, (∀ v w', R v w' → K v w') → lyceumref05_Tail p0 K w) : Calls Try.prog 103 #[p0] w (retK R) :=
  calls_of_def [p0] [] mixed Try.func103 (by kernel_rfl) (by kernel_rfl) (by kernel_rfl) (X := lyceumref05_Tail p0 R w) (by kernel_rfl) (h R fun _ _ h => h)
theorem lyceumref05_Tail_b : Bodied Try.prog 103 := ⟨_, Try.func103, by kernel_rfl, by kernel_rfl⟩

/- lyceum/lyceumref05.Right -/
def lyceumref05_Right (p0 : Value) (K : Value → World → Prop) (w : World) : Prop :=
  Loop1 (Value.int IntKind.i64 0) (fun t3 next1 w =>
  OpX Try.prog (Op.call { callee := Callee.builtin Builtin.len, args := #[Operand.const p0], argTypes := #[45] }) 3 (fun t6 w =>
  BinX Try.prog BinOp.lss 3 t3 t6 (fun t7 w =>
  BrW t7
  (Join1 (fun k2 w =>
  OpX Try.prog (Op.indexAddr 45 (Operand.const p0) (Operand.const t3)) 0 (fun t12 w =>
  OpX Try.prog (Op.load 44 (Operand.const t12)) 44 (fun t13 w =>
  OpX Try.prog (Op.call { callee := Callee.value (Operand.func 127), args := #[Operand.const t13], argTypes := #[44] }) 4 (fun t14 w =>
  OpX Try.prog (Op.unOp UnOp.not 4 (Operand.const t14)) 4 (fun t15 w =>
  BrW t15
  (k2 (Value.bool true) w)
  (OpX Try.prog (Op.indexAddr 45 (Operand.const p0) (Operand.const t3)) 0 (fun t19 w =>
  OpX Try.prog (Op.load 44 (Operand.const t19)) 44 (fun t20 w =>
  OpX Try.prog (Op.call { callee := Callee.value (Operand.func 128), args := #[Operand.const t20], argTypes := #[44] }) 4 (fun t21 w =>
  BrW t21
  (OpX Try.prog (Op.call { callee := Callee.value (Operand.func 129), args := #[Operand.const p0, Operand.const t3], argTypes := #[45, 3] }) 4 (fun t25 w =>
  OpX Try.prog (Op.unOp UnOp.not 4 (Operand.const t25)) 4 (fun t26 w =>
  BrW t26
  (k2 (Value.bool true) w)
  (OpX Try.prog (Op.indexAddr 45 (Operand.const p0) (Operand.const t3)) 0 (fun t32 w =>
  OpX Try.prog (Op.load 44 (Operand.const t32)) 44 (fun t33 w =>
  OpX Try.prog (Op.call { callee := Callee.value (Operand.func 130), args := #[Operand.const t33], argTypes := #[44] }) 4 (fun t34 w =>
  BrW t34
  (BinX Try.prog BinOp.sub 3 t3 (Value.int IntKind.i64 1) (fun t38 w =>
  OpX Try.prog (Op.call { callee := Callee.value (Operand.func 129), args := #[Operand.const p0, Operand.const t38], argTypes := #[45, 3] }) 4 (fun t39 w =>
  OpX Try.prog (Op.unOp UnOp.not 4 (Operand.const t39)) 4 (fun t40 w =>
  k2 t40 w) w) w) w)
  (k2 (Value.bool false) w) ()) w) w) w) ()) w) w)
  (OpX Try.prog (Op.indexAddr 45 (Operand.const p0) (Operand.const t3)) 0 (fun t32_1 w =>
  OpX Try.prog (Op.load 44 (Operand.const t32_1)) 44 (fun t33_1 w =>
  OpX Try.prog (Op.call { callee := Callee.value (Operand.func 130), args := #[Operand.const t33_1], argTypes := #[44] }) 4 (fun t34_1 w =>
  BrW t34_1
  (BinX Try.prog BinOp.sub 3 t3 (Value.int IntKind.i64 1) (fun t38_1 w =>
  OpX Try.prog (Op.call { callee := Callee.value (Operand.func 129), args := #[Operand.const p0, Operand.const t38_1], argTypes := #[45, 3] }) 4 (fun t39_1 w =>
  OpX Try.prog (Op.unOp UnOp.not 4 (Operand.const t39_1)) 4 (fun t40_1 w =>
  k2 t40_1 w) w) w) w)
  (k2 (Value.bool false) w) ()) w) w) w) ()) w) w) w) ()) w) w) w) w) (fun t42 w =>
  BrW t42
  (K (Value.bool false) w)
  (BinX Try.prog BinOp.add 3 t3 (Value.int IntKind.i64 1) (fun t9 w =>
  next1 t9 w) w) ()) w)
  (K (Value.bool true) w) ()) w) w) w
theorem lyceumref05_Right_link (p0 : Value) {R : Value → World → Prop} {w : World} (h : ∀ K : Value → World → Prop, (∀ v w', R v w' → K v w') → lyceumref05_Right p0 K w) : Calls Try.prog 120 #[p0] w (retK R) :=
  calls_of_def [p0] [(6, [3]), (16, [42])] mixed Try.func120 (by kernel_rfl) (by kernel_rfl) (by kernel_rfl) (X := lyceumref05_Right p0 R w) (by kernel_rfl) (h R fun _ _ h => h)
theorem lyceumref05_Right_b : Bodied Try.prog 120 := ⟨_, Try.func120, by kernel_rfl, by kernel_rfl⟩

/- lyceum/lyceumref05.Mend -/
def lyceumref05_Mend (p0 : Value) (K : Value → World → Prop) (w : World) : Prop :=
  Loop2 (Value.slice none 0 0) (Value.int IntKind.i64 0) (fun t3 t4 next1 w =>
  OpX Try.prog (Op.call { callee := Callee.builtin Builtin.len, args := #[Operand.const p0], argTypes := #[45] }) 3 (fun t11 w =>
  BinX Try.prog BinOp.lss 3 t4 t11 (fun t12 w =>
  BrW t12
  (OpX Try.prog (Op.indexAddr 45 (Operand.const p0) (Operand.const t4)) 0 (fun t17 w =>
  OpX Try.prog (Op.load 44 (Operand.const t17)) 44 (fun t18 w =>
  OpX Try.prog (Op.alloc 44) 0 (fun t5 w =>
  OpX Try.prog (Op.store 44 (Operand.const t5) (Operand.const t18)) 0 (fun _ w =>
  OpX Try.prog (Op.load 44 (Operand.const t5)) 44 (fun t19 w =>
  OpX Try.prog (Op.call { callee := Callee.value (Operand.func 127), args := #[Operand.const t19], argTypes := #[44] }) 4 (fun t20 w =>
  OpX Try.prog (Op.call { callee := Callee.value (Operand.func 129), args := #[Operand.const p0, Operand.const t4], argTypes := #[45, 3] }) 4 (fun t23 w =>
  BinX Try.prog BinOp.sub 3 t4 (Value.int IntKind.i64 1) (fun t26 w =>
  OpX Try.prog (Op.call { callee := Callee.value (Operand.func 129), args := #[Operand.const p0, Operand.const t26], argTypes := #[45, 3] }) 4 (fun t27 w =>
  Join0 (fun k2 w =>
  Join1 (fun k3 w =>
  BrW t23
  (OpX Try.prog (Op.unOp UnOp.not 4 (Operand.const (Value.bool true))) 4 (fun t45 w =>
  k3 t45 w) w)
  (BrW t27
  (OpX Try.prog (Op.unOp UnOp.not 4 (Operand.const (Value.bool true))) 4 (fun t45_1 w =>
  k3 t45_1 w) w)
  (BrW t20
  (OpX Try.prog (Op.load 44 (Operand.const t5)) 44 (fun t35 w =>
  OpX Try.prog (Op.call { callee := Callee.value (Operand.func 128), args := #[Operand.const t35], argTypes := #[44] }) 4 (fun t36 w =>
  OpX Try.prog (Op.unOp UnOp.not 4 (Operand.const t36)) 4 (fun t37 w =>
  BrW t37
  (OpX Try.prog (Op.load 44 (Operand.const t5)) 44 (fun t40 w =>
  OpX Try.prog (Op.call { callee := Callee.value (Operand.func 130), args := #[Operand.const t40], argTypes := #[44] }) 4 (fun t41 w =>
  OpX Try.prog (Op.unOp UnOp.not 4 (Operand.const t41)) 4 (fun t42 w =>
  OpX Try.prog (Op.unOp UnOp.not 4 (Operand.const t42)) 4 (fun t45_2 w =>
  k3 t45_2 w) w) w) w) w)
  (OpX Try.prog (Op.unOp UnOp.not 4 (Operand.const (Value.bool false))) 4 (fun t45_3 w =>
  k3 t45_3 w) w) ()) w) w) w)
  (OpX Try.prog (Op.unOp UnOp.not 4 (Operand.const (Value.bool false))) 4 (fun t45_4 w =>
  k3 t45_4 w) w) ()) ()) ()) (fun t45_5 w =>
  BrW t45_5
  (OpX Try.prog (Op.fieldAddr 44 (Operand.const t5) 1) 0 (fun t46 w =>
  OpX Try.prog (Op.load 5 (Operand.const t46)) 5 (fun t47 w =>
  OpX Try.prog (Op.fieldAddr 44 (Operand.const t5) 2) 0 (fun t48 w =>
  OpX Try.prog (Op.load 5 (Operand.const t48)) 5 (fun t49 w =>
  OpX Try.prog (Op.build 44 #[(0, Operand.const (Value.int IntKind.i32 32)), (1, Operand.const t47), (2, Operand.const t49)]) 44 (fun t50 w =>
  OpX Try.prog (Op.store 44 (Operand.const t5) (Operand.const t50)) 0 (fun _ w =>
  k2 w) w) w) w) w) w) w)
  (k2 w) ()) w) (fun w =>
  OpX Try.prog (Op.load 44 (Operand.const t5)) 44 (fun t52 w =>
  OpX Try.prog (Op.buildSlice 45 1 #[(0, Operand.const t52)]) 45 (fun t53 w =>
  OpX Try.prog (Op.call { callee := Callee.builtin Builtin.append, args := #[Operand.const t3, Operand.const t53], argTypes := #[45, 45] }) 45 (fun t54 w =>
  BinX Try.prog BinOp.add 3 t4 (Value.int IntKind.i64 1) (fun t14 w =>
  next1 t54 t14 w) w) w) w) w) w) w) w) w) w) w) w) w) w) w)
  (K t3 w) ()) w) w) w
theorem lyceumref05_Mend_link (p0 : Value) {R : Value → World → Prop} {w : World} (h : ∀ K : Value → World → Prop, (∀ v w', R v w' → K v w') → lyceumref05_Mend p0 K w) : Calls Try.prog 121 #[p0] w (retK R) :=
  calls_of_def [p0] [(8, [3, 4]), (25, []), (27, [45])] mixed Try.func121 (by kernel_rfl) (by kernel_rfl) (by kernel_rfl) (X := lyceumref05_Mend p0 R w) (by kernel_rfl) (h R fun _ _ h => h)
theorem lyceumref05_Mend_b : Bodied Try.prog 121 := ⟨_, Try.func121, by kernel_rfl, by kernel_rfl⟩

/- lyceum/lyceumref05.Check -/
def lyceumref05_Check (p0 : Value) (K : Value → World → Prop) (w : World) : Prop :=
  OpX Try.prog (Op.box 44 (Operand.const p0)) 0 (fun t1 w =>
  OpX Try.prog (Op.fieldAddr 44 (Operand.const t1) 0) 0 (fun t4 w =>
  OpX Try.prog (Op.load 21 (Operand.const t4)) 21 (fun t5 w =>
  OpX Try.prog (Op.call { callee := Callee.value (Operand.func 102), args := #[Operand.const t5], argTypes := #[21] }) 3 (fun t6 w =>
  OpX Try.prog (Op.load 44 (Operand.const t1)) 44 (fun t7 w =>
  OpX Try.prog (Op.call { callee := Callee.value (Operand.func 130), args := #[Operand.const t7], argTypes := #[44] }) 4 (fun t8 w =>
  BrW t8
  (Join1 (fun k1 w =>
  OpX Try.prog (Op.load 44 (Operand.const t1)) 44 (fun t9 w =>
  OpX Try.prog (Op.call { callee := Callee.value (Operand.func 128), args := #[Operand.const t9], argTypes := #[44] }) 4 (fun t10 w =>
  OpX Try.prog (Op.unOp UnOp.not 4 (Operand.const t10)) 4 (fun t11 w =>
  BrW t11
  (OpX Try.prog (Op.fieldAddr 44 (Operand.const t1) 0) 0 (fun t13 w =>
  OpX Try.prog (Op.load 21 (Operand.const t13)) 21 (fun t14 w =>
  BinX Try.prog BinOp.eql 21 t14 (Value.int IntKind.i32 0) (fun t15 w =>
  k1 t15 w) w) w) w)
  (k1 (Value.bool false) w) ()) w) w) w) (fun t2 w =>
  K t2 w) w)
  (Join1 (fun k2 w =>
  BinX Try.prog BinOp.eql 3 t6 (Value.int IntKind.i64 1) (fun t18 w =>
  BrW t18
  (OpX Try.prog (Op.load 44 (Operand.const t1)) 44 (fun t20 w =>
  OpX Try.prog (Op.call { callee := Callee.value (Operand.func 128), args := #[Operand.const t20], argTypes := #[44] }) 4 (fun t21 w =>
  OpX Try.prog (Op.unOp UnOp.not 4 (Operand.const t21)) 4 (fun t22 w =>
  BrW t22
  (k2 (Value.bool true) w)
  (BinX Try.prog BinOp.eql 3 t6 (Value.int IntKind.i64 2) (fun t26 w =>
  BrW t26
  (OpX Try.prog (Op.load 44 (Operand.const t1)) 44 (fun t28 w =>
  OpX Try.prog (Op.call { callee := Callee.value (Operand.func 128), args := #[Operand.const t28], argTypes := #[44] }) 4 (fun t29 w =>
  k2 t29 w) w) w)
  (k2 (Value.bool false) w) ()) w) ()) w) w) w)
  (BinX Try.prog BinOp.eql 3 t6 (Value.int IntKind.i64 2) (fun t26_1 w =>
  BrW t26_1
  (OpX Try.prog (Op.load 44 (Operand.const t1)) 44 (fun t28_1 w =>
  OpX Try.prog (Op.call { callee := Callee.value (Operand.func 128), args := #[Operand.const t28_1], argTypes := #[44] }) 4 (fun t29_1 w =>
  k2 t29_1 w) w) w)
  (k2 (Value.bool false) w) ()) w) ()) w) (fun t2_1 w =>
  K t2_1 w) w) ()) w) w) w) w) w) w
theorem lyceumref05_Check_link (p0 : Value) {R : Value → World → Prop} {w : World} (h : ∀ K : Value → World → Prop, (∀ v w', R v w' → K v w') → lyceumref05_Check p0 K w) : Calls Try.prog 127 #[p0] w (retK R) :=
  calls_of_def [p0] [(9, [2]), (13, [2])] mixed Try.func127 (by kernel_rfl) (by kernel_rfl) (by kernel_rfl) (X := lyceumref05_Check p0 R w) (by kernel_rfl) (h R fun _ _ h => h)
theorem lyceumref05_Check_b : Bodied Try.prog 127 := ⟨_, Try.func127, by kernel_rfl, by kernel_rfl⟩

/- lyceum/lyceumref05.wide -/
def lyceumref05_wide (p0 : Value) (K : Value → World → Prop) (w : World) : Prop :=
  OpX Try.prog (Op.box 44 (Operand.const p0)) 0 (fun t1 w =>
  OpX Try.prog (Op.fieldAddr 44 (Operand.const t1) 3) 0 (fun t3 w =>
  OpX Try.prog (Op.load 5 (Operand.const t3)) 5 (fun t4 w =>
  BinX Try.prog BinOp.quo 5 t4 (Value.int IntKind.u8 64) (fun t5 w =>
  BinX Try.prog BinOp.rem 5 t5 (Value.int IntKind.u8 2) (fun t6 w =>
  BinX Try.prog BinOp.eql 5 t6 (Value.int IntKind.u8 1) (fun t7 w =>
  K t7 w) w) w) w) w) w) w
theorem lyceumref05_wide_link (p0 : Value) {R : Value → World → Prop} {w : World} (h : ∀ K : Value → World → Prop, (∀ v w', R v w' → K v w') → lyceumref05_wide p0 K w) : Calls Try.prog 128 #[p0] w (retK R) :=
  calls_of_def [p0] [] mixed Try.func128 (by kernel_rfl) (by kernel_rfl) (by kernel_rfl) (X := lyceumref05_wide p0 R w) (by kernel_rfl) (h R fun _ _ h => h)
theorem lyceumref05_wide_b : Bodied Try.prog 128 := ⟨_, Try.func128, by kernel_rfl, by kernel_rfl⟩

/- lyceum/lyceumref05.pair -/
def lyceumref05_pair (p0 p1 : Value) (K : Value → World → Prop) (w : World) : Prop :=
  Join1 (fun k1 w =>
  PurB Try.prog BinOp.geq 3 p1 (Value.int IntKind.i64 0) (fun t6 =>
  BrW t6
  (PurB Try.prog BinOp.add 3 p1 (Value.int IntKind.i64 1) (fun t9 =>
  RdX Try.prog (Op.call { callee := Callee.builtin Builtin.len, args := #[Operand.const p0], argTypes := #[45] }) 3 (fun t11 =>
  PurB Try.prog BinOp.lss 3 t9 t11 (fun t12 =>
  BrW t12
  (PurX Try.prog (Op.indexAddr 45 (Operand.const p0) (Operand.const p1)) 0 (fun t17 =>
  RdX Try.prog (Op.load 44 (Operand.const t17)) 44 (fun t18 =>
  OpX Try.prog (Op.call { callee := Callee.value (Operand.func 127), args := #[Operand.const t18], argTypes := #[44] }) 4 (fun t19 w =>
  BrW t19
  (PurX Try.prog (Op.indexAddr 45 (Operand.const p0) (Operand.const p1)) 0 (fun t24 =>
  RdX Try.prog (Op.load 44 (Operand.const t24)) 44 (fun t25 =>
  OpX Try.prog (Op.call { callee := Callee.value (Operand.func 128), args := #[Operand.const t25], argTypes := #[44] }) 4 (fun t26 w =>
  BrW t26
  (PurB Try.prog BinOp.add 3 p1 (Value.int IntKind.i64 1) (fun t31 =>
  PurX Try.prog (Op.indexAddr 45 (Operand.const p0) (Operand.const t31)) 0 (fun t32 =>
  RdX Try.prog (Op.load 44 (Operand.const t32)) 44 (fun t33 =>
  PurX Try.prog (Op.indexAddr 45 (Operand.const p0) (Operand.const p1)) 0 (fun t36 =>
  RdX Try.prog (Op.load 44 (Operand.const t36)) 44 (fun t37 =>
  OpX Try.prog (Op.call { callee := Callee.value (Operand.func 103), args := #[Operand.const t37], argTypes := #[44] }) 44 (fun t38 w =>
  (Yld Try.prog (Op.load 44 (Operand.const t32)) 44 t33 w) ∧ (RdB Try.prog BinOp.eql 44 t33 t38 (fun t39 =>
  k1 t39 w) w)) w) w) ()) w) ()) ())
  (k1 (Value.bool false) w) ()) w) w) ())
  (k1 (Value.bool false) w) ()) w) w) ())
  (k1 (Value.bool false) w) ()) ()) w) ())
  (k1 (Value.bool false) w) ()) ()) (fun t4 w =>
  K t4 w) w.drew
theorem lyceumref05_pair_link (p0 p1 : Value) {R : Value → World → Prop} {w : World} (h : ∀ K : Value → World → Prop, (∀ v w', R v w' → K v w') → lyceumref05_pair p0 p1 K w) : Calls Try.prog 129 #[p0, p1] w (retK R) :=
  calls_of_def [p0, p1] [(3, [4])] mixed Try.func129 (by kernel_rfl) (by kernel_rfl) (by kernel_rfl) (X := lyceumref05_pair p0 p1 R w) (by kernel_rfl) (h R fun _ _ h => h)
theorem lyceumref05_pair_b : Bodied Try.prog 129 := ⟨_, Try.func129, by kernel_rfl, by kernel_rfl⟩

/- lyceum/lyceumref05.tail -/
def lyceumref05_tail (p0 : Value) (K : Value → World → Prop) (w : World) : Prop :=
  OpX Try.prog (Op.box 44 (Operand.const p0)) 0 (fun t1 w =>
  OpX Try.prog (Op.fieldAddr 44 (Operand.const t1) 3) 0 (fun t3 w =>
  OpX Try.prog (Op.load 5 (Operand.const t3)) 5 (fun t4 w =>
  BinX Try.prog BinOp.quo 5 t4 (Value.int IntKind.u8 128) (fun t5 w =>
  BinX Try.prog BinOp.eql 5 t5 (Value.int IntKind.u8 1) (fun t6 w =>
  K t6 w) w) w) w) w) w
theorem lyceumref05_tail_link (p0 : Value) {R : Value → World → Prop} {w : World} (h : ∀ K : Value → World → Prop, (∀ v w', R v w' → K v w') → lyceumref05_tail p0 K w) : Calls Try.prog 130 #[p0] w (retK R) :=
  calls_of_def [p0] [] mixed Try.func130 (by kernel_rfl) (by kernel_rfl) (by kernel_rfl) (X := lyceumref05_tail p0 R w) (by kernel_rfl) (h R fun _ _ h => h)
theorem lyceumref05_tail_b : Bodied Try.prog 130 := ⟨_, Try.func130, by kernel_rfl, by kernel_rfl⟩

end Go.Proofs.Ytdjdeahmhenchaa
