/- Written by a program (gen.py): functions of the translation as transformers, with the link to Calls. -/
import Derived.Test.YtdjdeahmhenchaaLycDef
import Derived.Test.YtdjdeahmhenchaaW0
set_option linter.unusedSimpArgs false
set_option linter.unusedVariables false
namespace Go.Proofs.Ytdjdeahmhenchaa
open Lyc Go
set_option maxRecDepth 100000

/- lyceum/kids.New -/
def kids_New (p0 p1 : Value) (K : Value → World → Prop) (w : World) : Prop :=
  OpX Try.prog (Op.call { callee := Callee.builtin Builtin.max, args := #[Operand.const p0, Operand.const (Value.int IntKind.i64 0)], argTypes := #[3, 3] }) 3 (fun t6 w =>
  OpX Try.prog (Op.call { callee := Callee.builtin Builtin.min, args := #[Operand.const t6, Operand.const (Value.int IntKind.i64 15)], argTypes := #[3, 3] }) 3 (fun t7 w =>
  OpX Try.prog (Op.makeMap 87 none) 87 (fun t9 w =>
  OpX Try.prog (Op.build 89 #[(0, Operand.const t7), (1, Operand.const p1), (2, Operand.const (Value.int IntKind.i64 (-1))), (3, Operand.const t9)]) 89 (fun t10 w =>
  OpX Try.prog (Op.box 89 (Operand.const t10)) 36 (fun t11 w =>
  K t11 w) w) w) w) w) w
theorem kids_New_link (p0 p1 : Value) {R : Value → World → Prop} {w : World} (h : ∀ K : Value → World → Prop, (∀ v w', R v w' → K v w') → kids_New p0 p1 K w) : Calls Try.prog 25 #[p0, p1] w (retK R) :=
  calls_of_def [p0, p1] [] mixed Try.func25 (by kernel_rfl) (by kernel_rfl) (by kernel_rfl) (X := kids_New p0 p1 R w) (by kernel_rfl) (h R fun _ _ h => h)
theorem kids_New_b : Bodied Try.prog 25 := ⟨_, Try.func25, by kernel_rfl, by kernel_rfl⟩

/- (*lyceum/kids.Kids).Add -/
def kids_Kids_Add (p0 p1 : Value) (K : Value → World → Prop) (w : World) : Prop :=
  Join1 (fun k1 w =>
  BinX Try.prog BinOp.eql 36 p0 (Value.pointer none) (fun t8 w =>
  BrW t8
  (k1 (Value.bool true) w)
  (BinX Try.prog BinOp.lss 3 p1 (Value.int IntKind.i64 0) (fun t11 w =>
  BrW t11
  (k1 (Value.bool true) w)
  (BinX Try.prog BinOp.geq 3 p1 (Value.int IntKind.i64 16) (fun t15 w =>
  k1 t15 w) w) ()) w) ()) w) (fun t16 w =>
  BrW t16
  (K (Value.bool false) w)
  (OpX Try.prog (Op.nilCheck (Operand.const p0)) 0 (fun t19 w =>
  OpX Try.prog (Op.fieldAddr 89 (Operand.const t19) 3) 0 (fun t20 w =>
  OpX Try.prog (Op.load 87 (Operand.const t20)) 87 (fun t21 w =>
  OpX Try.prog (Op.lookup 87 (Operand.const t21) (Operand.const p1) true) 91 (fun t23 w =>
  OpX Try.prog (Op.extract (Operand.const t23) 0) 90 (fun t24 w =>
  OpX Try.prog (Op.extract (Operand.const t23) 1) 4 (fun t25 w =>
  BrW t25
  (OpX Try.prog (Op.nilCheck (Operand.const t24)) 0 (fun t28 w =>
  OpX Try.prog (Op.fieldAddr 93 (Operand.const t28) 1) 0 (fun t29 w =>
  OpX Try.prog (Op.store 3 (Operand.const t29) (Operand.const (Value.int IntKind.i64 0))) 0 (fun _ w =>
  K (Value.bool true) w) w) w) w)
  (OpX Try.prog (Op.call { callee := Callee.value (Operand.func 55), args := #[Operand.const p0], argTypes := #[36] }) 4 (fun t31 w =>
  BrW t31
  (K (Value.bool false) w)
  (DrewW (fun w =>
  PurX Try.prog (Op.nilCheck (Operand.const p0)) 0 (fun t33 =>
  PurX Try.prog (Op.fieldAddr 89 (Operand.const t33) 3) 0 (fun t34 =>
  RdX Try.prog (Op.load 87 (Operand.const t34)) 87 (fun t35 =>
  PurX Try.prog (Op.nilCheck (Operand.const p0)) 0 (fun t38 =>
  PurX Try.prog (Op.fieldAddr 89 (Operand.const t38) 1) 0 (fun t39 =>
  RdX Try.prog (Op.load 3 (Operand.const t39)) 3 (fun t40 =>
  OpX Try.prog (Op.call { callee := Callee.value (Operand.func 16), args := #[Operand.const t40], argTypes := #[3] }) 24 (fun t41 w =>
  (Yld Try.prog (Op.load 87 (Operand.const t34)) 87 t35 w) ∧ (OpX Try.prog (Op.build 93 #[(0, Operand.const t41)]) 93 (fun t42 w =>
  (Yld Try.prog (Op.load 87 (Operand.const t34)) 87 t35 w) ∧ (OpX Try.prog (Op.box 93 (Operand.const t42)) 90 (fun t43 w =>
  (Yld Try.prog (Op.load 87 (Operand.const t34)) 87 t35 w) ∧ (OpX Try.prog (Op.mapUpdate 87 (Operand.const t35) (Operand.const p1) (Operand.const t43)) 0 (fun _ w =>
  K (Value.bool true) w) w)) w)) w)) w) w) ()) ()) w) ()) ()) w) ()) w) ()) w) w) w) w) w) w) ()) w
theorem kids_Kids_Add_link (p0 p1 : Value) {R : Value → World → Prop} {w : World} (h : ∀ K : Value → World → Prop, (∀ v w', R v w' → K v w') → kids_Kids_Add p0 p1 K w) : Calls Try.prog 26 #[p0, p1] w (retK R) :=
  calls_of_def [p0, p1] [(4, [16])] mixed Try.func26 (by kernel_rfl) (by kernel_rfl) (by kernel_rfl) (X := kids_Kids_Add p0 p1 R w) (by kernel_rfl) (h R fun _ _ h => h)
theorem kids_Kids_Add_b : Bodied Try.prog 26 := ⟨_, Try.func26, by kernel_rfl, by kernel_rfl⟩

/- (*lyceum/kids.Kids).Queue -/
def kids_Kids_Queue (p0 p1 : Value) (K : Value → World → Prop) (w : World) : Prop :=
  OpX Try.prog (Op.call { callee := Callee.value (Operand.func 56), args := #[Operand.const p0, Operand.const p1], argTypes := #[36, 3] }) 4 (fun t7 w =>
  OpX Try.prog (Op.unOp UnOp.not 4 (Operand.const t7)) 4 (fun t8 w =>
  BrW t8
  (K (Value.pointer none) w)
  (OpX Try.prog (Op.nilCheck (Operand.const p0)) 0 (fun t10 w =>
  OpX Try.prog (Op.fieldAddr 89 (Operand.const t10) 3) 0 (fun t11 w =>
  OpX Try.prog (Op.load 87 (Operand.const t11)) 87 (fun t12 w =>
  OpX Try.prog (Op.lookup 87 (Operand.const t12) (Operand.const p1) false) 90 (fun t14 w =>
  OpX Try.prog (Op.nilCheck (Operand.const t14)) 0 (fun t15 w =>
  OpX Try.prog (Op.fieldAddr 93 (Operand.const t15) 0) 0 (fun t16 w =>
  OpX Try.prog (Op.load 24 (Operand.const t16)) 24 (fun t17 w =>
  K t17 w) w) w) w) w) w) w) w) ()) w) w
theorem kids_Kids_Queue_link (p0 p1 : Value) {R : Value → World → Prop} {w : World} (h : ∀ K : Value → World → Prop, (∀ v w', R v w' → K v w') → kids_Kids_Queue p0 p1 K w) : Calls Try.prog 27 #[p0, p1] w (retK R) :=
  calls_of_def [p0, p1] [] mixed Try.func27 (by kernel_rfl) (by kernel_rfl) (by kernel_rfl) (X := kids_Kids_Queue p0 p1 R w) (by kernel_rfl) (h R fun _ _ h => h)
theorem kids_Kids_Queue_b : Bodied Try.prog 27 := ⟨_, Try.func27, by kernel_rfl, by kernel_rfl⟩

/- (*lyceum/kids.Kids).Drop -/
def kids_Kids_Drop (p0 p1 : Value) (K : Value → World → Prop) (w : World) : Prop :=
  OpX Try.prog (Op.call { callee := Callee.value (Operand.func 56), args := #[Operand.const p0, Operand.const p1], argTypes := #[36, 3] }) 4 (fun t7 w =>
  OpX Try.prog (Op.unOp UnOp.not 4 (Operand.const t7)) 4 (fun t8 w =>
  BrW t8
  (K (Value.bool false) w)
  (OpX Try.prog (Op.nilCheck (Operand.const p0)) 0 (fun t10 w =>
  OpX Try.prog (Op.fieldAddr 89 (Operand.const t10) 3) 0 (fun t11 w =>
  OpX Try.prog (Op.load 87 (Operand.const t11)) 87 (fun t12 w =>
  OpX Try.prog (Op.call { callee := Callee.builtin Builtin.delete, args := #[Operand.const t12, Operand.const p1], argTypes := #[87, 3] }) 0 (fun _ w =>
  K (Value.bool true) w) w) w) w) w) ()) w) w
theorem kids_Kids_Drop_link (p0 p1 : Value) {R : Value → World → Prop} {w : World} (h : ∀ K : Value → World → Prop, (∀ v w', R v w' → K v w') → kids_Kids_Drop p0 p1 K w) : Calls Try.prog 28 #[p0, p1] w (retK R) :=
  calls_of_def [p0, p1] [] mixed Try.func28 (by kernel_rfl) (by kernel_rfl) (by kernel_rfl) (X := kids_Kids_Drop p0 p1 R w) (by kernel_rfl) (h R fun _ _ h => h)
theorem kids_Kids_Drop_b : Bodied Try.prog 28 := ⟨_, Try.func28, by kernel_rfl, by kernel_rfl⟩

/- (*lyceum/kids.Kids).Tick -/
def kids_Kids_Tick (p0 : Value) (K : Value → World → Prop) (w : World) : Prop :=
  OpX Try.prog (Op.call { callee := Callee.value (Operand.func 54), args := #[Operand.const p0], argTypes := #[36] }) 50 (fun t8 w =>
  OpX Try.prog (Op.call { callee := Callee.builtin Builtin.len, args := #[Operand.const t8], argTypes := #[50] }) 3 (fun t9 w =>
  Loop2 (Value.slice none 0 0) (Value.int IntKind.i64 0) (fun t3 t10 next1 w =>
  BinX Try.prog BinOp.lss 3 t10 t9 (fun t11 w =>
  BrW t11
  (OpX Try.prog (Op.indexAddr 50 (Operand.const t8) (Operand.const t10)) 0 (fun t12 w =>
  OpX Try.prog (Op.load 3 (Operand.const t12)) 3 (fun t13 w =>
  OpX Try.prog (Op.nilCheck (Operand.const p0)) 0 (fun t15 w =>
  OpX Try.prog (Op.fieldAddr 89 (Operand.const t15) 3) 0 (fun t16 w =>
  OpX Try.prog (Op.load 87 (Operand.const t16)) 87 (fun t17 w =>
  OpX Try.prog (Op.lookup 87 (Operand.const t17) (Operand.const t13) false) 90 (fun t19 w =>
  OpX Try.prog (Op.nilCheck (Operand.const t19)) 0 (fun t21 w =>
  OpX Try.prog (Op.fieldAddr 93 (Operand.const t21) 1) 0 (fun t22 w =>
  OpX Try.prog (Op.load 3 (Operand.const t22)) 3 (fun t23 w =>
  BinX Try.prog BinOp.add 3 t23 (Value.int IntKind.i64 1) (fun t24 w =>
  OpX Try.prog (Op.nilCheck (Operand.const t19)) 0 (fun t25 w =>
  OpX Try.prog (Op.fieldAddr 93 (Operand.const t25) 1) 0 (fun t26 w =>
  OpX Try.prog (Op.store 3 (Operand.const t26) (Operand.const t24)) 0 (fun _ w =>
  OpX Try.prog (Op.nilCheck (Operand.const t19)) 0 (fun t28 w =>
  OpX Try.prog (Op.fieldAddr 93 (Operand.const t28) 1) 0 (fun t29 w =>
  OpX Try.prog (Op.load 3 (Operand.const t29)) 3 (fun t30 w =>
  BinX Try.prog BinOp.gtr 3 t30 (Value.int IntKind.i64 8) (fun t31 w =>
  BrW t31
  (OpX Try.prog (Op.nilCheck (Operand.const p0)) 0 (fun t33 w =>
  OpX Try.prog (Op.fieldAddr 89 (Operand.const t33) 3) 0 (fun t34 w =>
  OpX Try.prog (Op.load 87 (Operand.const t34)) 87 (fun t35 w =>
  OpX Try.prog (Op.call { callee := Callee.builtin Builtin.delete, args := #[Operand.const t35, Operand.const t13], argTypes := #[87, 3] }) 0 (fun _ w =>
  OpX Try.prog (Op.buildSlice 50 1 #[(0, Operand.const t13)]) 50 (fun t39 w =>
  OpX Try.prog (Op.call { callee := Callee.builtin Builtin.append, args := #[Operand.const t3, Operand.const t39], argTypes := #[50, 50] }) 50 (fun t40 w =>
  BinX Try.prog BinOp.add 3 t10 (Value.int IntKind.i64 1) (fun t41 w =>
  next1 t40 t41 w) w) w) w) w) w) w) w)
  (BinX Try.prog BinOp.add 3 t10 (Value.int IntKind.i64 1) (fun t41_1 w =>
  next1 t3 t41_1 w) w) ()) w) w) w) w) w) w) w) w) w) w) w) w) w) w) w) w) w)
  (K t3 w) ()) w) w) w) w
theorem kids_Kids_Tick_link (p0 : Value) {R : Value → World → Prop} {w : World} (h : ∀ K : Value → World → Prop, (∀ v w', R v w' → K v w') → kids_Kids_Tick p0 K w) : Calls Try.prog 53 #[p0] w (retK R) :=
  calls_of_def [p0] [(8, [3, 10])] mixed Try.func53 (by kernel_rfl) (by kernel_rfl) (by kernel_rfl) (X := kids_Kids_Tick p0 R w) (by kernel_rfl) (h R fun _ _ h => h)
theorem kids_Kids_Tick_b : Bodied Try.prog 53 := ⟨_, Try.func53, by kernel_rfl, by kernel_rfl⟩

/- (*lyceum/kids.Kids).IDs -/
def kids_Kids_IDs (p0 : Value) (K : Value → World → Prop) (w : World) : Prop :=
  BinX Try.prog BinOp.eql 36 p0 (Value.pointer none) (fun t4 w =>
  BrW t4
  (K (Value.slice none 0 0) w)
  (OpX Try.prog (Op.nilCheck (Operand.const p0)) 0 (fun t6 w =>
  OpX Try.prog (Op.fieldAddr 89 (Operand.const t6) 3) 0 (fun t7 w =>
  OpX Try.prog (Op.load 87 (Operand.const t7)) 87 (fun t8 w =>
  OpX Try.prog (Op.call { callee := Callee.value (Operand.func 97), args := #[Operand.const t8], argTypes := #[87] }) 127 (fun t9 w =>
  OpX Try.prog (Op.call { callee := Callee.value (Operand.func 96), args := #[Operand.const t9], argTypes := #[127] }) 50 (fun t10 w =>
  K t10 w) w) w) w) w) w) ()) w
theorem kids_Kids_IDs_link (p0 : Value) {R : Value → World → Prop} {w : World} (h : ∀ K : Value → World → Prop, (∀ v w', R v w' → K v w') → kids_Kids_IDs p0 K w) : Calls Try.prog 54 #[p0] w (retK R) :=
  calls_of_def [p0] [] mixed Try.func54 (by kernel_rfl) (by kernel_rfl) (by kernel_rfl) (X := kids_Kids_IDs p0 R w) (by kernel_rfl) (h R fun _ _ h => h)
theorem kids_Kids_IDs_b : Bodied Try.prog 54 := ⟨_, Try.func54, by kernel_rfl, by kernel_rfl⟩

/- (*lyceum/kids.Kids).Full -/
def kids_Kids_Full (p0 : Value) (K : Value → World → Prop) (w : World) : Prop :=
  Join1 (fun k1 w =>
  RdB Try.prog BinOp.eql 36 p0 (Value.pointer none) (fun t4 =>
  BrW t4
  (k1 (Value.bool true) w)
  (PurX Try.prog (Op.nilCheck (Operand.const p0)) 0 (fun t7 =>
  PurX Try.prog (Op.fieldAddr 89 (Operand.const t7) 3) 0 (fun t8 =>
  RdX Try.prog (Op.load 87 (Operand.const t8)) 87 (fun t9 =>
  RdX Try.prog (Op.call { callee := Callee.builtin Builtin.len, args := #[Operand.const t9], argTypes := #[87] }) 3 (fun t10 =>
  PurX Try.prog (Op.nilCheck (Operand.const p0)) 0 (fun t12 =>
  PurX Try.prog (Op.fieldAddr 89 (Operand.const t12) 0) 0 (fun t13 =>
  RdX Try.prog (Op.load 3 (Operand.const t13)) 3 (fun t14 =>
  PurB Try.prog BinOp.geq 3 t10 t14 (fun t15 =>
  k1 t15 w) ()) w) ()) ()) w) w) ()) ()) ()) w) (fun t2 w =>
  K t2 w) w.drew
theorem kids_Kids_Full_link (p0 : Value) {R : Value → World → Prop} {w : World} (h : ∀ K : Value → World → Prop, (∀ v w', R v w' → K v w') → kids_Kids_Full p0 K w) : Calls Try.prog 55 #[p0] w (retK R) :=
  calls_of_def [p0] [(3, [2])] mixed Try.func55 (by kernel_rfl) (by kernel_rfl) (by kernel_rfl) (X := kids_Kids_Full p0 R w) (by kernel_rfl) (h R fun _ _ h => h)
theorem kids_Kids_Full_b : Bodied Try.prog 55 := ⟨_, Try.func55, by kernel_rfl, by kernel_rfl⟩

/- (*lyceum/kids.Kids).Has -/
def kids_Kids_Has (p0 p1 : Value) (K : Value → World → Prop) (w : World) : Prop :=
  BinX Try.prog BinOp.eql 36 p0 (Value.pointer none) (fun t8 w =>
  BrW t8
  (K (Value.bool false) w)
  (OpX Try.prog (Op.nilCheck (Operand.const p0)) 0 (fun t11 w =>
  OpX Try.prog (Op.fieldAddr 89 (Operand.const t11) 3) 0 (fun t12 w =>
  OpX Try.prog (Op.load 87 (Operand.const t12)) 87 (fun t13 w =>
  OpX Try.prog (Op.lookup 87 (Operand.const t13) (Operand.const p1) true) 91 (fun t15 w =>
  OpX Try.prog (Op.extract (Operand.const t15) 0) 90 (fun _ w =>
  OpX Try.prog (Op.extract (Operand.const t15) 1) 4 (fun t17 w =>
  K t17 w) w) w) w) w) w) w) ()) w
theorem kids_Kids_Has_link (p0 p1 : Value) {R : Value → World → Prop} {w : World} (h : ∀ K : Value → World → Prop, (∀ v w', R v w' → K v w') → kids_Kids_Has p0 p1 K w) : Calls Try.prog 56 #[p0, p1] w (retK R) :=
  calls_of_def [p0, p1] [] mixed Try.func56 (by kernel_rfl) (by kernel_rfl) (by kernel_rfl) (X := kids_Kids_Has p0 p1 R w) (by kernel_rfl) (h R fun _ _ h => h)
theorem kids_Kids_Has_b : Bodied Try.prog 56 := ⟨_, Try.func56, by kernel_rfl, by kernel_rfl⟩

/- (*lyceum/kids.Kids).Heard -/
def kids_Kids_Heard (p0 p1 : Value) (K : Value → World → Prop) (w : World) : Prop :=
  BinX Try.prog BinOp.eql 36 p0 (Value.pointer none) (fun t7 w =>
  BrW t7
  (K (Value.tuple #[]) w)
  (OpX Try.prog (Op.nilCheck (Operand.const p0)) 0 (fun t10 w =>
  OpX Try.prog (Op.fieldAddr 89 (Operand.const t10) 3) 0 (fun t11 w =>
  OpX Try.prog (Op.load 87 (Operand.const t11)) 87 (fun t12 w =>
  OpX Try.prog (Op.lookup 87 (Operand.const t12) (Operand.const p1) true) 91 (fun t14 w =>
  OpX Try.prog (Op.extract (Operand.const t14) 0) 90 (fun t15 w =>
  OpX Try.prog (Op.extract (Operand.const t14) 1) 4 (fun t16 w =>
  BrW t16
  (OpX Try.prog (Op.nilCheck (Operand.const t15)) 0 (fun t19 w =>
  OpX Try.prog (Op.fieldAddr 93 (Operand.const t19) 1) 0 (fun t20 w =>
  OpX Try.prog (Op.store 3 (Operand.const t20) (Operand.const (Value.int IntKind.i64 0))) 0 (fun _ w =>
  K (Value.tuple #[]) w) w) w) w)
  (K (Value.tuple #[]) w) ()) w) w) w) w) w) w) ()) w
theorem kids_Kids_Heard_link (p0 p1 : Value) {R : Value → World → Prop} {w : World} (h : ∀ K : Value → World → Prop, (∀ v w', R v w' → K v w') → kids_Kids_Heard p0 p1 K w) : Calls Try.prog 57 #[p0, p1] w (retK R) :=
  calls_of_def [p0, p1] [] mixed Try.func57 (by kernel_rfl) (by kernel_rfl) (by kernel_rfl) (X := kids_Kids_Heard p0 p1 R w) (by kernel_rfl) (h R fun _ _ h => h)
theorem kids_Kids_Heard_b : Bodied Try.prog 57 := ⟨_, Try.func57, by kernel_rfl, by kernel_rfl⟩

/- (*lyceum/kids.Kids).Clear -/
def kids_Kids_Clear (p0 : Value) (K : Value → World → Prop) (w : World) : Prop :=
  BinX Try.prog BinOp.neq 36 p0 (Value.pointer none) (fun t3 w =>
  BrW t3
  (OpX Try.prog (Op.nilCheck (Operand.const p0)) 0 (fun t5 w =>
  OpX Try.prog (Op.fieldAddr 89 (Operand.const t5) 3) 0 (fun t6 w =>
  OpX Try.prog (Op.load 87 (Operand.const t6)) 87 (fun t7 w =>
  OpX Try.prog (Op.call { callee := Callee.builtin Builtin.clear, args := #[Operand.const t7], argTypes := #[87] }) 0 (fun _ w =>
  K (Value.tuple #[]) w) w) w) w) w)
  (K (Value.tuple #[]) w) ()) w
theorem kids_Kids_Clear_link (p0 : Value) {R : Value → World → Prop} {w : World} (h : ∀ K : Value → World → Prop, (∀ v w', R v w' → K v w') → kids_Kids_Clear p0 K w) : Calls Try.prog 58 #[p0] w (retK R) :=
  calls_of_def [p0] [] mixed Try.func58 (by kernel_rfl) (by kernel_rfl) (by kernel_rfl) (X := kids_Kids_Clear p0 R w) (by kernel_rfl) (h R fun _ _ h => h)
theorem kids_Kids_Clear_b : Bodied Try.prog 58 := ⟨_, Try.func58, by kernel_rfl, by kernel_rfl⟩

/- (*lyceum/kids.Kids).Next -/
def kids_Kids_Next (p0 : Value) (K : Value → World → Prop) (w : World) : Prop :=
  OpX Try.prog (Op.call { callee := Callee.value (Operand.func 54), args := #[Operand.const p0], argTypes := #[36] }) 50 (fun t8 w =>
  OpX Try.prog (Op.call { callee := Callee.builtin Builtin.len, args := #[Operand.const t8], argTypes := #[50] }) 3 (fun t10 w =>
  BinX Try.prog BinOp.eql 3 t10 (Value.int IntKind.i64 0) (fun t11 w =>
  BrW t11
  (K (Value.int IntKind.i64 0) w)
  (OpX Try.prog (Op.indexAddr 50 (Operand.const t8) (Operand.const (Value.int IntKind.i64 0))) 0 (fun t13 w =>
  OpX Try.prog (Op.load 3 (Operand.const t13)) 3 (fun t14 w =>
  OpX Try.prog (Op.call { callee := Callee.builtin Builtin.len, args := #[Operand.const t8], argTypes := #[50] }) 3 (fun t16 w =>
  Join1 (fun k1 w =>
  Loop2 t14 (Value.int IntKind.i64 0) (fun t4 t17 next2 w =>
  BinX Try.prog BinOp.lss 3 t17 t16 (fun t18 w =>
  BrW t18
  (OpX Try.prog (Op.indexAddr 50 (Operand.const t8) (Operand.const t17)) 0 (fun t19 w =>
  OpX Try.prog (Op.load 3 (Operand.const t19)) 3 (fun t20 w =>
  OpX Try.prog (Op.nilCheck (Operand.const p0)) 0 (fun t23 w =>
  OpX Try.prog (Op.fieldAddr 89 (Operand.const t23) 2) 0 (fun t24 w =>
  OpX Try.prog (Op.load 3 (Operand.const t24)) 3 (fun t25 w =>
  BinX Try.prog BinOp.gtr 3 t20 t25 (fun t26 w =>
  BrW t26
  (k1 t20 w)
  (BinX Try.prog BinOp.add 3 t17 (Value.int IntKind.i64 1) (fun t28 w =>
  next2 t4 t28 w) w) ()) w) w) w) w) w) w)
  (k1 t4 w) ()) w) w) (fun t4_1 w =>
  OpX Try.prog (Op.nilCheck (Operand.const p0)) 0 (fun t31 w =>
  OpX Try.prog (Op.fieldAddr 89 (Operand.const t31) 2) 0 (fun t32 w =>
  OpX Try.prog (Op.store 3 (Operand.const t32) (Operand.const t4_1)) 0 (fun _ w =>
  K t4_1 w) w) w) w) w) w) w) w) ()) w) w) w
theorem kids_Kids_Next_link (p0 : Value) {R : Value → World → Prop} {w : World} (h : ∀ K : Value → World → Prop, (∀ v w', R v w' → K v w') → kids_Kids_Next p0 K w) : Calls Try.prog 59 #[p0] w (retK R) :=
  calls_of_def [p0] [(17, [4]), (18, [4, 17])] mixed Try.func59 (by kernel_rfl) (by kernel_rfl) (by kernel_rfl) (X := kids_Kids_Next p0 R w) (by kernel_rfl) (h R fun _ _ h => h)
theorem kids_Kids_Next_b : Bodied Try.prog 59 := ⟨_, Try.func59, by kernel_rfl, by kernel_rfl⟩

/- maps.Keys[map[int]*lyceum/kids.child,int,*lyceum/kids.child] -/
def maps_Keys_map_int_kids_child_int_kids_child (p0 : Value) (K : Value → World → Prop) (w : World) : Prop :=
  OpX Try.prog (Op.box 87 (Operand.const p0)) 0 (fun t1 w =>
  OpX Try.prog (Op.makeFunc (Fn.func 113) #[] #[Operand.const t1]) 126 (fun t3 w =>
  K t3 w) w) w
theorem maps_Keys_map_int_kids_child_int_kids_child_link (p0 : Value) {R : Value → World → Prop} {w : World} (h : ∀ K : Value → World → Prop, (∀ v w', R v w' → K v w') → maps_Keys_map_int_kids_child_int_kids_child p0 K w) : Calls Try.prog 97 #[p0] w (retK R) :=
  calls_of_def [p0] [] mixed Try.func97 (by kernel_rfl) (by kernel_rfl) (by kernel_rfl) (X := maps_Keys_map_int_kids_child_int_kids_child p0 R w) (by kernel_rfl) (h R fun _ _ h => h)
theorem maps_Keys_map_int_kids_child_int_kids_child_b : Bodied Try.prog 97 := ⟨_, Try.func97, by kernel_rfl, by kernel_rfl⟩

/- maps.Keys[map[int]*lyceum/kids.child,int,*lyceum/kids.child]$1 -/
def maps_Keys_map_int_kids_child_int_kids_child_1 (p0 p1 : Value) (K : Value → World → Prop) (w : World) : Prop :=
  OpX Try.prog (Op.load 87 (Operand.const p1)) 87 (fun t4 w =>
  OpX Try.prog (Op.range 87 (Operand.const t4)) 0 (fun t5 w =>
  Loop0 (fun next1 w =>
  OpX Try.prog (Op.next (Operand.const t5) false) 0 (fun t6 w =>
  OpX Try.prog (Op.extract (Operand.const t6) 0) 4 (fun t7 w =>
  BrW t7
  (OpX Try.prog (Op.entry (Operand.const t5)) 0 (fun t8 w =>
  OpX Try.prog (Op.extract (Operand.const t8) 0) 3 (fun t9 w =>
  OpX Try.prog (Op.call { callee := Callee.value (Operand.const p0), args := #[Operand.const t9], argTypes := #[3] }) 4 (fun t12 w =>
  OpX Try.prog (Op.unOp UnOp.not 4 (Operand.const t12)) 4 (fun t13 w =>
  BrW t13
  (K (Value.tuple #[]) w)
  (next1 w) ()) w) w) w) w)
  (K (Value.tuple #[]) w) ()) w) w) w) w) w
theorem maps_Keys_map_int_kids_child_int_kids_child_1_link (p0 p1 : Value) {R : Value → World → Prop} {w : World} (h : ∀ K : Value → World → Prop, (∀ v w', R v w' → K v w') → maps_Keys_map_int_kids_child_int_kids_child_1 p0 p1 K w) : Calls Try.prog 113 #[p0, p1] w (retK R) :=
  calls_of_def [p0, p1] [(3, [])] mixed Try.func113 (by kernel_rfl) (by kernel_rfl) (by kernel_rfl) (X := maps_Keys_map_int_kids_child_int_kids_child_1 p0 p1 R w) (by kernel_rfl) (h R fun _ _ h => h)
theorem maps_Keys_map_int_kids_child_int_kids_child_1_b : Bodied Try.prog 113 := ⟨_, Try.func113, by kernel_rfl, by kernel_rfl⟩

/- lyceum/lyceumlaw20.KidsQueues -/
def lyceumlaw20_KidsQueues (p0 p1 p2 : Value) (K : Value → World → Prop) (w : World) : Prop :=
  OpX Try.prog (Op.call { callee := Callee.value (Operand.func 24), args := #[], argTypes := #[] }) 4 (fun t16 w =>
  BinX Try.prog BinOp.and 3 p1 (Value.int IntKind.i64 15) (fun t18 w =>
  BinX Try.prog BinOp.add 3 t18 (Value.int IntKind.i64 1) (fun t20 w =>
  BinX Try.prog BinOp.rem 3 p2 (Value.int IntKind.i64 14) (fun t22 w =>
  BinX Try.prog BinOp.add 3 t22 (Value.int IntKind.i64 14) (fun t23 w =>
  BinX Try.prog BinOp.rem 3 t23 (Value.int IntKind.i64 14) (fun t24 w =>
  BinX Try.prog BinOp.add 3 t20 t24 (fun t25 w =>
  BinX Try.prog BinOp.rem 3 t25 (Value.int IntKind.i64 16) (fun t26 w =>
  OpX Try.prog (Op.call { callee := Callee.value (Operand.func 25), args := #[Operand.const (Value.int IntKind.i64 15), Operand.const p0], argTypes := #[3, 3] }) 36 (fun t28 w =>
  Join1 (fun k1 w =>
  BinX Try.prog BinOp.eql 36 t28 (Value.pointer none) (fun t30 w =>
  BrW t30
  (k1 (Value.bool true) w)
  (OpX Try.prog (Op.call { callee := Callee.value (Operand.func 26), args := #[Operand.const t28, Operand.const t18], argTypes := #[36, 3] }) 4 (fun t34 w =>
  OpX Try.prog (Op.unOp UnOp.not 4 (Operand.const t34)) 4 (fun t35 w =>
  BrW t35
  (k1 (Value.bool true) w)
  (OpX Try.prog (Op.call { callee := Callee.value (Operand.func 26), args := #[Operand.const t28, Operand.const t26], argTypes := #[36, 3] }) 4 (fun t40 w =>
  OpX Try.prog (Op.unOp UnOp.not 4 (Operand.const t40)) 4 (fun t41 w =>
  k1 t41 w) w) w) ()) w) w) ()) w) (fun t42 w =>
  BrW t42
  (K (Value.bool false) w)
  (OpX Try.prog (Op.call { callee := Callee.value (Operand.func 27), args := #[Operand.const t28, Operand.const t18], argTypes := #[36, 3] }) 24 (fun t45 w =>
  OpX Try.prog (Op.build 29 #[(2, Operand.const (Value.bool true))]) 29 (fun t46 w =>
  OpX Try.prog (Op.call { callee := Callee.value (Operand.func 19), args := #[Operand.const t45, Operand.const t46], argTypes := #[24, 29] }) 4 (fun _ w =>
  OpX Try.prog (Op.call { callee := Callee.value (Operand.func 27), args := #[Operand.const t28, Operand.const t18], argTypes := #[36, 3] }) 24 (fun t50 w =>
  OpX Try.prog (Op.call { callee := Callee.value (Operand.func 21), args := #[Operand.const t50], argTypes := #[24] }) 3 (fun t51 w =>
  OpX Try.prog (Op.call { callee := Callee.value (Operand.func 27), args := #[Operand.const t28, Operand.const t26], argTypes := #[36, 3] }) 24 (fun t54 w =>
  OpX Try.prog (Op.call { callee := Callee.value (Operand.func 21), args := #[Operand.const t54], argTypes := #[24] }) 3 (fun t55 w =>
  OpX Try.prog (Op.call { callee := Callee.value (Operand.func 26), args := #[Operand.const t28, Operand.const t18], argTypes := #[36, 3] }) 4 (fun t58 w =>
  OpX Try.prog (Op.call { callee := Callee.value (Operand.func 27), args := #[Operand.const t28, Operand.const t18], argTypes := #[36, 3] }) 24 (fun t61 w =>
  OpX Try.prog (Op.call { callee := Callee.value (Operand.func 21), args := #[Operand.const t61], argTypes := #[24] }) 3 (fun t62 w =>
  OpX Try.prog (Op.call { callee := Callee.value (Operand.func 28), args := #[Operand.const t28, Operand.const t18], argTypes := #[36, 3] }) 4 (fun _ w =>
  OpX Try.prog (Op.call { callee := Callee.value (Operand.func 27), args := #[Operand.const t28, Operand.const t18], argTypes := #[36, 3] }) 24 (fun t68 w =>
  BinX Try.prog BinOp.eql 24 t68 (Value.pointer none) (fun t69 w =>
  OpX Try.prog (Op.call { callee := Callee.value (Operand.func 26), args := #[Operand.const t28, Operand.const t18], argTypes := #[36, 3] }) 4 (fun _ w =>
  Join1 (fun k2 w =>
  BrW t16
  (BinX Try.prog BinOp.eql 3 t51 (Value.int IntKind.i64 1) (fun t76 w =>
  BrW t76
  (BinX Try.prog BinOp.eql 3 t55 (Value.int IntKind.i64 0) (fun t80 w =>
  BrW t80
  (BrW t58
  (BinX Try.prog BinOp.eql 3 t62 (Value.int IntKind.i64 1) (fun t87 w =>
  BrW t87
  (BrW t69
  (OpX Try.prog (Op.call { callee := Callee.value (Operand.func 27), args := #[Operand.const t28, Operand.const t18], argTypes := #[36, 3] }) 24 (fun t95 w =>
  OpX Try.prog (Op.call { callee := Callee.value (Operand.func 21), args := #[Operand.const t95], argTypes := #[24] }) 3 (fun t96 w =>
  BinX Try.prog BinOp.eql 3 t96 (Value.int IntKind.i64 0) (fun t97 w =>
  BrW t97
  (OpX Try.prog (Op.call { callee := Callee.value (Operand.func 27), args := #[Operand.const t28, Operand.const t18], argTypes := #[36, 3] }) 24 (fun t102 w =>
  OpX Try.prog (Op.call { callee := Callee.value (Operand.func 22), args := #[Operand.const t102], argTypes := #[24] }) 4 (fun t103 w =>
  BrW t103
  (OpX Try.prog (Op.call { callee := Callee.value (Operand.func 27), args := #[Operand.const t28, Operand.const t26], argTypes := #[36, 3] }) 24 (fun t108 w =>
  OpX Try.prog (Op.call { callee := Callee.value (Operand.func 22), args := #[Operand.const t108], argTypes := #[24] }) 4 (fun t109 w =>
  k2 t109 w) w) w)
  (k2 (Value.bool false) w) ()) w) w)
  (k2 (Value.bool false) w) ()) w) w) w)
  (k2 (Value.bool false) w) ())
  (k2 (Value.bool false) w) ()) w)
  (k2 (Value.bool false) w) ())
  (k2 (Value.bool false) w) ()) w)
  (k2 (Value.bool false) w) ()) w)
  (k2 (Value.bool false) w) ()) (fun t6 w =>
  K t6 w) w) w) w) w) w) w) w) w) w) w) w) w) w) w) w) ()) w) w) w) w) w) w) w) w) w) w
theorem lyceumlaw20_KidsQueues_link (p0 p1 p2 : Value) {R : Value → World → Prop} {w : World} (h : ∀ K : Value → World → Prop, (∀ v w', R v w' → K v w') → lyceumlaw20_KidsQueues p0 p1 p2 K w) : Calls Try.prog 6 #[p0, p1, p2] w (retK R) :=
  calls_of_def [p0, p1, p2] [(12, [42]), (35, [6])] mixed Try.func6 (by kernel_rfl) (by kernel_rfl) (by kernel_rfl) (X := lyceumlaw20_KidsQueues p0 p1 p2 R w) (by kernel_rfl) (h R fun _ _ h => h)
theorem lyceumlaw20_KidsQueues_b : Bodied Try.prog 6 := ⟨_, Try.func6, by kernel_rfl, by kernel_rfl⟩

/- lyceum/lyceumlaw20.KidsRoom -/
def lyceumlaw20_KidsRoom (p0 p1 : Value) (K : Value → World → Prop) (w : World) : Prop :=
  OpX Try.prog (Op.call { callee := Callee.value (Operand.func 24), args := #[], argTypes := #[] }) 4 (fun t12 w =>
  OpX Try.prog (Op.call { callee := Callee.value (Operand.func 25), args := #[Operand.const p0, Operand.const (Value.int IntKind.i64 2)], argTypes := #[3, 3] }) 36 (fun t14 w =>
  BinX Try.prog BinOp.eql 36 t14 (Value.pointer none) (fun t16 w =>
  BrW t16
  (K (Value.bool false) w)
  (OpX Try.prog (Op.call { callee := Callee.builtin Builtin.max, args := #[Operand.const p0, Operand.const (Value.int IntKind.i64 0)], argTypes := #[3, 3] }) 3 (fun t18 w =>
  OpX Try.prog (Op.call { callee := Callee.builtin Builtin.min, args := #[Operand.const t18, Operand.const (Value.int IntKind.i64 15)], argTypes := #[3, 3] }) 3 (fun t19 w =>
  Loop1 (Value.int IntKind.i64 0) (fun t8 next1 w =>
  Join1 (fun k2 w =>
  OpX Try.prog (Op.call { callee := Callee.builtin Builtin.len, args := #[Operand.const p1], argTypes := #[78] }) 3 (fun t22 w =>
  BinX Try.prog BinOp.lss 3 t8 t22 (fun t23 w =>
  BrW t23
  (BinX Try.prog BinOp.lss 3 t8 (Value.int IntKind.i64 80) (fun t26 w =>
  k2 t26 w) w)
  (k2 (Value.bool false) w) ()) w) w) (fun t27 w =>
  BrW t27
  (OpX Try.prog (Op.indexAddr 78 (Operand.const p1) (Operand.const t8)) 0 (fun t32 w =>
  OpX Try.prog (Op.load 80 (Operand.const t32)) 80 (fun t33 w =>
  OpX Try.prog (Op.alloc 80) 0 (fun t9 w =>
  OpX Try.prog (Op.store 80 (Operand.const t9) (Operand.const t33)) 0 (fun _ w =>
  OpX Try.prog (Op.fieldAddr 80 (Operand.const t9) 0) 0 (fun t34 w =>
  OpX Try.prog (Op.load 3 (Operand.const t34)) 3 (fun t35 w =>
  BinX Try.prog BinOp.and 3 t35 (Value.int IntKind.i64 15) (fun t36 w =>
  BinX Try.prog BinOp.eql 3 t36 (Value.int IntKind.i64 4) (fun t42 w =>
  BrW t42
  (OpX Try.prog (Op.load 80 (Operand.const t9)) 80 (fun t44 w =>
  OpX Try.prog (Op.call { callee := Callee.value (Operand.func 52), args := #[Operand.const t44], argTypes := #[80] }) 3 (fun t45 w =>
  OpX Try.prog (Op.call { callee := Callee.value (Operand.func 28), args := #[Operand.const t14, Operand.const t45], argTypes := #[36, 3] }) 4 (fun _ w =>
  OpX Try.prog (Op.call { callee := Callee.value (Operand.func 54), args := #[Operand.const t14], argTypes := #[36] }) 50 (fun t52 w =>
  Join1 (fun k3 w =>
  OpX Try.prog (Op.call { callee := Callee.builtin Builtin.len, args := #[Operand.const t52], argTypes := #[50] }) 3 (fun t54 w =>
  BinX Try.prog BinOp.gtr 3 t54 t19 (fun t56 w =>
  BrW t56
  (k3 (Value.bool true) w)
  (OpX Try.prog (Op.call { callee := Callee.value (Operand.func 55), args := #[Operand.const t14], argTypes := #[36] }) 4 (fun t59 w =>
  OpX Try.prog (Op.call { callee := Callee.builtin Builtin.len, args := #[Operand.const t52], argTypes := #[50] }) 3 (fun t61 w =>
  BinX Try.prog BinOp.geq 3 t61 t19 (fun t63 w =>
  BinX Try.prog BinOp.neq 4 t59 t63 (fun t64 w =>
  k3 t64 w) w) w) w) w) ()) w) w) (fun t65 w =>
  BrW t65
  (K (Value.bool false) w)
  (Loop1 (Value.int IntKind.i64 0) (fun t11 next4 w =>
  OpX Try.prog (Op.call { callee := Callee.builtin Builtin.len, args := #[Operand.const t52], argTypes := #[50] }) 3 (fun t68 w =>
  BinX Try.prog BinOp.lss 3 t11 t68 (fun t69 w =>
  BrW t69
  (Join1 (fun k5 w =>
  PurB Try.prog BinOp.gtr 3 t11 (Value.int IntKind.i64 0) (fun t73 =>
  BrW t73
  (PurB Try.prog BinOp.sub 3 t11 (Value.int IntKind.i64 1) (fun t77 =>
  PurX Try.prog (Op.indexAddr 50 (Operand.const t52) (Operand.const t77)) 0 (fun t78 =>
  RdX Try.prog (Op.load 3 (Operand.const t78)) 3 (fun t79 =>
  PurX Try.prog (Op.indexAddr 50 (Operand.const t52) (Operand.const t11)) 0 (fun t82 =>
  RdX Try.prog (Op.load 3 (Operand.const t82)) 3 (fun t83 =>
  PurB Try.prog BinOp.geq 3 t79 t83 (fun t84 =>
  BrW t84
  (k5 (Value.bool true) w)
  (PurX Try.prog (Op.indexAddr 50 (Operand.const t52) (Operand.const t11)) 0 (fun t89 =>
  RdX Try.prog (Op.load 3 (Operand.const t89)) 3 (fun t90 =>
  PurB Try.prog BinOp.lss 3 t90 (Value.int IntKind.i64 0) (fun t91 =>
  BrW t91
  (k5 (Value.bool true) w)
  (PurX Try.prog (Op.indexAddr 50 (Operand.const t52) (Operand.const t11)) 0 (fun t96 =>
  RdX Try.prog (Op.load 3 (Operand.const t96)) 3 (fun t97 =>
  PurB Try.prog BinOp.gtr 3 t97 (Value.int IntKind.i64 15) (fun t98 =>
  BrW t98
  (k5 (Value.bool true) w)
  (PurX Try.prog (Op.indexAddr 50 (Operand.const t52) (Operand.const t11)) 0 (fun t104 =>
  RdX Try.prog (Op.load 3 (Operand.const t104)) 3 (fun t105 =>
  OpX Try.prog (Op.call { callee := Callee.value (Operand.func 56), args := #[Operand.const t14, Operand.const t105], argTypes := #[36, 3] }) 4 (fun t106 w =>
  PurX Try.prog (Op.unOp UnOp.not 4 (Operand.const t106)) 4 (fun t107 =>
  k5 t107 w) ()) w) w) ()) ()) ()) w) ()) ()) ()) w) ()) ()) ()) w) ()) w) ()) ())
  (PurX Try.prog (Op.indexAddr 50 (Operand.const t52) (Operand.const t11)) 0 (fun t89_1 =>
  RdX Try.prog (Op.load 3 (Operand.const t89_1)) 3 (fun t90_1 =>
  PurB Try.prog BinOp.lss 3 t90_1 (Value.int IntKind.i64 0) (fun t91_1 =>
  BrW t91_1
  (k5 (Value.bool true) w)
  (PurX Try.prog (Op.indexAddr 50 (Operand.const t52) (Operand.const t11)) 0 (fun t96_1 =>
  RdX Try.prog (Op.load 3 (Operand.const t96_1)) 3 (fun t97_1 =>
  PurB Try.prog BinOp.gtr 3 t97_1 (Value.int IntKind.i64 15) (fun t98_1 =>
  BrW t98_1
  (k5 (Value.bool true) w)
  (PurX Try.prog (Op.indexAddr 50 (Operand.const t52) (Operand.const t11)) 0 (fun t104_1 =>
  RdX Try.prog (Op.load 3 (Operand.const t104_1)) 3 (fun t105_1 =>
  OpX Try.prog (Op.call { callee := Callee.value (Operand.func 56), args := #[Operand.const t14, Operand.const t105_1], argTypes := #[36, 3] }) 4 (fun t106_1 w =>
  PurX Try.prog (Op.unOp UnOp.not 4 (Operand.const t106_1)) 4 (fun t107_1 =>
  k5 t107_1 w) ()) w) w) ()) ()) ()) w) ()) ()) ()) w) ()) ()) ()) (fun t108 w =>
  BrW t108
  (K (Value.bool false) w)
  (BinX Try.prog BinOp.add 3 t11 (Value.int IntKind.i64 1) (fun t71 w =>
  next4 t71 w) w) ()) w.drew)
  (BinX Try.prog BinOp.add 3 t8 (Value.int IntKind.i64 1) (fun t29 w =>
  next1 t29 w) w) ()) w) w) w) ()) w) w) w) w) w)
  (BinX Try.prog BinOp.eql 3 t36 (Value.int IntKind.i64 7) (fun t48 w =>
  BrW t48
  (OpX Try.prog (Op.call { callee := Callee.value (Operand.func 53), args := #[Operand.const t14], argTypes := #[36] }) 50 (fun _ w =>
  OpX Try.prog (Op.call { callee := Callee.value (Operand.func 54), args := #[Operand.const t14], argTypes := #[36] }) 50 (fun t52_1 w =>
  Join1 (fun k6 w =>
  OpX Try.prog (Op.call { callee := Callee.builtin Builtin.len, args := #[Operand.const t52_1], argTypes := #[50] }) 3 (fun t54_1 w =>
  BinX Try.prog BinOp.gtr 3 t54_1 t19 (fun t56_1 w =>
  BrW t56_1
  (k6 (Value.bool true) w)
  (OpX Try.prog (Op.call { callee := Callee.value (Operand.func 55), args := #[Operand.const t14], argTypes := #[36] }) 4 (fun t59_1 w =>
  OpX Try.prog (Op.call { callee := Callee.builtin Builtin.len, args := #[Operand.const t52_1], argTypes := #[50] }) 3 (fun t61_1 w =>
  BinX Try.prog BinOp.geq 3 t61_1 t19 (fun t63_1 w =>
  BinX Try.prog BinOp.neq 4 t59_1 t63_1 (fun t64_1 w =>
  k6 t64_1 w) w) w) w) w) ()) w) w) (fun t65_1 w =>
  BrW t65_1
  (K (Value.bool false) w)
  (Loop1 (Value.int IntKind.i64 0) (fun t11_1 next7 w =>
  OpX Try.prog (Op.call { callee := Callee.builtin Builtin.len, args := #[Operand.const t52_1], argTypes := #[50] }) 3 (fun t68_1 w =>
  BinX Try.prog BinOp.lss 3 t11_1 t68_1 (fun t69_1 w =>
  BrW t69_1
  (Join1 (fun k8 w =>
  PurB Try.prog BinOp.gtr 3 t11_1 (Value.int IntKind.i64 0) (fun t73_1 =>
  BrW t73_1
  (PurB Try.prog BinOp.sub 3 t11_1 (Value.int IntKind.i64 1) (fun t77_1 =>
  PurX Try.prog (Op.indexAddr 50 (Operand.const t52_1) (Operand.const t77_1)) 0 (fun t78_1 =>
  RdX Try.prog (Op.load 3 (Operand.const t78_1)) 3 (fun t79_1 =>
  PurX Try.prog (Op.indexAddr 50 (Operand.const t52_1) (Operand.const t11_1)) 0 (fun t82_1 =>
  RdX Try.prog (Op.load 3 (Operand.const t82_1)) 3 (fun t83_1 =>
  PurB Try.prog BinOp.geq 3 t79_1 t83_1 (fun t84_1 =>
  BrW t84_1
  (k8 (Value.bool true) w)
  (PurX Try.prog (Op.indexAddr 50 (Operand.const t52_1) (Operand.const t11_1)) 0 (fun t89_2 =>
  RdX Try.prog (Op.load 3 (Operand.const t89_2)) 3 (fun t90_2 =>
  PurB Try.prog BinOp.lss 3 t90_2 (Value.int IntKind.i64 0) (fun t91_2 =>
  BrW t91_2
  (k8 (Value.bool true) w)
  (PurX Try.prog (Op.indexAddr 50 (Operand.const t52_1) (Operand.const t11_1)) 0 (fun t96_2 =>
  RdX Try.prog (Op.load 3 (Operand.const t96_2)) 3 (fun t97_2 =>
  PurB Try.prog BinOp.gtr 3 t97_2 (Value.int IntKind.i64 15) (fun t98_2 =>
  BrW t98_2
  (k8 (Value.bool true) w)
  (PurX Try.prog (Op.indexAddr 50 (Operand.const t52_1) (Operand.const t11_1)) 0 (fun t104_2 =>
  RdX Try.prog (Op.load 3 (Operand.const t104_2)) 3 (fun t105_2 =>
  OpX Try.prog (Op.call { callee := Callee.value (Operand.func 56), args := #[Operand.const t14, Operand.const t105_2], argTypes := #[36, 3] }) 4 (fun t106_2 w =>
  PurX Try.prog (Op.unOp UnOp.not 4 (Operand.const t106_2)) 4 (fun t107_2 =>
  k8 t107_2 w) ()) w) w) ()) ()) ()) w) ()) ()) ()) w) ()) ()) ()) w) ()) w) ()) ())
  (PurX Try.prog (Op.indexAddr 50 (Operand.const t52_1) (Operand.const t11_1)) 0 (fun t89_3 =>
  RdX Try.prog (Op.load 3 (Operand.const t89_3)) 3 (fun t90_3 =>
  PurB Try.prog BinOp.lss 3 t90_3 (Value.int IntKind.i64 0) (fun t91_3 =>
  BrW t91_3
  (k8 (Value.bool true) w)
  (PurX Try.prog (Op.indexAddr 50 (Operand.const t52_1) (Operand.const t11_1)) 0 (fun t96_3 =>
  RdX Try.prog (Op.load 3 (Operand.const t96_3)) 3 (fun t97_3 =>
  PurB Try.prog BinOp.gtr 3 t97_3 (Value.int IntKind.i64 15) (fun t98_3 =>
  BrW t98_3
  (k8 (Value.bool true) w)
  (PurX Try.prog (Op.indexAddr 50 (Operand.const t52_1) (Operand.const t11_1)) 0 (fun t104_3 =>
  RdX Try.prog (Op.load 3 (Operand.const t104_3)) 3 (fun t105_3 =>
  OpX Try.prog (Op.call { callee := Callee.value (Operand.func 56), args := #[Operand.const t14, Operand.const t105_3], argTypes := #[36, 3] }) 4 (fun t106_3 w =>
  PurX Try.prog (Op.unOp UnOp.not 4 (Operand.const t106_3)) 4 (fun t107_3 =>
  k8 t107_3 w) ()) w) w) ()) ()) ()) w) ()) ()) ()) w) ()) ()) ()) (fun t108_1 w =>
  BrW t108_1
  (K (Value.bool false) w)
  (BinX Try.prog BinOp.add 3 t11_1 (Value.int IntKind.i64 1) (fun t71_1 w =>
  next7 t71_1 w) w) ()) w.drew)
  (BinX Try.prog BinOp.add 3 t8 (Value.int IntKind.i64 1) (fun t29_1 w =>
  next1 t29_1 w) w) ()) w) w) w) ()) w) w) w)
  (OpX Try.prog (Op.load 80 (Operand.const t9)) 80 (fun t38 w =>
  OpX Try.prog (Op.call { callee := Callee.value (Operand.func 52), args := #[Operand.const t38], argTypes := #[80] }) 3 (fun t39 w =>
  OpX Try.prog (Op.call { callee := Callee.value (Operand.func 26), args := #[Operand.const t14, Operand.const t39], argTypes := #[36, 3] }) 4 (fun _ w =>
  OpX Try.prog (Op.call { callee := Callee.value (Operand.func 54), args := #[Operand.const t14], argTypes := #[36] }) 50 (fun t52_2 w =>
  Join1 (fun k9 w =>
  OpX Try.prog (Op.call { callee := Callee.builtin Builtin.len, args := #[Operand.const t52_2], argTypes := #[50] }) 3 (fun t54_2 w =>
  BinX Try.prog BinOp.gtr 3 t54_2 t19 (fun t56_2 w =>
  BrW t56_2
  (k9 (Value.bool true) w)
  (OpX Try.prog (Op.call { callee := Callee.value (Operand.func 55), args := #[Operand.const t14], argTypes := #[36] }) 4 (fun t59_2 w =>
  OpX Try.prog (Op.call { callee := Callee.builtin Builtin.len, args := #[Operand.const t52_2], argTypes := #[50] }) 3 (fun t61_2 w =>
  BinX Try.prog BinOp.geq 3 t61_2 t19 (fun t63_2 w =>
  BinX Try.prog BinOp.neq 4 t59_2 t63_2 (fun t64_2 w =>
  k9 t64_2 w) w) w) w) w) ()) w) w) (fun t65_2 w =>
  BrW t65_2
  (K (Value.bool false) w)
  (Loop1 (Value.int IntKind.i64 0) (fun t11_2 next10 w =>
  OpX Try.prog (Op.call { callee := Callee.builtin Builtin.len, args := #[Operand.const t52_2], argTypes := #[50] }) 3 (fun t68_2 w =>
  BinX Try.prog BinOp.lss 3 t11_2 t68_2 (fun t69_2 w =>
  BrW t69_2
  (Join1 (fun k11 w =>
  PurB Try.prog BinOp.gtr 3 t11_2 (Value.int IntKind.i64 0) (fun t73_2 =>
  BrW t73_2
  (PurB Try.prog BinOp.sub 3 t11_2 (Value.int IntKind.i64 1) (fun t77_2 =>
  PurX Try.prog (Op.indexAddr 50 (Operand.const t52_2) (Operand.const t77_2)) 0 (fun t78_2 =>
  RdX Try.prog (Op.load 3 (Operand.const t78_2)) 3 (fun t79_2 =>
  PurX Try.prog (Op.indexAddr 50 (Operand.const t52_2) (Operand.const t11_2)) 0 (fun t82_2 =>
  RdX Try.prog (Op.load 3 (Operand.const t82_2)) 3 (fun t83_2 =>
  PurB Try.prog BinOp.geq 3 t79_2 t83_2 (fun t84_2 =>
  BrW t84_2
  (k11 (Value.bool true) w)
  (PurX Try.prog (Op.indexAddr 50 (Operand.const t52_2) (Operand.const t11_2)) 0 (fun t89_4 =>
  RdX Try.prog (Op.load 3 (Operand.const t89_4)) 3 (fun t90_4 =>
  PurB Try.prog BinOp.lss 3 t90_4 (Value.int IntKind.i64 0) (fun t91_4 =>
  BrW t91_4
  (k11 (Value.bool true) w)
  (PurX Try.prog (Op.indexAddr 50 (Operand.const t52_2) (Operand.const t11_2)) 0 (fun t96_4 =>
  RdX Try.prog (Op.load 3 (Operand.const t96_4)) 3 (fun t97_4 =>
  PurB Try.prog BinOp.gtr 3 t97_4 (Value.int IntKind.i64 15) (fun t98_4 =>
  BrW t98_4
  (k11 (Value.bool true) w)
  (PurX Try.prog (Op.indexAddr 50 (Operand.const t52_2) (Operand.const t11_2)) 0 (fun t104_4 =>
  RdX Try.prog (Op.load 3 (Operand.const t104_4)) 3 (fun t105_4 =>
  OpX Try.prog (Op.call { callee := Callee.value (Operand.func 56), args := #[Operand.const t14, Operand.const t105_4], argTypes := #[36, 3] }) 4 (fun t106_4 w =>
  PurX Try.prog (Op.unOp UnOp.not 4 (Operand.const t106_4)) 4 (fun t107_4 =>
  k11 t107_4 w) ()) w) w) ()) ()) ()) w) ()) ()) ()) w) ()) ()) ()) w) ()) w) ()) ())
  (PurX Try.prog (Op.indexAddr 50 (Operand.const t52_2) (Operand.const t11_2)) 0 (fun t89_5 =>
  RdX Try.prog (Op.load 3 (Operand.const t89_5)) 3 (fun t90_5 =>
  PurB Try.prog BinOp.lss 3 t90_5 (Value.int IntKind.i64 0) (fun t91_5 =>
  BrW t91_5
  (k11 (Value.bool true) w)
  (PurX Try.prog (Op.indexAddr 50 (Operand.const t52_2) (Operand.const t11_2)) 0 (fun t96_5 =>
  RdX Try.prog (Op.load 3 (Operand.const t96_5)) 3 (fun t97_5 =>
  PurB Try.prog BinOp.gtr 3 t97_5 (Value.int IntKind.i64 15) (fun t98_5 =>
  BrW t98_5
  (k11 (Value.bool true) w)
  (PurX Try.prog (Op.indexAddr 50 (Operand.const t52_2) (Operand.const t11_2)) 0 (fun t104_5 =>
  RdX Try.prog (Op.load 3 (Operand.const t104_5)) 3 (fun t105_5 =>
  OpX Try.prog (Op.call { callee := Callee.value (Operand.func 56), args := #[Operand.const t14, Operand.const t105_5], argTypes := #[36, 3] }) 4 (fun t106_5 w =>
  PurX Try.prog (Op.unOp UnOp.not 4 (Operand.const t106_5)) 4 (fun t107_5 =>
  k11 t107_5 w) ()) w) w) ()) ()) ()) w) ()) ()) ()) w) ()) ()) ()) (fun t108_2 w =>
  BrW t108_2
  (K (Value.bool false) w)
  (BinX Try.prog BinOp.add 3 t11_2 (Value.int IntKind.i64 1) (fun t71_2 w =>
  next10 t71_2 w) w) ()) w.drew)
  (BinX Try.prog BinOp.add 3 t8 (Value.int IntKind.i64 1) (fun t29_2 w =>
  next1 t29_2 w) w) ()) w) w) w) ()) w) w) w) w) w) ()) w) ()) w) w) w) w) w) w) w) w)
  (K t12 w) ()) w) w) w) w) ()) w) w) w
theorem lyceumlaw20_KidsRoom_link (p0 p1 : Value) {R : Value → World → Prop} {w : World} (h : ∀ K : Value → World → Prop, (∀ v w', R v w' → K v w') → lyceumlaw20_KidsRoom p0 p1 K w) : Calls Try.prog 13 #[p0, p1] w (retK R) :=
  calls_of_def [p0, p1] [(20, [8]), (23, [27]), (48, [65]), (57, [11]), (67, [108])] mixed Try.func13 (by kernel_rfl) (by kernel_rfl) (by kernel_rfl) (X := lyceumlaw20_KidsRoom p0 p1 R w) (by kernel_rfl) (h R fun _ _ h => h)
theorem lyceumlaw20_KidsRoom_b : Bodied Try.prog 13 := ⟨_, Try.func13, by kernel_rfl, by kernel_rfl⟩

/- lyceum/lyceumlaw20.KidsNil -/
def lyceumlaw20_KidsNil (p0 : Value) (K : Value → World → Prop) (w : World) : Prop :=
  OpX Try.prog (Op.call { callee := Callee.value (Operand.func 57), args := #[Operand.const (Value.pointer none), Operand.const p0], argTypes := #[36, 3] }) 0 (fun _ w =>
  OpX Try.prog (Op.call { callee := Callee.value (Operand.func 58), args := #[Operand.const (Value.pointer none)], argTypes := #[36] }) 0 (fun _ w =>
  Join1 (fun k1 w =>
  OpX Try.prog (Op.call { callee := Callee.value (Operand.func 24), args := #[], argTypes := #[] }) 4 (fun t9 w =>
  BrW t9
  (OpX Try.prog (Op.call { callee := Callee.value (Operand.func 26), args := #[Operand.const (Value.pointer none), Operand.const p0], argTypes := #[36, 3] }) 4 (fun t13 w =>
  OpX Try.prog (Op.unOp UnOp.not 4 (Operand.const t13)) 4 (fun t14 w =>
  BrW t14
  (OpX Try.prog (Op.call { callee := Callee.value (Operand.func 28), args := #[Operand.const (Value.pointer none), Operand.const p0], argTypes := #[36, 3] }) 4 (fun t19 w =>
  OpX Try.prog (Op.unOp UnOp.not 4 (Operand.const t19)) 4 (fun t20 w =>
  BrW t20
  (OpX Try.prog (Op.call { callee := Callee.value (Operand.func 56), args := #[Operand.const (Value.pointer none), Operand.const p0], argTypes := #[36, 3] }) 4 (fun t25 w =>
  OpX Try.prog (Op.unOp UnOp.not 4 (Operand.const t25)) 4 (fun t26 w =>
  BrW t26
  (OpX Try.prog (Op.call { callee := Callee.value (Operand.func 53), args := #[Operand.const (Value.pointer none)], argTypes := #[36] }) 50 (fun t30 w =>
  OpX Try.prog (Op.call { callee := Callee.builtin Builtin.len, args := #[Operand.const t30], argTypes := #[50] }) 3 (fun t31 w =>
  OpX Try.prog (Op.call { callee := Callee.value (Operand.func 54), args := #[Operand.const (Value.pointer none)], argTypes := #[36] }) 50 (fun t33 w =>
  OpX Try.prog (Op.call { callee := Callee.builtin Builtin.len, args := #[Operand.const t33], argTypes := #[50] }) 3 (fun t34 w =>
  BinX Try.prog BinOp.add 3 t31 t34 (fun t35 w =>
  BinX Try.prog BinOp.eql 3 t35 (Value.int IntKind.i64 0) (fun t36 w =>
  BrW t36
  (OpX Try.prog (Op.call { callee := Callee.value (Operand.func 27), args := #[Operand.const (Value.pointer none), Operand.const p0], argTypes := #[36, 3] }) 24 (fun t41 w =>
  OpX Try.prog (Op.call { callee := Callee.value (Operand.func 21), args := #[Operand.const t41], argTypes := #[24] }) 3 (fun t42 w =>
  BinX Try.prog BinOp.eql 3 t42 (Value.int IntKind.i64 0) (fun t43 w =>
  BrW t43
  (OpX Try.prog (Op.call { callee := Callee.value (Operand.func 55), args := #[Operand.const (Value.pointer none)], argTypes := #[36] }) 4 (fun t47 w =>
  BrW t47
  (OpX Try.prog (Op.call { callee := Callee.value (Operand.func 59), args := #[Operand.const (Value.pointer none)], argTypes := #[36] }) 3 (fun t51 w =>
  BinX Try.prog BinOp.eql 3 t51 (Value.int IntKind.i64 0) (fun t52 w =>
  k1 t52 w) w) w)
  (k1 (Value.bool false) w) ()) w)
  (k1 (Value.bool false) w) ()) w) w) w)
  (k1 (Value.bool false) w) ()) w) w) w) w) w) w)
  (k1 (Value.bool false) w) ()) w) w)
  (k1 (Value.bool false) w) ()) w) w)
  (k1 (Value.bool false) w) ()) w) w)
  (k1 (Value.bool false) w) ()) w) (fun t2 w =>
  K t2 w) w) w) w
theorem lyceumlaw20_KidsNil_link (p0 : Value) {R : Value → World → Prop} {w : World} (h : ∀ K : Value → World → Prop, (∀ v w', R v w' → K v w') → lyceumlaw20_KidsNil p0 K w) : Calls Try.prog 14 #[p0] w (retK R) :=
  calls_of_def [p0] [(9, [2])] mixed Try.func14 (by kernel_rfl) (by kernel_rfl) (by kernel_rfl) (X := lyceumlaw20_KidsNil p0 R w) (by kernel_rfl) (h R fun _ _ h => h)
theorem lyceumlaw20_KidsNil_b : Bodied Try.prog 14 := ⟨_, Try.func14, by kernel_rfl, by kernel_rfl⟩

/- lyceum/lyceumlaw20.awake -/
def lyceumlaw20_awake (K : Value → World → Prop) (w : World) : Prop :=
  OpX Try.prog (Op.call { callee := Callee.value (Operand.func 25), args := #[Operand.const (Value.int IntKind.i64 1), Operand.const (Value.int IntKind.i64 2)], argTypes := #[3, 3] }) 36 (fun t5 w =>
  OpX Try.prog (Op.call { callee := Callee.value (Operand.func 26), args := #[Operand.const t5, Operand.const (Value.int IntKind.i64 3)], argTypes := #[36, 3] }) 4 (fun t7 w =>
  OpX Try.prog (Op.call { callee := Callee.value (Operand.func 26), args := #[Operand.const t5, Operand.const (Value.int IntKind.i64 4)], argTypes := #[36, 3] }) 4 (fun t9 w =>
  OpX Try.prog (Op.call { callee := Callee.value (Operand.func 26), args := #[Operand.const t5, Operand.const (Value.int IntKind.i64 3)], argTypes := #[36, 3] }) 4 (fun t11 w =>
  Join1 (fun k1 w =>
  BrW t7
  (OpX Try.prog (Op.unOp UnOp.not 4 (Operand.const t9)) 4 (fun t15 w =>
  BrW t15
  (BrW t11
  (OpX Try.prog (Op.call { callee := Callee.value (Operand.func 56), args := #[Operand.const t5, Operand.const (Value.int IntKind.i64 3)], argTypes := #[36, 3] }) 4 (fun t22 w =>
  BrW t22
  (OpX Try.prog (Op.call { callee := Callee.value (Operand.func 55), args := #[Operand.const t5], argTypes := #[36] }) 4 (fun t26 w =>
  k1 t26 w) w)
  (k1 (Value.bool false) w) ()) w)
  (k1 (Value.bool false) w) ())
  (k1 (Value.bool false) w) ()) w)
  (k1 (Value.bool false) w) ()) (fun t0 w =>
  K t0 w) w) w) w) w) w
theorem lyceumlaw20_awake_link {R : Value → World → Prop} {w : World} (h : ∀ K : Value → World → Prop, (∀ v w', R v w' → K v w') → lyceumlaw20_awake K w) : Calls Try.prog 24 #[] w (retK R) :=
  calls_of_def [] [(11, [0])] mixed Try.func24 (by kernel_rfl) (by kernel_rfl) (by kernel_rfl) (X := lyceumlaw20_awake R w) (by kernel_rfl) (h R fun _ _ h => h)
theorem lyceumlaw20_awake_b : Bodied Try.prog 24 := ⟨_, Try.func24, by kernel_rfl, by kernel_rfl⟩

/- (lyceum/lyceumlaw20.Op).id -/
def lyceumlaw20_Op_id (p0 : Value) (K : Value → World → Prop) (w : World) : Prop :=
  OpX Try.prog (Op.box 80 (Operand.const p0)) 0 (fun t1 w =>
  OpX Try.prog (Op.fieldAddr 80 (Operand.const t1) 2) 0 (fun t3 w =>
  OpX Try.prog (Op.load 4 (Operand.const t3)) 4 (fun t4 w =>
  BrW t4
  (OpX Try.prog (Op.fieldAddr 80 (Operand.const t1) 1) 0 (fun t5 w =>
  OpX Try.prog (Op.load 3 (Operand.const t5)) 3 (fun t6 w =>
  K t6 w) w) w)
  (OpX Try.prog (Op.fieldAddr 80 (Operand.const t1) 1) 0 (fun t7 w =>
  OpX Try.prog (Op.load 3 (Operand.const t7)) 3 (fun t8 w =>
  BinX Try.prog BinOp.and 3 t8 (Value.int IntKind.i64 7) (fun t9 w =>
  K t9 w) w) w) w) ()) w) w) w
theorem lyceumlaw20_Op_id_link (p0 : Value) {R : Value → World → Prop} {w : World} (h : ∀ K : Value → World → Prop, (∀ v w', R v w' → K v w') → lyceumlaw20_Op_id p0 K w) : Calls Try.prog 52 #[p0] w (retK R) :=
  calls_of_def [p0] [] mixed Try.func52 (by kernel_rfl) (by kernel_rfl) (by kernel_rfl) (X := lyceumlaw20_Op_id p0 R w) (by kernel_rfl) (h R fun _ _ h => h)
theorem lyceumlaw20_Op_id_b : Bodied Try.prog 52 := ⟨_, Try.func52, by kernel_rfl, by kernel_rfl⟩

end Go.Proofs.Ytdjdeahmhenchaa
