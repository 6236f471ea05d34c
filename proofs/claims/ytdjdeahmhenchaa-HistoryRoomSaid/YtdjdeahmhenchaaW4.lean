/- Written by a program (gen.py): functions of the translation as transformers, with the link to Calls. -/
import Derived.Test.YtdjdeahmhenchaaLycDef
import Derived.Test.YtdjdeahmhenchaaLycTy
import Derived.Test.YtdjdeahmhenchaaW0
set_option linter.unusedSimpArgs false
set_option linter.unusedVariables false
namespace Go.Proofs.Ytdjdeahmhenchaa
open Lyc Go
set_option maxRecDepth 100000

/- lyceum/history.New -/
def history_New (p0 : Value) (K : Value → World → Prop) (w : World) : Prop :=
  OpX Try.prog (Op.build 99 #[]) 99 (fun t4 w =>
  OpX Try.prog (Op.box 99 (Operand.const t4)) 40 (fun t5 w =>
  OpX Try.prog (Op.call { callee := Callee.builtin Builtin.max, args := #[Operand.const p0, Operand.const (Value.int IntKind.i64 0)], argTypes := #[3, 3] }) 3 (fun t8 w =>
  OpX Try.prog (Op.call { callee := Callee.builtin Builtin.min, args := #[Operand.const t8, Operand.const (Value.int IntKind.i64 500)], argTypes := #[3, 3] }) 3 (fun t9 w =>
  OpX Try.prog (Op.nilCheck (Operand.const t5)) 0 (fun t10 w =>
  OpX Try.prog (Op.fieldAddr 99 (Operand.const t10) 0) 0 (fun t11 w =>
  OpX Try.prog (Op.fieldAddr 97 (Operand.const t11) 0) 0 (fun t12 w =>
  OpX Try.prog (Op.store 3 (Operand.const t12) (Operand.const t9)) 0 (fun _ w =>
  K t5 w) w) w) w) w) w) w) w) w
theorem history_New_link (p0 : Value) {R : Value → World → Prop} {w : World} (h : ∀ K : Value → World → Prop, (∀ v w', R v w' → K v w') → history_New p0 K w) : Calls Try.prog 30 #[p0] w (retK R) :=
  calls_of_def [p0] [] mixed Try.func30 (by kernel_rfl) (by kernel_rfl) (by kernel_rfl) (X := history_New p0 R w) (by kernel_rfl) (h R fun _ _ h => h)
theorem history_New_b : Bodied Try.prog 30 := ⟨_, Try.func30, by kernel_rfl, by kernel_rfl⟩

/- (*lyceum/history.History).Push -/
def history_History_Push (p0 p1 : Value) (K : Value → World → Prop) (w : World) : Prop :=
  BinX Try.prog BinOp.eql 40 p0 (Value.pointer none) (fun t7 w =>
  BrW t7
  (K (Value.tuple #[]) w)
  (OpX Try.prog (Op.call { callee := Callee.builtin Builtin.len, args := #[Operand.const p1], argTypes := #[95] }) 3 (fun t9 w =>
  Loop1 (Value.int IntKind.i64 0) (fun t10 next1 w =>
  BinX Try.prog BinOp.lss 3 t10 t9 (fun t11 w =>
  BrW t11
  (OpX Try.prog (Op.indexAddr 95 (Operand.const p1) (Operand.const t10)) 0 (fun t12 w =>
  OpX Try.prog (Op.load 45 (Operand.const t12)) 45 (fun t13 w =>
  DrewW (fun w =>
  PurX Try.prog (Op.nilCheck (Operand.const p0)) 0 (fun t15 =>
  PurX Try.prog (Op.fieldAddr 99 (Operand.const t15) 0) 0 (fun t16 =>
  OpX Try.prog (Op.call { callee := Callee.value (Operand.func 65), args := #[Operand.const t13], argTypes := #[45] }) 45 (fun t18 w =>
  OpX Try.prog (Op.call { callee := Callee.value (Operand.func 64), args := #[Operand.const t16, Operand.const t18], argTypes := #[97, 45] }) 0 (fun _ w =>
  BinX Try.prog BinOp.add 3 t10 (Value.int IntKind.i64 1) (fun t20 w =>
  next1 t20 w) w) w) w) ()) ()) w) w) w)
  (K (Value.tuple #[]) w) ()) w) w) w) ()) w
theorem history_History_Push_link (p0 p1 : Value) {R : Value → World → Prop} {w : World} (h : ∀ K : Value → World → Prop, (∀ v w', R v w' → K v w') → history_History_Push p0 p1 K w) : Calls Try.prog 31 #[p0, p1] w (retK R) :=
  calls_of_def [p0, p1] [(9, [10])] mixed Try.func31 (by kernel_rfl) (by kernel_rfl) (by kernel_rfl) (X := history_History_Push p0 p1 R w) (by kernel_rfl) (h R fun _ _ h => h)
theorem history_History_Push_b : Bodied Try.prog 31 := ⟨_, Try.func31, by kernel_rfl, by kernel_rfl⟩

/- (*lyceum/history.History).Len -/
def history_History_Len (p0 : Value) (K : Value → World → Prop) (w : World) : Prop :=
  BinX Try.prog BinOp.eql 40 p0 (Value.pointer none) (fun t4 w =>
  BrW t4
  (K (Value.int IntKind.i64 0) w)
  (OpX Try.prog (Op.nilCheck (Operand.const p0)) 0 (fun t6 w =>
  OpX Try.prog (Op.fieldAddr 99 (Operand.const t6) 0) 0 (fun t7 w =>
  OpX Try.prog (Op.call { callee := Callee.value (Operand.func 66), args := #[Operand.const t7], argTypes := #[97] }) 3 (fun t8 w =>
  K t8 w) w) w) w) ()) w
theorem history_History_Len_link (p0 : Value) {R : Value → World → Prop} {w : World} (h : ∀ K : Value → World → Prop, (∀ v w', R v w' → K v w') → history_History_Len p0 K w) : Calls Try.prog 32 #[p0] w (retK R) :=
  calls_of_def [p0] [] mixed Try.func32 (by kernel_rfl) (by kernel_rfl) (by kernel_rfl) (X := history_History_Len p0 R w) (by kernel_rfl) (h R fun _ _ h => h)
theorem history_History_Len_b : Bodied Try.prog 32 := ⟨_, Try.func32, by kernel_rfl, by kernel_rfl⟩

/- (*lyceum/history.History).Row -/
def history_History_Row (p0 p1 : Value) (K : Value → World → Prop) (w : World) : Prop :=
  BinX Try.prog BinOp.eql 40 p0 (Value.pointer none) (fun t8 w =>
  BrW t8
  (K (Value.slice none 0 0) w)
  (OpX Try.prog (Op.nilCheck (Operand.const p0)) 0 (fun t11 w =>
  OpX Try.prog (Op.fieldAddr 99 (Operand.const t11) 0) 0 (fun t12 w =>
  OpX Try.prog (Op.call { callee := Callee.value (Operand.func 67), args := #[Operand.const t12, Operand.const p1], argTypes := #[97, 3] }) 102 (fun t14 w =>
  OpX Try.prog (Op.extract (Operand.const t14) 0) 45 (fun t15 w =>
  OpX Try.prog (Op.extract (Operand.const t14) 1) 4 (fun t16 w =>
  OpX Try.prog (Op.unOp UnOp.not 4 (Operand.const t16)) 4 (fun t18 w =>
  BrW t18
  (K (Value.slice none 0 0) w)
  (OpX Try.prog (Op.call { callee := Callee.builtin Builtin.append, args := #[Operand.const (Value.slice none 0 0), Operand.const t15], argTypes := #[45, 45] }) 45 (fun t20 w =>
  K t20 w) w) ()) w) w) w) w) w) w) ()) w
theorem history_History_Row_link (p0 p1 : Value) {R : Value → World → Prop} {w : World} (h : ∀ K : Value → World → Prop, (∀ v w', R v w' → K v w') → history_History_Row p0 p1 K w) : Calls Try.prog 33 #[p0, p1] w (retK R) :=
  calls_of_def [p0, p1] [] mixed Try.func33 (by kernel_rfl) (by kernel_rfl) (by kernel_rfl) (X := history_History_Row p0 p1 R w) (by kernel_rfl) (h R fun _ _ h => h)
theorem history_History_Row_b : Bodied Try.prog 33 := ⟨_, Try.func33, by kernel_rfl, by kernel_rfl⟩

/- (*lyceum/history.History).Clear -/
def history_History_Clear (p0 : Value) (K : Value → World → Prop) (w : World) : Prop :=
  BinX Try.prog BinOp.eql 40 p0 (Value.pointer none) (fun t3 w =>
  BrW t3
  (K (Value.tuple #[]) w)
  (OpX Try.prog (Op.nilCheck (Operand.const p0)) 0 (fun t5 w =>
  OpX Try.prog (Op.fieldAddr 99 (Operand.const t5) 0) 0 (fun t6 w =>
  OpX Try.prog (Op.call { callee := Callee.value (Operand.func 69), args := #[Operand.const t6], argTypes := #[97] }) 0 (fun _ w =>
  K (Value.tuple #[]) w) w) w) w) ()) w
theorem history_History_Clear_link (p0 : Value) {R : Value → World → Prop} {w : World} (h : ∀ K : Value → World → Prop, (∀ v w', R v w' → K v w') → history_History_Clear p0 K w) : Calls Try.prog 36 #[p0] w (retK R) :=
  calls_of_def [p0] [] mixed Try.func36 (by kernel_rfl) (by kernel_rfl) (by kernel_rfl) (X := history_History_Clear p0 R w) (by kernel_rfl) (h R fun _ _ h => h)
theorem history_History_Clear_b : Bodied Try.prog 36 := ⟨_, Try.func36, by kernel_rfl, by kernel_rfl⟩

/- (*lyceum/history.History).View -/
def history_History_View (p0 p1 p2 : Value) (K : Value → World → Prop) (w : World) : Prop :=
  OpX Try.prog (Op.box 54 (Operand.const p1)) 0 (fun t4 w =>
  OpX Try.prog (Op.alloc 54) 0 (fun t6 w =>
  OpX Try.prog (Op.load 54 (Operand.const t4)) 54 (fun t13 w =>
  OpX Try.prog (Op.call { callee := Callee.value (Operand.func 51), args := #[Operand.const t13], argTypes := #[54] }) 4 (fun t14 w =>
  OpX Try.prog (Op.unOp UnOp.not 4 (Operand.const t14)) 4 (fun t15 w =>
  BrW t15
  (OpX Try.prog (Op.build 54 #[]) 54 (fun t16 w =>
  OpX Try.prog (Op.store 54 (Operand.const t6) (Operand.const t16)) 0 (fun _ w =>
  LdR Try.prog 54 t6 (fun t6_1 w =>
  K t6_1 w) w) w) w)
  (OpX Try.prog (Op.call { callee := Callee.value (Operand.func 32), args := #[Operand.const p0], argTypes := #[40] }) 3 (fun t18 w =>
  OpX Try.prog (Op.call { callee := Callee.builtin Builtin.max, args := #[Operand.const p2, Operand.const (Value.int IntKind.i64 0)], argTypes := #[3, 3] }) 3 (fun t21 w =>
  OpX Try.prog (Op.call { callee := Callee.builtin Builtin.min, args := #[Operand.const t21, Operand.const t18], argTypes := #[3, 3] }) 3 (fun t23 w =>
  BinX Try.prog BinOp.sub 3 t18 t23 (fun t24 w =>
  DrewW (fun w =>
  PurX Try.prog (Op.fieldAddr 54 (Operand.const t4) 0) 0 (fun t25 =>
  RdX Try.prog (Op.load 3 (Operand.const t25)) 3 (fun t26 =>
  PurX Try.prog (Op.fieldAddr 54 (Operand.const t4) 1) 0 (fun t27 =>
  RdX Try.prog (Op.load 3 (Operand.const t27)) 3 (fun t28 =>
  PurX Try.prog (Op.fieldAddr 54 (Operand.const t4) 0) 0 (fun t29 =>
  RdX Try.prog (Op.load 3 (Operand.const t29)) 3 (fun t30 =>
  PurX Try.prog (Op.fieldAddr 54 (Operand.const t4) 1) 0 (fun t31 =>
  RdX Try.prog (Op.load 3 (Operand.const t31)) 3 (fun t32 =>
  PurB Try.prog BinOp.mul 3 t30 t32 (fun t33 =>
  (OpX Try.prog (Op.makeSlice 45 (Operand.const (Value.int IntKind.i64 0)) (Operand.const t33)) 45 (fun t34 w =>
  (Yld Try.prog (Op.load 3 (Operand.const t27)) 3 t28 w) ∧ ((Yld Try.prog (Op.load 3 (Operand.const t25)) 3 t26 w) ∧ ((OpX Try.prog (Op.build 54 #[(0, Operand.const t26), (1, Operand.const t28), (2, Operand.const t34)]) 54 (fun t35 w =>
  OpX Try.prog (Op.alloc 54) 0 (fun t9 w =>
  OpX Try.prog (Op.store 54 (Operand.const t9) (Operand.const t35)) 0 (fun _ w =>
  Loop1 t24 (fun t10 next1 w =>
  OpX Try.prog (Op.fieldAddr 54 (Operand.const t4) 1) 0 (fun t39 w =>
  OpX Try.prog (Op.load 3 (Operand.const t39)) 3 (fun t40 w =>
  BinX Try.prog BinOp.add 3 t24 t40 (fun t41 w =>
  BinX Try.prog BinOp.lss 3 t10 t41 (fun t42 w =>
  BrW t42
  (Join0 (fun k2 w =>
  BinX Try.prog BinOp.geq 3 t10 t18 (fun t47 w =>
  BrW t47
  (DrewW (fun w =>
  PurX Try.prog (Op.fieldAddr 54 (Operand.const t9) 2) 0 (fun t48 =>
  RdX Try.prog (Op.load 45 (Operand.const t48)) 45 (fun t49 =>
  RdX Try.prog (Op.load 54 (Operand.const t4)) 54 (fun t50 =>
  PurB Try.prog BinOp.sub 3 t10 t18 (fun t53 =>
  OpX Try.prog (Op.call { callee := Callee.value (Operand.func 75), args := #[Operand.const t50, Operand.const t53], argTypes := #[54, 3] }) 45 (fun t54 w =>
  (Yld Try.prog (Op.load 45 (Operand.const t48)) 45 t49 w) ∧ (OpX Try.prog (Op.call { callee := Callee.builtin Builtin.append, args := #[Operand.const t49, Operand.const t54], argTypes := #[45, 45] }) 45 (fun t55 w =>
  PurX Try.prog (Op.fieldAddr 54 (Operand.const t9) 2) 0 (fun t56 =>
  OpX Try.prog (Op.store 45 (Operand.const t56) (Operand.const t55)) 0 (fun _ w =>
  k2 w) w) ()) w)) w) ()) w) w) ()) w)
  (OpX Try.prog (Op.nilCheck (Operand.const p0)) 0 (fun t59 w =>
  OpX Try.prog (Op.fieldAddr 99 (Operand.const t59) 0) 0 (fun t60 w =>
  OpX Try.prog (Op.call { callee := Callee.value (Operand.func 67), args := #[Operand.const t60, Operand.const t10], argTypes := #[97, 3] }) 102 (fun t62 w =>
  OpX Try.prog (Op.extract (Operand.const t62) 0) 45 (fun t63 w =>
  OpX Try.prog (Op.extract (Operand.const t62) 1) 4 (fun _ w =>
  DrewW (fun w =>
  PurX Try.prog (Op.fieldAddr 54 (Operand.const t9) 2) 0 (fun t65 =>
  RdX Try.prog (Op.load 45 (Operand.const t65)) 45 (fun t66 =>
  PurX Try.prog (Op.fieldAddr 54 (Operand.const t4) 0) 0 (fun t68 =>
  RdX Try.prog (Op.load 3 (Operand.const t68)) 3 (fun t69 =>
  OpX Try.prog (Op.call { callee := Callee.value (Operand.func 76), args := #[Operand.const t63, Operand.const t69], argTypes := #[45, 3] }) 45 (fun t70 w =>
  (Yld Try.prog (Op.load 45 (Operand.const t65)) 45 t66 w) ∧ (OpX Try.prog (Op.call { callee := Callee.builtin Builtin.append, args := #[Operand.const t66, Operand.const t70], argTypes := #[45, 45] }) 45 (fun t71 w =>
  PurX Try.prog (Op.fieldAddr 54 (Operand.const t9) 2) 0 (fun t72 =>
  OpX Try.prog (Op.store 45 (Operand.const t72) (Operand.const t71)) 0 (fun _ w =>
  k2 w) w) ()) w)) w) w) ()) w) ()) w) w) w) w) w) w) ()) w) (fun w =>
  BinX Try.prog BinOp.add 3 t10 (Value.int IntKind.i64 1) (fun t44 w =>
  next1 t44 w) w) w)
  (OpX Try.prog (Op.load 54 (Operand.const t9)) 54 (fun t73 w =>
  OpX Try.prog (Op.store 54 (Operand.const t6) (Operand.const t73)) 0 (fun _ w =>
  LdR Try.prog 54 t6 (fun t6_2 w =>
  K t6_2 w) w) w) w) ()) w) w) w) w) w) w) w) w) ∧ (OpX Try.prog (Op.alloc 54) 0 (fun t9_1 w =>
  (Yld Try.prog (Op.load 3 (Operand.const t27)) 3 t28 w) ∧ ((Yld Try.prog (Op.load 3 (Operand.const t25)) 3 t26 w) ∧ (OpX Try.prog (Op.build 54 #[(0, Operand.const t26), (1, Operand.const t28), (2, Operand.const t34)]) 54 (fun t35_1 w =>
  OpX Try.prog (Op.store 54 (Operand.const t9_1) (Operand.const t35_1)) 0 (fun _ w =>
  Loop1 t24 (fun t10_1 next3 w =>
  OpX Try.prog (Op.fieldAddr 54 (Operand.const t4) 1) 0 (fun t39_1 w =>
  OpX Try.prog (Op.load 3 (Operand.const t39_1)) 3 (fun t40_1 w =>
  BinX Try.prog BinOp.add 3 t24 t40_1 (fun t41_1 w =>
  BinX Try.prog BinOp.lss 3 t10_1 t41_1 (fun t42_1 w =>
  BrW t42_1
  (Join0 (fun k4 w =>
  BinX Try.prog BinOp.geq 3 t10_1 t18 (fun t47_1 w =>
  BrW t47_1
  (DrewW (fun w =>
  PurX Try.prog (Op.fieldAddr 54 (Operand.const t9_1) 2) 0 (fun t48_1 =>
  RdX Try.prog (Op.load 45 (Operand.const t48_1)) 45 (fun t49_1 =>
  RdX Try.prog (Op.load 54 (Operand.const t4)) 54 (fun t50_1 =>
  PurB Try.prog BinOp.sub 3 t10_1 t18 (fun t53_1 =>
  OpX Try.prog (Op.call { callee := Callee.value (Operand.func 75), args := #[Operand.const t50_1, Operand.const t53_1], argTypes := #[54, 3] }) 45 (fun t54_1 w =>
  (Yld Try.prog (Op.load 45 (Operand.const t48_1)) 45 t49_1 w) ∧ (OpX Try.prog (Op.call { callee := Callee.builtin Builtin.append, args := #[Operand.const t49_1, Operand.const t54_1], argTypes := #[45, 45] }) 45 (fun t55_1 w =>
  PurX Try.prog (Op.fieldAddr 54 (Operand.const t9_1) 2) 0 (fun t56_1 =>
  OpX Try.prog (Op.store 45 (Operand.const t56_1) (Operand.const t55_1)) 0 (fun _ w =>
  k4 w) w) ()) w)) w) ()) w) w) ()) w)
  (OpX Try.prog (Op.nilCheck (Operand.const p0)) 0 (fun t59_1 w =>
  OpX Try.prog (Op.fieldAddr 99 (Operand.const t59_1) 0) 0 (fun t60_1 w =>
  OpX Try.prog (Op.call { callee := Callee.value (Operand.func 67), args := #[Operand.const t60_1, Operand.const t10_1], argTypes := #[97, 3] }) 102 (fun t62_1 w =>
  OpX Try.prog (Op.extract (Operand.const t62_1) 0) 45 (fun t63_1 w =>
  OpX Try.prog (Op.extract (Operand.const t62_1) 1) 4 (fun _ w =>
  DrewW (fun w =>
  PurX Try.prog (Op.fieldAddr 54 (Operand.const t9_1) 2) 0 (fun t65_1 =>
  RdX Try.prog (Op.load 45 (Operand.const t65_1)) 45 (fun t66_1 =>
  PurX Try.prog (Op.fieldAddr 54 (Operand.const t4) 0) 0 (fun t68_1 =>
  RdX Try.prog (Op.load 3 (Operand.const t68_1)) 3 (fun t69_1 =>
  OpX Try.prog (Op.call { callee := Callee.value (Operand.func 76), args := #[Operand.const t63_1, Operand.const t69_1], argTypes := #[45, 3] }) 45 (fun t70_1 w =>
  (Yld Try.prog (Op.load 45 (Operand.const t65_1)) 45 t66_1 w) ∧ (OpX Try.prog (Op.call { callee := Callee.builtin Builtin.append, args := #[Operand.const t66_1, Operand.const t70_1], argTypes := #[45, 45] }) 45 (fun t71_1 w =>
  PurX Try.prog (Op.fieldAddr 54 (Operand.const t9_1) 2) 0 (fun t72_1 =>
  OpX Try.prog (Op.store 45 (Operand.const t72_1) (Operand.const t71_1)) 0 (fun _ w =>
  k4 w) w) ()) w)) w) w) ()) w) ()) w) w) w) w) w) w) ()) w) (fun w =>
  BinX Try.prog BinOp.add 3 t10_1 (Value.int IntKind.i64 1) (fun t44_1 w =>
  next3 t44_1 w) w) w)
  (OpX Try.prog (Op.load 54 (Operand.const t9_1)) 54 (fun t73_1 w =>
  OpX Try.prog (Op.store 54 (Operand.const t6) (Operand.const t73_1)) 0 (fun _ w =>
  LdR Try.prog 54 t6 (fun t6_3 w =>
  K t6_3 w) w) w) w) ()) w) w) w) w) w) w) w))) w)))) w) ∧ (OpX Try.prog (Op.alloc 54) 0 (fun t9_2 w =>
  (Yld Try.prog (Op.load 3 (Operand.const t31)) 3 t32 w) ∧ ((Yld Try.prog (Op.load 3 (Operand.const t29)) 3 t30 w) ∧ ((Yld Try.prog (Op.load 3 (Operand.const t27)) 3 t28 w) ∧ ((Yld Try.prog (Op.load 3 (Operand.const t25)) 3 t26 w) ∧ (OpX Try.prog (Op.makeSlice 45 (Operand.const (Value.int IntKind.i64 0)) (Operand.const t33)) 45 (fun t34_1 w =>
  (Yld Try.prog (Op.load 3 (Operand.const t27)) 3 t28 w) ∧ ((Yld Try.prog (Op.load 3 (Operand.const t25)) 3 t26 w) ∧ (OpX Try.prog (Op.build 54 #[(0, Operand.const t26), (1, Operand.const t28), (2, Operand.const t34_1)]) 54 (fun t35_2 w =>
  OpX Try.prog (Op.store 54 (Operand.const t9_2) (Operand.const t35_2)) 0 (fun _ w =>
  Loop1 t24 (fun t10_2 next5 w =>
  OpX Try.prog (Op.fieldAddr 54 (Operand.const t4) 1) 0 (fun t39_2 w =>
  OpX Try.prog (Op.load 3 (Operand.const t39_2)) 3 (fun t40_2 w =>
  BinX Try.prog BinOp.add 3 t24 t40_2 (fun t41_2 w =>
  BinX Try.prog BinOp.lss 3 t10_2 t41_2 (fun t42_2 w =>
  BrW t42_2
  (Join0 (fun k6 w =>
  BinX Try.prog BinOp.geq 3 t10_2 t18 (fun t47_2 w =>
  BrW t47_2
  (DrewW (fun w =>
  PurX Try.prog (Op.fieldAddr 54 (Operand.const t9_2) 2) 0 (fun t48_2 =>
  RdX Try.prog (Op.load 45 (Operand.const t48_2)) 45 (fun t49_2 =>
  RdX Try.prog (Op.load 54 (Operand.const t4)) 54 (fun t50_2 =>
  PurB Try.prog BinOp.sub 3 t10_2 t18 (fun t53_2 =>
  OpX Try.prog (Op.call { callee := Callee.value (Operand.func 75), args := #[Operand.const t50_2, Operand.const t53_2], argTypes := #[54, 3] }) 45 (fun t54_2 w =>
  (Yld Try.prog (Op.load 45 (Operand.const t48_2)) 45 t49_2 w) ∧ (OpX Try.prog (Op.call { callee := Callee.builtin Builtin.append, args := #[Operand.const t49_2, Operand.const t54_2], argTypes := #[45, 45] }) 45 (fun t55_2 w =>
  PurX Try.prog (Op.fieldAddr 54 (Operand.const t9_2) 2) 0 (fun t56_2 =>
  OpX Try.prog (Op.store 45 (Operand.const t56_2) (Operand.const t55_2)) 0 (fun _ w =>
  k6 w) w) ()) w)) w) ()) w) w) ()) w)
  (OpX Try.prog (Op.nilCheck (Operand.const p0)) 0 (fun t59_2 w =>
  OpX Try.prog (Op.fieldAddr 99 (Operand.const t59_2) 0) 0 (fun t60_2 w =>
  OpX Try.prog (Op.call { callee := Callee.value (Operand.func 67), args := #[Operand.const t60_2, Operand.const t10_2], argTypes := #[97, 3] }) 102 (fun t62_2 w =>
  OpX Try.prog (Op.extract (Operand.const t62_2) 0) 45 (fun t63_2 w =>
  OpX Try.prog (Op.extract (Operand.const t62_2) 1) 4 (fun _ w =>
  DrewW (fun w =>
  PurX Try.prog (Op.fieldAddr 54 (Operand.const t9_2) 2) 0 (fun t65_2 =>
  RdX Try.prog (Op.load 45 (Operand.const t65_2)) 45 (fun t66_2 =>
  PurX Try.prog (Op.fieldAddr 54 (Operand.const t4) 0) 0 (fun t68_2 =>
  RdX Try.prog (Op.load 3 (Operand.const t68_2)) 3 (fun t69_2 =>
  OpX Try.prog (Op.call { callee := Callee.value (Operand.func 76), args := #[Operand.const t63_2, Operand.const t69_2], argTypes := #[45, 3] }) 45 (fun t70_2 w =>
  (Yld Try.prog (Op.load 45 (Operand.const t65_2)) 45 t66_2 w) ∧ (OpX Try.prog (Op.call { callee := Callee.builtin Builtin.append, args := #[Operand.const t66_2, Operand.const t70_2], argTypes := #[45, 45] }) 45 (fun t71_2 w =>
  PurX Try.prog (Op.fieldAddr 54 (Operand.const t9_2) 2) 0 (fun t72_2 =>
  OpX Try.prog (Op.store 45 (Operand.const t72_2) (Operand.const t71_2)) 0 (fun _ w =>
  k6 w) w) ()) w)) w) w) ()) w) ()) w) w) w) w) w) w) ()) w) (fun w =>
  BinX Try.prog BinOp.add 3 t10_2 (Value.int IntKind.i64 1) (fun t44_2 w =>
  next5 t44_2 w) w) w)
  (OpX Try.prog (Op.load 54 (Operand.const t9_2)) 54 (fun t73_2 w =>
  OpX Try.prog (Op.store 54 (Operand.const t6) (Operand.const t73_2)) 0 (fun _ w =>
  LdR Try.prog 54 t6 (fun t6_4 w =>
  K t6_4 w) w) w) w) ()) w) w) w) w) w) w) w))) w))))) w)) ()) w) ()) w) ()) w) ()) w) ()) w) w) w) w) w) ()) w) w) w) w) w
theorem history_History_View_link (p0 p1 p2 : Value) {R : Value → World → Prop} {w : World} (h : ∀ K : Value → World → Prop, (∀ v w', R v w' → K v w') → history_History_View p0 p1 p2 K w) : Calls Try.prog 40 #[p0, p1, p2] w (retK R) :=
  calls_of_def [p0, p1, p2] [(20, [10]), (28, [])] mixed Try.func40 (by kernel_rfl) (by kernel_rfl) (by kernel_rfl) (X := history_History_View p0 p1 p2 R w) (by kernel_rfl) (h R fun _ _ h => h)
theorem history_History_View_b : Bodied Try.prog 40 := ⟨_, Try.func40, by kernel_rfl, by kernel_rfl⟩

/- (*lyceum/history.ring[[]lyceum/api.Cell]).put -/
def history_ring_api_Cell_put (p0 p1 : Value) (K : Value → World → Prop) (w : World) : Prop :=
  OpX Try.prog (Op.nilCheck (Operand.const p0)) 0 (fun t5 w =>
  OpX Try.prog (Op.fieldAddr 97 (Operand.const t5) 0) 0 (fun t6 w =>
  OpX Try.prog (Op.load 3 (Operand.const t6)) 3 (fun t7 w =>
  BinX Try.prog BinOp.leq 3 t7 (Value.int IntKind.i64 0) (fun t8 w =>
  BrW t8
  (K (Value.tuple #[]) w)
  (DrewW (fun w =>
  PurX Try.prog (Op.nilCheck (Operand.const p0)) 0 (fun t10 =>
  PurX Try.prog (Op.fieldAddr 97 (Operand.const t10) 2) 0 (fun t11 =>
  RdX Try.prog (Op.load 95 (Operand.const t11)) 95 (fun t12 =>
  RdX Try.prog (Op.call { callee := Callee.builtin Builtin.len, args := #[Operand.const t12], argTypes := #[95] }) 3 (fun t13 =>
  PurX Try.prog (Op.nilCheck (Operand.const p0)) 0 (fun t15 =>
  PurX Try.prog (Op.fieldAddr 97 (Operand.const t15) 0) 0 (fun t16 =>
  RdX Try.prog (Op.load 3 (Operand.const t16)) 3 (fun t17 =>
  PurB Try.prog BinOp.lss 3 t13 t17 (fun t18 =>
  BrW t18
  (OpX Try.prog (Op.nilCheck (Operand.const p0)) 0 (fun t21 w =>
  OpX Try.prog (Op.fieldAddr 97 (Operand.const t21) 2) 0 (fun t22 w =>
  OpX Try.prog (Op.load 95 (Operand.const t22)) 95 (fun t23 w =>
  OpX Try.prog (Op.buildSlice 95 1 #[(0, Operand.const p1)]) 95 (fun t25 w =>
  OpX Try.prog (Op.call { callee := Callee.builtin Builtin.append, args := #[Operand.const t23, Operand.const t25], argTypes := #[95, 95] }) 95 (fun t26 w =>
  OpX Try.prog (Op.nilCheck (Operand.const p0)) 0 (fun t27 w =>
  OpX Try.prog (Op.fieldAddr 97 (Operand.const t27) 2) 0 (fun t28 w =>
  OpX Try.prog (Op.store 95 (Operand.const t28) (Operand.const t26)) 0 (fun _ w =>
  K (Value.tuple #[]) w) w) w) w) w) w) w) w) w)
  (DrewW (fun w =>
  PurX Try.prog (Op.nilCheck (Operand.const p0)) 0 (fun t30 =>
  PurX Try.prog (Op.fieldAddr 97 (Operand.const t30) 2) 0 (fun t31 =>
  RdX Try.prog (Op.load 95 (Operand.const t31)) 95 (fun t32 =>
  PurX Try.prog (Op.nilCheck (Operand.const p0)) 0 (fun t34 =>
  PurX Try.prog (Op.fieldAddr 97 (Operand.const t34) 1) 0 (fun t35 =>
  RdX Try.prog (Op.load 3 (Operand.const t35)) 3 (fun t36 =>
  PurX Try.prog (Op.indexAddr 95 (Operand.const t32) (Operand.const t36)) 0 (fun t38 =>
  OpX Try.prog (Op.store 45 (Operand.const t38) (Operand.const p1)) 0 (fun _ w =>
  DrewW (fun w =>
  PurX Try.prog (Op.nilCheck (Operand.const p0)) 0 (fun t41 =>
  PurX Try.prog (Op.fieldAddr 97 (Operand.const t41) 1) 0 (fun t42 =>
  RdX Try.prog (Op.load 3 (Operand.const t42)) 3 (fun t43 =>
  PurB Try.prog BinOp.add 3 t43 (Value.int IntKind.i64 1) (fun t44 =>
  PurX Try.prog (Op.nilCheck (Operand.const p0)) 0 (fun t46 =>
  PurX Try.prog (Op.fieldAddr 97 (Operand.const t46) 0) 0 (fun t47 =>
  RdX Try.prog (Op.load 3 (Operand.const t47)) 3 (fun t48 =>
  PurB Try.prog BinOp.rem 3 t44 t48 (fun t49 =>
  PurX Try.prog (Op.nilCheck (Operand.const p0)) 0 (fun t50 =>
  PurX Try.prog (Op.fieldAddr 97 (Operand.const t50) 1) 0 (fun t51 =>
  OpX Try.prog (Op.store 3 (Operand.const t51) (Operand.const t49)) 0 (fun _ w =>
  K (Value.tuple #[]) w) w) ()) ()) ()) w) ()) ()) ()) w) ()) ()) w) w) ()) w) ()) ()) w) ()) ()) w) ()) ()) w) ()) ()) w) w) ()) ()) w) ()) w) w) w) w
theorem history_ring_api_Cell_put_link (p0 p1 : Value) {R : Value → World → Prop} {w : World} (h : ∀ K : Value → World → Prop, (∀ v w', R v w' → K v w') → history_ring_api_Cell_put p0 p1 K w) : Calls Try.prog 64 #[p0, p1] w (retK R) :=
  calls_of_def [p0, p1] [] mixed Try.func64 (by kernel_rfl) (by kernel_rfl) (by kernel_rfl) (X := history_ring_api_Cell_put p0 p1 R w) (by kernel_rfl) (h R fun _ _ h => h)
theorem history_ring_api_Cell_put_b : Bodied Try.prog 64 := ⟨_, Try.func64, by kernel_rfl, by kernel_rfl⟩

/- (*lyceum/history.ring[[]lyceum/api.Cell]).size -/
def history_ring_api_Cell_size (p0 : Value) (K : Value → World → Prop) (w : World) : Prop :=
  OpX Try.prog (Op.nilCheck (Operand.const p0)) 0 (fun t4 w =>
  OpX Try.prog (Op.fieldAddr 97 (Operand.const t4) 2) 0 (fun t5 w =>
  OpX Try.prog (Op.load 95 (Operand.const t5)) 95 (fun t6 w =>
  OpX Try.prog (Op.call { callee := Callee.builtin Builtin.len, args := #[Operand.const t6], argTypes := #[95] }) 3 (fun t7 w =>
  K t7 w) w) w) w) w
theorem history_ring_api_Cell_size_link (p0 : Value) {R : Value → World → Prop} {w : World} (h : ∀ K : Value → World → Prop, (∀ v w', R v w' → K v w') → history_ring_api_Cell_size p0 K w) : Calls Try.prog 66 #[p0] w (retK R) :=
  calls_of_def [p0] [] mixed Try.func66 (by kernel_rfl) (by kernel_rfl) (by kernel_rfl) (X := history_ring_api_Cell_size p0 R w) (by kernel_rfl) (h R fun _ _ h => h)
theorem history_ring_api_Cell_size_b : Bodied Try.prog 66 := ⟨_, Try.func66, by kernel_rfl, by kernel_rfl⟩

/- (*lyceum/history.ring[[]lyceum/api.Cell]).at -/
def history_ring_api_Cell_at (p0 p1 : Value) (K : Value → World → Prop) (w : World) : Prop :=
  Join1 (fun k1 w =>
  BinX Try.prog BinOp.lss 3 p1 (Value.int IntKind.i64 0) (fun t8 w =>
  BrW t8
  (k1 (Value.bool true) w)
  (OpX Try.prog (Op.nilCheck (Operand.const p0)) 0 (fun t12 w =>
  OpX Try.prog (Op.fieldAddr 97 (Operand.const t12) 2) 0 (fun t13 w =>
  OpX Try.prog (Op.load 95 (Operand.const t13)) 95 (fun t14 w =>
  OpX Try.prog (Op.call { callee := Callee.builtin Builtin.len, args := #[Operand.const t14], argTypes := #[95] }) 3 (fun t15 w =>
  BinX Try.prog BinOp.geq 3 p1 t15 (fun t16 w =>
  k1 t16 w) w) w) w) w) w) ()) w) (fun t17 w =>
  BrW t17
  (K (Value.tuple #[(Value.slice none 0 0), (Value.bool false)]) w)
  (DrewW (fun w =>
  PurX Try.prog (Op.nilCheck (Operand.const p0)) 0 (fun t20 =>
  PurX Try.prog (Op.fieldAddr 97 (Operand.const t20) 2) 0 (fun t21 =>
  RdX Try.prog (Op.load 95 (Operand.const t21)) 95 (fun t22 =>
  PurX Try.prog (Op.nilCheck (Operand.const p0)) 0 (fun t24 =>
  PurX Try.prog (Op.fieldAddr 97 (Operand.const t24) 1) 0 (fun t25 =>
  RdX Try.prog (Op.load 3 (Operand.const t25)) 3 (fun t26 =>
  PurB Try.prog BinOp.add 3 t26 p1 (fun t28 =>
  PurX Try.prog (Op.nilCheck (Operand.const p0)) 0 (fun t30 =>
  PurX Try.prog (Op.fieldAddr 97 (Operand.const t30) 2) 0 (fun t31 =>
  RdX Try.prog (Op.load 95 (Operand.const t31)) 95 (fun t32 =>
  RdX Try.prog (Op.call { callee := Callee.builtin Builtin.len, args := #[Operand.const t32], argTypes := #[95] }) 3 (fun t33 =>
  PurB Try.prog BinOp.rem 3 t28 t33 (fun t34 =>
  PurX Try.prog (Op.indexAddr 95 (Operand.const t22) (Operand.const t34)) 0 (fun t35 =>
  RdX Try.prog (Op.load 45 (Operand.const t35)) 45 (fun t36 =>
  K (Value.tuple #[t36, (Value.bool true)]) w) w) ()) ()) w) w) ()) ()) ()) w) ()) ()) w) ()) ()) w) ()) w
theorem history_ring_api_Cell_at_link (p0 p1 : Value) {R : Value → World → Prop} {w : World} (h : ∀ K : Value → World → Prop, (∀ v w', R v w' → K v w') → history_ring_api_Cell_at p0 p1 K w) : Calls Try.prog 67 #[p0, p1] w (retK R) :=
  calls_of_def [p0, p1] [(4, [17])] mixed Try.func67 (by kernel_rfl) (by kernel_rfl) (by kernel_rfl) (X := history_ring_api_Cell_at p0 p1 R w) (by kernel_rfl) (h R fun _ _ h => h)
theorem history_ring_api_Cell_at_b : Bodied Try.prog 67 := ⟨_, Try.func67, by kernel_rfl, by kernel_rfl⟩

/- (*lyceum/history.ring[[]lyceum/api.Cell]).empty -/
def history_ring_api_Cell_empty (p0 : Value) (K : Value → World → Prop) (w : World) : Prop :=
  OpX Try.prog (Op.nilCheck (Operand.const p0)) 0 (fun t3 w =>
  OpX Try.prog (Op.fieldAddr 97 (Operand.const t3) 1) 0 (fun t4 w =>
  OpX Try.prog (Op.store 3 (Operand.const t4) (Operand.const (Value.int IntKind.i64 0))) 0 (fun _ w =>
  OpX Try.prog (Op.nilCheck (Operand.const p0)) 0 (fun t6 w =>
  OpX Try.prog (Op.fieldAddr 97 (Operand.const t6) 2) 0 (fun t7 w =>
  OpX Try.prog (Op.store 95 (Operand.const t7) (Operand.const (Value.slice none 0 0))) 0 (fun _ w =>
  K (Value.tuple #[]) w) w) w) w) w) w) w
theorem history_ring_api_Cell_empty_link (p0 : Value) {R : Value → World → Prop} {w : World} (h : ∀ K : Value → World → Prop, (∀ v w', R v w' → K v w') → history_ring_api_Cell_empty p0 K w) : Calls Try.prog 69 #[p0] w (retK R) :=
  calls_of_def [p0] [] mixed Try.func69 (by kernel_rfl) (by kernel_rfl) (by kernel_rfl) (X := history_ring_api_Cell_empty p0 R w) (by kernel_rfl) (h R fun _ _ h => h)
theorem history_ring_api_Cell_empty_b : Bodied Try.prog 69 := ⟨_, Try.func69, by kernel_rfl, by kernel_rfl⟩

/- lyceum/history.fitted -/
def history_fitted (p0 p1 : Value) (K : Value → World → Prop) (w : World) : Prop :=
  OpX Try.prog (Op.makeSlice 45 (Operand.const p1) (Operand.const p1)) 45 (fun t8 w =>
  OpX Try.prog (Op.call { callee := Callee.builtin Builtin.copy, args := #[Operand.const t8, Operand.const p0], argTypes := #[45, 45] }) 3 (fun t11 w =>
  Loop1 t11 (fun t6 next1 w =>
  BinX Try.prog BinOp.lss 3 t6 p1 (fun t14 w =>
  BrW t14
  (OpX Try.prog (Op.call { callee := Callee.value (Operand.func 105), args := #[], argTypes := #[] }) 44 (fun t19 w =>
  OpX Try.prog (Op.indexAddr 45 (Operand.const t8) (Operand.const t6)) 0 (fun t20 w =>
  OpX Try.prog (Op.store 44 (Operand.const t20) (Operand.const t19)) 0 (fun _ w =>
  BinX Try.prog BinOp.add 3 t6 (Value.int IntKind.i64 1) (fun t16 w =>
  next1 t16 w) w) w) w) w)
  (OpX Try.prog (Op.call { callee := Callee.value (Operand.func 65), args := #[Operand.const t8], argTypes := #[45] }) 45 (fun t22 w =>
  K t22 w) w) ()) w) w) w) w
theorem history_fitted_link (p0 p1 : Value) {R : Value → World → Prop} {w : World} (h : ∀ K : Value → World → Prop, (∀ v w', R v w' → K v w') → history_fitted p0 p1 K w) : Calls Try.prog 76 #[p0, p1] w (retK R) :=
  calls_of_def [p0, p1] [(8, [6])] mixed Try.func76 (by kernel_rfl) (by kernel_rfl) (by kernel_rfl) (X := history_fitted p0 p1 R w) (by kernel_rfl) (h R fun _ _ h => h)
theorem history_fitted_b : Bodied Try.prog 76 := ⟨_, Try.func76, by kernel_rfl, by kernel_rfl⟩

/- lyceum/lyceumlaw10.HistoryOrder -/
def lyceumlaw10_HistoryOrder (p0 p1 : Value) (K : Value → World → Prop) (w : World) : Prop :=
  OpX Try.prog (Op.call { callee := Callee.value (Operand.func 29), args := #[], argTypes := #[] }) 4 (fun t12 w =>
  BinX Try.prog BinOp.rem 3 p0 (Value.int IntKind.i64 21) (fun t14 w =>
  BinX Try.prog BinOp.add 3 t14 (Value.int IntKind.i64 21) (fun t15 w =>
  BinX Try.prog BinOp.rem 3 t15 (Value.int IntKind.i64 21) (fun t16 w =>
  BinX Try.prog BinOp.rem 3 p1 (Value.int IntKind.i64 51) (fun t18 w =>
  BinX Try.prog BinOp.add 3 t18 (Value.int IntKind.i64 51) (fun t19 w =>
  BinX Try.prog BinOp.rem 3 t19 (Value.int IntKind.i64 51) (fun t20 w =>
  OpX Try.prog (Op.call { callee := Callee.value (Operand.func 30), args := #[Operand.const t16], argTypes := #[3] }) 40 (fun t22 w =>
  BinX Try.prog BinOp.eql 40 t22 (Value.pointer none) (fun t24 w =>
  BrW t24
  (K (Value.bool false) w)
  (Loop1 (Value.int IntKind.i64 0) (fun t9 next1 w =>
  BinX Try.prog BinOp.lss 3 t9 t20 (fun t27 w =>
  BrW t27
  (BinX Try.prog BinOp.add 3 (Value.int IntKind.i64 48) t9 (fun t32 w =>
  OpX Try.prog (Op.convert 3 21 (Operand.const t32)) 21 (fun t33 w =>
  OpX Try.prog (Op.build 44 #[(0, Operand.const t33)]) 44 (fun t34 w =>
  OpX Try.prog (Op.buildSlice 45 1 #[(0, Operand.const t34)]) 45 (fun t35 w =>
  OpX Try.prog (Op.buildSlice 95 1 #[(0, Operand.const t35)]) 95 (fun t36 w =>
  OpX Try.prog (Op.call { callee := Callee.value (Operand.func 31), args := #[Operand.const t22, Operand.const t36], argTypes := #[40, 95] }) 0 (fun _ w =>
  BinX Try.prog BinOp.add 3 t9 (Value.int IntKind.i64 1) (fun t29 w =>
  next1 t29 w) w) w) w) w) w) w) w)
  (OpX Try.prog (Op.call { callee := Callee.value (Operand.func 32), args := #[Operand.const t22], argTypes := #[40] }) 3 (fun t39 w =>
  OpX Try.prog (Op.call { callee := Callee.builtin Builtin.min, args := #[Operand.const t16, Operand.const t20], argTypes := #[3, 3] }) 3 (fun t42 w =>
  BinX Try.prog BinOp.neq 3 t39 t42 (fun t43 w =>
  BrW t43
  (K (Value.bool false) w)
  (Loop1 (Value.int IntKind.i64 0) (fun t10 next2 w =>
  OpX Try.prog (Op.call { callee := Callee.value (Operand.func 32), args := #[Operand.const t22], argTypes := #[40] }) 3 (fun t46 w =>
  BinX Try.prog BinOp.lss 3 t10 t46 (fun t47 w =>
  BrW t47
  (OpX Try.prog (Op.call { callee := Callee.value (Operand.func 33), args := #[Operand.const t22, Operand.const t10], argTypes := #[40, 3] }) 45 (fun t52 w =>
  Join1 (fun k3 w =>
  RdX Try.prog (Op.call { callee := Callee.builtin Builtin.len, args := #[Operand.const t52], argTypes := #[45] }) 3 (fun t54 =>
  RdB Try.prog BinOp.neq 3 t54 (Value.int IntKind.i64 1) (fun t55 =>
  BrW t55
  (k3 (Value.bool true) w)
  (PurX Try.prog (Op.indexAddr 45 (Operand.const t52) (Operand.const (Value.int IntKind.i64 0))) 0 (fun t58 =>
  PurX Try.prog (Op.fieldAddr 44 (Operand.const t58) 0) 0 (fun t59 =>
  RdX Try.prog (Op.load 21 (Operand.const t59)) 21 (fun t60 =>
  PurB Try.prog BinOp.add 3 (Value.int IntKind.i64 48) t20 (fun t62 =>
  OpX Try.prog (Op.call { callee := Callee.value (Operand.func 32), args := #[Operand.const t22], argTypes := #[40] }) 3 (fun t64 w =>
  (Yld Try.prog (Op.load 21 (Operand.const t59)) 21 t60 w) ∧ (PurB Try.prog BinOp.sub 3 t62 t64 (fun t65 =>
  PurB Try.prog BinOp.add 3 t65 t10 (fun t67 =>
  PurX Try.prog (Op.convert 3 21 (Operand.const t67)) 21 (fun t68 =>
  RdB Try.prog BinOp.neq 21 t60 t68 (fun t69 =>
  k3 t69 w) w) ()) ()) ())) w) ()) w) ()) ()) ()) w) w) (fun t70 w =>
  BrW t70
  (K (Value.bool false) w)
  (BinX Try.prog BinOp.add 3 t10 (Value.int IntKind.i64 1) (fun t49 w =>
  next2 t49 w) w) ()) w.drew) w)
  (Join1 (fun k4 w =>
  BrW t12
  (OpX Try.prog (Op.call { callee := Callee.value (Operand.func 32), args := #[Operand.const t22], argTypes := #[40] }) 3 (fun t75 w =>
  OpX Try.prog (Op.call { callee := Callee.value (Operand.func 33), args := #[Operand.const t22, Operand.const t75], argTypes := #[40, 3] }) 45 (fun t76 w =>
  OpX Try.prog (Op.call { callee := Callee.builtin Builtin.len, args := #[Operand.const t76], argTypes := #[45] }) 3 (fun t77 w =>
  BinX Try.prog BinOp.eql 3 t77 (Value.int IntKind.i64 0) (fun t78 w =>
  BrW t78
  (OpX Try.prog (Op.call { callee := Callee.value (Operand.func 33), args := #[Operand.const t22, Operand.const (Value.int IntKind.i64 (-1))], argTypes := #[40, 3] }) 45 (fun t82 w =>
  OpX Try.prog (Op.call { callee := Callee.builtin Builtin.len, args := #[Operand.const t82], argTypes := #[45] }) 3 (fun t83 w =>
  BinX Try.prog BinOp.eql 3 t83 (Value.int IntKind.i64 0) (fun t84 w =>
  k4 t84 w) w) w) w)
  (k4 (Value.bool false) w) ()) w) w) w) w)
  (k4 (Value.bool false) w) ()) (fun t4 w =>
  K t4 w) w) ()) w) w) w) ()) w) w) w) ()) w) w) ()) w) w) w) w) w) w) w) w) w
theorem lyceumlaw10_HistoryOrder_link (p0 p1 : Value) {R : Value → World → Prop} {w : World} (h : ∀ K : Value → World → Prop, (∀ v w', R v w' → K v w') → lyceumlaw10_HistoryOrder p0 p1 K w) : Calls Try.prog 7 #[p0, p1] w (retK R) :=
  calls_of_def [p0, p1] [(22, [9]), (45, [10]), (57, [70]), (65, [4])] mixed Try.func7 (by kernel_rfl) (by kernel_rfl) (by kernel_rfl) (X := lyceumlaw10_HistoryOrder p0 p1 R w) (by kernel_rfl) (h R fun _ _ h => h)
theorem lyceumlaw10_HistoryOrder_b : Bodied Try.prog 7 := ⟨_, Try.func7, by kernel_rfl, by kernel_rfl⟩

/- lyceum/lyceumlaw10.HistoryRoom -/
def lyceumlaw10_HistoryRoom (p0 p1 : Value) (K : Value → World → Prop) (w : World) : Prop :=
  OpX Try.prog (Op.call { callee := Callee.value (Operand.func 29), args := #[], argTypes := #[] }) 4 (fun t11 w =>
  OpX Try.prog (Op.call { callee := Callee.value (Operand.func 30), args := #[Operand.const p0], argTypes := #[3] }) 40 (fun t13 w =>
  BinX Try.prog BinOp.eql 40 t13 (Value.pointer none) (fun t15 w =>
  BrW t15
  (K (Value.bool false) w)
  (OpX Try.prog (Op.call { callee := Callee.builtin Builtin.max, args := #[Operand.const p0, Operand.const (Value.int IntKind.i64 0)], argTypes := #[3, 3] }) 3 (fun t17 w =>
  OpX Try.prog (Op.call { callee := Callee.builtin Builtin.min, args := #[Operand.const t17, Operand.const (Value.int IntKind.i64 500)], argTypes := #[3, 3] }) 3 (fun t18 w =>
  Loop1 (Value.int IntKind.i64 0) (fun t8 next1 w =>
  Join1 (fun k2 w =>
  OpX Try.prog (Op.call { callee := Callee.builtin Builtin.len, args := #[Operand.const p1], argTypes := #[48] }) 3 (fun t21 w =>
  BinX Try.prog BinOp.lss 3 t8 t21 (fun t22 w =>
  BrW t22
  (BinX Try.prog BinOp.lss 3 t8 (Value.int IntKind.i64 30) (fun t25 w =>
  k2 t25 w) w)
  (k2 (Value.bool false) w) ()) w) w) (fun t26 w =>
  BrW t26
  (OpX Try.prog (Op.indexAddr 48 (Operand.const p1) (Operand.const t8)) 0 (fun t31 w =>
  OpX Try.prog (Op.load 50 (Operand.const t31)) 50 (fun t32 w =>
  OpX Try.prog (Op.call { callee := Callee.value (Operand.func 34), args := #[Operand.const t32], argTypes := #[50] }) 45 (fun t33 w =>
  OpX Try.prog (Op.buildSlice 95 1 #[(0, Operand.const t33)]) 95 (fun t36 w =>
  OpX Try.prog (Op.call { callee := Callee.value (Operand.func 31), args := #[Operand.const t13, Operand.const t36], argTypes := #[40, 95] }) 0 (fun _ w =>
  OpX Try.prog (Op.call { callee := Callee.value (Operand.func 32), args := #[Operand.const t13], argTypes := #[40] }) 3 (fun t39 w =>
  BinX Try.prog BinOp.add 3 t8 (Value.int IntKind.i64 1) (fun t42 w =>
  OpX Try.prog (Op.call { callee := Callee.builtin Builtin.min, args := #[Operand.const t18, Operand.const t42], argTypes := #[3, 3] }) 3 (fun t43 w =>
  BinX Try.prog BinOp.neq 3 t39 t43 (fun t44 w =>
  BrW t44
  (K (Value.bool false) w)
  (OpX Try.prog (Op.call { callee := Callee.value (Operand.func 32), args := #[Operand.const t13], argTypes := #[40] }) 3 (fun t47 w =>
  BinX Try.prog BinOp.sub 3 t47 (Value.int IntKind.i64 1) (fun t48 w =>
  OpX Try.prog (Op.call { callee := Callee.value (Operand.func 33), args := #[Operand.const t13, Operand.const t48], argTypes := #[40, 3] }) 45 (fun t49 w =>
  OpX Try.prog (Op.call { callee := Callee.value (Operand.func 35), args := #[Operand.const t49, Operand.const t33], argTypes := #[45, 45] }) 4 (fun t51 w =>
  Join1 (fun k3 w =>
  BinX Try.prog BinOp.gtr 3 t18 (Value.int IntKind.i64 0) (fun t53 w =>
  BrW t53
  (OpX Try.prog (Op.unOp UnOp.not 4 (Operand.const t51)) 4 (fun t56 w =>
  k3 t56 w) w)
  (k3 (Value.bool false) w) ()) w) (fun t57 w =>
  BrW t57
  (K (Value.bool false) w)
  (BinX Try.prog BinOp.add 3 t8 (Value.int IntKind.i64 1) (fun t28 w =>
  next1 t28 w) w) ()) w) w) w) w) w) ()) w) w) w) w) w) w) w) w) w)
  (OpX Try.prog (Op.call { callee := Callee.value (Operand.func 36), args := #[Operand.const t13], argTypes := #[40] }) 0 (fun _ w =>
  Join1 (fun k4 w =>
  BrW t11
  (OpX Try.prog (Op.call { callee := Callee.value (Operand.func 32), args := #[Operand.const t13], argTypes := #[40] }) 3 (fun t63 w =>
  BinX Try.prog BinOp.eql 3 t63 (Value.int IntKind.i64 0) (fun t64 w =>
  BrW t64
  (OpX Try.prog (Op.call { callee := Callee.value (Operand.func 33), args := #[Operand.const t13, Operand.const (Value.int IntKind.i64 0)], argTypes := #[40, 3] }) 45 (fun t68 w =>
  OpX Try.prog (Op.call { callee := Callee.builtin Builtin.len, args := #[Operand.const t68], argTypes := #[45] }) 3 (fun t69 w =>
  BinX Try.prog BinOp.eql 3 t69 (Value.int IntKind.i64 0) (fun t70 w =>
  k4 t70 w) w) w) w)
  (k4 (Value.bool false) w) ()) w) w)
  (k4 (Value.bool false) w) ()) (fun t4 w =>
  K t4 w) w) w) ()) w) w) w) w) ()) w) w) w
theorem lyceumlaw10_HistoryRoom_link (p0 p1 : Value) {R : Value → World → Prop} {w : World} (h : ∀ K : Value → World → Prop, (∀ v w', R v w' → K v w') → lyceumlaw10_HistoryRoom p0 p1 K w) : Calls Try.prog 8 #[p0, p1] w (retK R) :=
  calls_of_def [p0, p1] [(20, [8]), (23, [26]), (44, [57]), (54, [4])] mixed Try.func8 (by kernel_rfl) (by kernel_rfl) (by kernel_rfl) (X := lyceumlaw10_HistoryRoom p0 p1 R w) (by kernel_rfl) (h R fun _ _ h => h)
theorem lyceumlaw10_HistoryRoom_b : Bodied Try.prog 8 := ⟨_, Try.func8, by kernel_rfl, by kernel_rfl⟩

/- lyceum/lyceumlaw10.HistoryViews -/
def lyceumlaw10_HistoryViews (p0 p1 p2 : Value) (K : Value → World → Prop) (w : World) : Prop :=
  OpX Try.prog (Op.call { callee := Callee.value (Operand.func 29), args := #[], argTypes := #[] }) 4 (fun t20 w =>
  OpX Try.prog (Op.call { callee := Callee.value (Operand.func 30), args := #[Operand.const (Value.int IntKind.i64 500)], argTypes := #[3] }) 40 (fun t21 w =>
  BinX Try.prog BinOp.eql 40 t21 (Value.pointer none) (fun t23 w =>
  BrW t23
  (K (Value.bool false) w)
  (OpX Try.prog (Op.call { callee := Callee.builtin Builtin.len, args := #[Operand.const p0], argTypes := #[50] }) 3 (fun t25 w =>
  OpX Try.prog (Op.call { callee := Callee.builtin Builtin.min, args := #[Operand.const t25, Operand.const (Value.int IntKind.i64 20)], argTypes := #[3, 3] }) 3 (fun t26 w =>
  Loop1 (Value.int IntKind.i64 0) (fun t10 next1 w =>
  BinX Try.prog BinOp.lss 3 t10 t26 (fun t29 w =>
  BrW t29
  (OpX Try.prog (Op.indexAddr 50 (Operand.const p0) (Operand.const t10)) 0 (fun t35 w =>
  OpX Try.prog (Op.load 3 (Operand.const t35)) 3 (fun t36 w =>
  BinX Try.prog BinOp.and 3 t36 (Value.int IntKind.i64 7) (fun t37 w =>
  BinX Try.prog BinOp.add 3 (Value.int IntKind.i64 97) t37 (fun t38 w =>
  OpX Try.prog (Op.convert 3 21 (Operand.const t38)) 21 (fun t39 w =>
  OpX Try.prog (Op.build 44 #[(0, Operand.const t39)]) 44 (fun t40 w =>
  OpX Try.prog (Op.build 44 #[(0, Operand.const (Value.int IntKind.i32 45))]) 44 (fun t41 w =>
  OpX Try.prog (Op.build 44 #[(0, Operand.const (Value.int IntKind.i32 45))]) 44 (fun t42 w =>
  OpX Try.prog (Op.buildSlice 45 3 #[(0, Operand.const t40), (1, Operand.const t41), (2, Operand.const t42)]) 45 (fun t43 w =>
  OpX Try.prog (Op.buildSlice 95 1 #[(0, Operand.const t43)]) 95 (fun t44 w =>
  OpX Try.prog (Op.call { callee := Callee.value (Operand.func 31), args := #[Operand.const t21, Operand.const t44], argTypes := #[40, 95] }) 0 (fun _ w =>
  BinX Try.prog BinOp.add 3 t10 (Value.int IntKind.i64 1) (fun t31 w =>
  next1 t31 w) w) w) w) w) w) w) w) w) w) w) w) w)
  (BinX Try.prog BinOp.rem 3 p1 (Value.int IntKind.i64 5) (fun t47 w =>
  BinX Try.prog BinOp.add 3 t47 (Value.int IntKind.i64 5) (fun t48 w =>
  BinX Try.prog BinOp.rem 3 t48 (Value.int IntKind.i64 5) (fun t49 w =>
  BinX Try.prog BinOp.add 3 (Value.int IntKind.i64 1) t49 (fun t50 w =>
  OpX Try.prog (Op.call { callee := Callee.value (Operand.func 37), args := #[Operand.const (Value.int IntKind.i64 3), Operand.const t50], argTypes := #[3, 3] }) 54 (fun t51 w =>
  OpX Try.prog (Op.alloc 54) 0 (fun t11 w =>
  OpX Try.prog (Op.store 54 (Operand.const t11) (Operand.const t51)) 0 (fun _ w =>
  OpX Try.prog (Op.load 54 (Operand.const t11)) 54 (fun t52 w =>
  OpX Try.prog (Op.build 44 #[(0, Operand.const (Value.int IntKind.i32 35))]) 44 (fun t53 w =>
  OpX Try.prog (Op.buildSlice 45 1 #[(0, Operand.const t53)]) 45 (fun t54 w =>
  OpX Try.prog (Op.call { callee := Callee.value (Operand.func 38), args := #[Operand.const t52, Operand.const (Value.int IntKind.i64 1), Operand.const (Value.int IntKind.i64 0), Operand.const t54], argTypes := #[54, 3, 3, 45] }) 54 (fun t55 w =>
  OpX Try.prog (Op.store 54 (Operand.const t11) (Operand.const t55)) 0 (fun _ w =>
  DrewW (fun w =>
  RdX Try.prog (Op.load 54 (Operand.const t11)) 54 (fun t57 =>
  RdX Try.prog (Op.load 54 (Operand.const t11)) 54 (fun t59 =>
  OpX Try.prog (Op.call { callee := Callee.value (Operand.func 40), args := #[Operand.const t21, Operand.const t57, Operand.const (Value.int IntKind.i64 0)], argTypes := #[40, 54, 3] }) 54 (fun t58 w =>
  (Yld Try.prog (Op.load 54 (Operand.const t11)) 54 t59 w) ∧ (OpX Try.prog (Op.call { callee := Callee.value (Operand.func 39), args := #[Operand.const t58, Operand.const t59], argTypes := #[54, 54] }) 4 (fun t60 w =>
  BinX Try.prog BinOp.add 3 t26 (Value.int IntKind.i64 1) (fun t63 w =>
  BinX Try.prog BinOp.rem 3 p2 t63 (fun t64 w =>
  BinX Try.prog BinOp.add 3 t64 t26 (fun t66 w =>
  BinX Try.prog BinOp.add 3 t66 (Value.int IntKind.i64 1) (fun t67 w =>
  BinX Try.prog BinOp.add 3 t26 (Value.int IntKind.i64 1) (fun t69 w =>
  BinX Try.prog BinOp.rem 3 t67 t69 (fun t70 w =>
  OpX Try.prog (Op.load 54 (Operand.const t11)) 54 (fun t72 w =>
  OpX Try.prog (Op.call { callee := Callee.value (Operand.func 40), args := #[Operand.const t21, Operand.const t72, Operand.const t70], argTypes := #[40, 54, 3] }) 54 (fun t74 w =>
  OpX Try.prog (Op.alloc 54) 0 (fun t14 w =>
  OpX Try.prog (Op.store 54 (Operand.const t14) (Operand.const t74)) 0 (fun _ w =>
  Join1 (fun k2 w =>
  OpX Try.prog (Op.unOp UnOp.not 4 (Operand.const t60)) 4 (fun t76 w =>
  BrW t76
  (k2 (Value.bool true) w)
  (OpX Try.prog (Op.fieldAddr 54 (Operand.const t14) 0) 0 (fun t78 w =>
  OpX Try.prog (Op.load 3 (Operand.const t78)) 3 (fun t79 w =>
  BinX Try.prog BinOp.neq 3 t79 (Value.int IntKind.i64 3) (fun t80 w =>
  BrW t80
  (k2 (Value.bool true) w)
  (OpX Try.prog (Op.fieldAddr 54 (Operand.const t14) 1) 0 (fun t83 w =>
  OpX Try.prog (Op.load 3 (Operand.const t83)) 3 (fun t84 w =>
  OpX Try.prog (Op.fieldAddr 54 (Operand.const t11) 1) 0 (fun t85 w =>
  OpX Try.prog (Op.load 3 (Operand.const t85)) 3 (fun t86 w =>
  BinX Try.prog BinOp.neq 3 t84 t86 (fun t87 w =>
  k2 t87 w) w) w) w) w) w) ()) w) w) w) ()) w) (fun t88 w =>
  BrW t88
  (K (Value.bool false) w)
  (Loop1 (Value.int IntKind.i64 0) (fun t15 next3 w =>
  OpX Try.prog (Op.fieldAddr 54 (Operand.const t11) 1) 0 (fun t90 w =>
  OpX Try.prog (Op.load 3 (Operand.const t90)) 3 (fun t91 w =>
  BinX Try.prog BinOp.lss 3 t15 t91 (fun t92 w =>
  BrW t92
  (BinX Try.prog BinOp.sub 3 t26 t70 (fun t97 w =>
  BinX Try.prog BinOp.add 3 t97 t15 (fun t99 w =>
  Loop1 (Value.int IntKind.i64 0) (fun t17 next4 w =>
  BinX Try.prog BinOp.lss 3 t17 (Value.int IntKind.i64 3) (fun t101 w =>
  BrW t101
  (OpX Try.prog (Op.load 54 (Operand.const t11)) 54 (fun t104 w =>
  BinX Try.prog BinOp.sub 3 t99 t26 (fun t108 w =>
  OpX Try.prog (Op.call { callee := Callee.value (Operand.func 41), args := #[Operand.const t104, Operand.const t17, Operand.const t108], argTypes := #[54, 3, 3] }) 44 (fun t109 w =>
  OpX Try.prog (Op.alloc 44) 0 (fun t18 w =>
  OpX Try.prog (Op.store 44 (Operand.const t18) (Operand.const t109)) 0 (fun _ w =>
  Join0 (fun k5 w =>
  BinX Try.prog BinOp.lss 3 t99 t26 (fun t112 w =>
  BrW t112
  (OpX Try.prog (Op.build 44 #[(0, Operand.const (Value.int IntKind.i32 45))]) 44 (fun t113 w =>
  OpX Try.prog (Op.store 44 (Operand.const t18) (Operand.const t113)) 0 (fun _ w =>
  BinX Try.prog BinOp.eql 3 t17 (Value.int IntKind.i64 0) (fun t115 w =>
  BrW t115
  (OpX Try.prog (Op.indexAddr 50 (Operand.const p0) (Operand.const t99)) 0 (fun t118 w =>
  OpX Try.prog (Op.load 3 (Operand.const t118)) 3 (fun t119 w =>
  BinX Try.prog BinOp.and 3 t119 (Value.int IntKind.i64 7) (fun t120 w =>
  BinX Try.prog BinOp.add 3 (Value.int IntKind.i64 97) t120 (fun t121 w =>
  OpX Try.prog (Op.convert 3 21 (Operand.const t121)) 21 (fun t122 w =>
  OpX Try.prog (Op.fieldAddr 44 (Operand.const t18) 0) 0 (fun t123 w =>
  OpX Try.prog (Op.store 21 (Operand.const t123) (Operand.const t122)) 0 (fun _ w =>
  k5 w) w) w) w) w) w) w) w)
  (k5 w) ()) w) w) w)
  (k5 w) ()) w) (fun w =>
  DrewW (fun w =>
  RdX Try.prog (Op.load 54 (Operand.const t14)) 54 (fun t124 =>
  RdX Try.prog (Op.load 44 (Operand.const t18)) 44 (fun t128 =>
  OpX Try.prog (Op.call { callee := Callee.value (Operand.func 42), args := #[Operand.const t124, Operand.const t17, Operand.const t15], argTypes := #[54, 3, 3] }) 44 (fun t127 w =>
  (Yld Try.prog (Op.load 44 (Operand.const t18)) 44 t128 w) ∧ (RdB Try.prog BinOp.neq 44 t127 t128 (fun t129 =>
  BrW t129
  (K (Value.bool false) w)
  (BinX Try.prog BinOp.add 3 t17 (Value.int IntKind.i64 1) (fun t103 w =>
  next4 t103 w) w) ()) w)) w) w) w) w) w) w) w) w) w) w)
  (BinX Try.prog BinOp.add 3 t15 (Value.int IntKind.i64 1) (fun t94 w =>
  next3 t94 w) w) ()) w) w) w) w)
  (DrewW (fun w =>
  RdX Try.prog (Op.load 54 (Operand.const t11)) 54 (fun t131 =>
  RdX Try.prog (Op.load 54 (Operand.const t11)) 54 (fun t134 =>
  OpX Try.prog (Op.call { callee := Callee.value (Operand.func 40), args := #[Operand.const t21, Operand.const t131, Operand.const (Value.int IntKind.i64 1000)], argTypes := #[40, 54, 3] }) 54 (fun t132 w =>
  (Yld Try.prog (Op.load 54 (Operand.const t11)) 54 t134 w) ∧ (OpX Try.prog (Op.call { callee := Callee.value (Operand.func 40), args := #[Operand.const t21, Operand.const t134, Operand.const t26], argTypes := #[40, 54, 3] }) 54 (fun t136 w =>
  OpX Try.prog (Op.call { callee := Callee.value (Operand.func 39), args := #[Operand.const t132, Operand.const t136], argTypes := #[54, 54] }) 4 (fun t137 w =>
  Join1 (fun k6 w =>
  BrW t20
  (k6 t137 w)
  (k6 (Value.bool false) w) ()) (fun t6 w =>
  K t6 w) w) w) w)) w) w) w) w) ()) w) w) w) w) ()) w) w) w) w) w) w) w) w) w) w) w) w)) w) w) w) w) w) w) w) w) w) w) w) w) w) w) w) w) ()) w) w) w) w) ()) w) w) w
theorem lyceumlaw10_HistoryViews_link (p0 p1 p2 : Value) {R : Value → World → Prop} {w : World} (h : ∀ K : Value → World → Prop, (∀ v w', R v w' → K v w') → lyceumlaw10_HistoryViews p0 p1 p2 K w) : Calls Try.prog 9 #[p0, p1, p2] w (retK R) :=
  calls_of_def [p0, p1, p2] [(20, [10]), (43, [88]), (53, [15]), (67, [17]), (78, []), (102, [6])] mixed Try.func9 (by kernel_rfl) (by kernel_rfl) (by kernel_rfl) (X := lyceumlaw10_HistoryViews p0 p1 p2 R w) (by kernel_rfl) (h R fun _ _ h => h)
theorem lyceumlaw10_HistoryViews_b : Bodied Try.prog 9 := ⟨_, Try.func9, by kernel_rfl, by kernel_rfl⟩

/- lyceum/lyceumlaw10.awake -/
def lyceumlaw10_awake (K : Value → World → Prop) (w : World) : Prop :=
  OpX Try.prog (Op.call { callee := Callee.value (Operand.func 30), args := #[Operand.const (Value.int IntKind.i64 2)], argTypes := #[3] }) 40 (fun t2 w =>
  BinX Try.prog BinOp.eql 40 t2 (Value.pointer none) (fun t4 w =>
  BrW t4
  (K (Value.bool false) w)
  (OpX Try.prog (Op.buildSlice 50 1 #[(0, Operand.const (Value.int IntKind.i64 0))]) 50 (fun t6 w =>
  OpX Try.prog (Op.call { callee := Callee.value (Operand.func 34), args := #[Operand.const t6], argTypes := #[50] }) 45 (fun t7 w =>
  OpX Try.prog (Op.buildSlice 50 1 #[(0, Operand.const (Value.int IntKind.i64 1))]) 50 (fun t8 w =>
  OpX Try.prog (Op.call { callee := Callee.value (Operand.func 34), args := #[Operand.const t8], argTypes := #[50] }) 45 (fun t9 w =>
  OpX Try.prog (Op.buildSlice 50 1 #[(0, Operand.const (Value.int IntKind.i64 2))]) 50 (fun t10 w =>
  OpX Try.prog (Op.call { callee := Callee.value (Operand.func 34), args := #[Operand.const t10], argTypes := #[50] }) 45 (fun t11 w =>
  OpX Try.prog (Op.buildSlice 95 3 #[(0, Operand.const t7), (1, Operand.const t9), (2, Operand.const t11)]) 95 (fun t12 w =>
  OpX Try.prog (Op.call { callee := Callee.value (Operand.func 31), args := #[Operand.const t2, Operand.const t12], argTypes := #[40, 95] }) 0 (fun _ w =>
  Join1 (fun k1 w =>
  OpX Try.prog (Op.call { callee := Callee.value (Operand.func 32), args := #[Operand.const t2], argTypes := #[40] }) 3 (fun t15 w =>
  BinX Try.prog BinOp.eql 3 t15 (Value.int IntKind.i64 2) (fun t16 w =>
  BrW t16
  (OpX Try.prog (Op.call { callee := Callee.value (Operand.func 33), args := #[Operand.const t2, Operand.const (Value.int IntKind.i64 0)], argTypes := #[40, 3] }) 45 (fun t19 w =>
  OpX Try.prog (Op.call { callee := Callee.value (Operand.func 63), args := #[Operand.const t19], argTypes := #[45] }) 9 (fun t20 w =>
  BinX Try.prog BinOp.eql 9 t20 (Value.string { data := #[98] }) (fun t21 w =>
  BrW t21
  (OpX Try.prog (Op.call { callee := Callee.value (Operand.func 33), args := #[Operand.const t2, Operand.const (Value.int IntKind.i64 1)], argTypes := #[40, 3] }) 45 (fun t25 w =>
  OpX Try.prog (Op.call { callee := Callee.value (Operand.func 63), args := #[Operand.const t25], argTypes := #[45] }) 9 (fun t26 w =>
  BinX Try.prog BinOp.eql 9 t26 (Value.string { data := #[99] }) (fun t27 w =>
  k1 t27 w) w) w) w)
  (k1 (Value.bool false) w) ()) w) w) w)
  (k1 (Value.bool false) w) ()) w) w) (fun t0 w =>
  K t0 w) w) w) w) w) w) w) w) w) w) ()) w) w
theorem lyceumlaw10_awake_link {R : Value → World → Prop} {w : World} (h : ∀ K : Value → World → Prop, (∀ v w', R v w' → K v w') → lyceumlaw10_awake K w) : Calls Try.prog 29 #[] w (retK R) :=
  calls_of_def [] [(15, [0])] mixed Try.func29 (by kernel_rfl) (by kernel_rfl) (by kernel_rfl) (X := lyceumlaw10_awake R w) (by kernel_rfl) (h R fun _ _ h => h)
theorem lyceumlaw10_awake_b : Bodied Try.prog 29 := ⟨_, Try.func29, by kernel_rfl, by kernel_rfl⟩

/- lyceum/lyceumlaw10.letters -/
def lyceumlaw10_letters (p0 : Value) (K : Value → World → Prop) (w : World) : Prop :=
  OpX Try.prog (Op.build 104 #[(0, Operand.const (Value.int IntKind.i32 97)), (1, Operand.const (Value.int IntKind.i32 98)), (2, Operand.const (Value.int IntKind.i32 99)), (3, Operand.const (Value.int IntKind.i32 32)), (4, Operand.const (Value.int IntKind.i32 19968)), (5, Operand.const (Value.int IntKind.i32 97)), (6, Operand.const (Value.int IntKind.i32 120)), (7, Operand.const (Value.int IntKind.i32 32))]) 104 (fun t6 w =>
  OpX Try.prog (Op.alloc 104) 0 (fun t3 w =>
  OpX Try.prog (Op.store 104 (Operand.const t3) (Operand.const t6)) 0 (fun _ w =>
  Loop2 (Value.slice none 0 0) (Value.int IntKind.i64 0) (fun t4 t5 next1 w =>
  Join1 (fun k2 w =>
  OpX Try.prog (Op.call { callee := Callee.builtin Builtin.len, args := #[Operand.const p0], argTypes := #[50] }) 3 (fun t9 w =>
  BinX Try.prog BinOp.lss 3 t5 t9 (fun t10 w =>
  BrW t10
  (BinX Try.prog BinOp.lss 3 t5 (Value.int IntKind.i64 10) (fun t13 w =>
  k2 t13 w) w)
  (k2 (Value.bool false) w) ()) w) w) (fun t14 w =>
  BrW t14
  (OpX Try.prog (Op.indexAddr 50 (Operand.const p0) (Operand.const t5)) 0 (fun t20 w =>
  OpX Try.prog (Op.load 3 (Operand.const t20)) 3 (fun t21 w =>
  BinX Try.prog BinOp.and 3 t21 (Value.int IntKind.i64 7) (fun t22 w =>
  OpX Try.prog (Op.indexAddr 104 (Operand.const t3) (Operand.const t22)) 0 (fun t23 w =>
  OpX Try.prog (Op.load 21 (Operand.const t23)) 21 (fun t24 w =>
  OpX Try.prog (Op.build 44 #[]) 44 (fun t25 w =>
  OpX Try.prog (Op.call { callee := Callee.value (Operand.func 68), args := #[Operand.const t24, Operand.const t25], argTypes := #[21, 44] }) 45 (fun t26 w =>
  OpX Try.prog (Op.call { callee := Callee.builtin Builtin.append, args := #[Operand.const t4, Operand.const t26], argTypes := #[45, 45] }) 45 (fun t27 w =>
  BinX Try.prog BinOp.add 3 t5 (Value.int IntKind.i64 1) (fun t16 w =>
  next1 t27 t16 w) w) w) w) w) w) w) w) w) w)
  (K t4 w) ()) w) w) w) w) w
theorem lyceumlaw10_letters_link (p0 : Value) {R : Value → World → Prop} {w : World} (h : ∀ K : Value → World → Prop, (∀ v w', R v w' → K v w') → lyceumlaw10_letters p0 K w) : Calls Try.prog 34 #[p0] w (retK R) :=
  calls_of_def [p0] [(10, [4, 5]), (13, [14])] mixed Try.func34 (by kernel_rfl) (by kernel_rfl) (by kernel_rfl) (X := lyceumlaw10_letters p0 R w) (by kernel_rfl) (h R fun _ _ h => h)
theorem lyceumlaw10_letters_b : Bodied Try.prog 34 := ⟨_, Try.func34, by kernel_rfl, by kernel_rfl⟩

end Go.Proofs.Ytdjdeahmhenchaa
