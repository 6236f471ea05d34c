/- Written by a program (gen.py): functions of the translation as transformers, with the link to Calls. -/
import Derived.Test.YtdjdeahmhenchaaLycDef
import Derived.Test.YtdjdeahmhenchaaW0
set_option linter.unusedSimpArgs false
set_option linter.unusedVariables false
namespace Go.Proofs.Ytdjdeahmhenchaa
open Lyc Go
set_option maxRecDepth 100000

/- (*lyceum/queue.Queue).Pop -/
def queue_Queue_Pop (p0 : Value) (K : Value → World → Prop) (w : World) : Prop :=
  OpX Try.prog (Op.alloc 29) 0 (fun t2 w =>
  OpX Try.prog (Op.call { callee := Callee.value (Operand.func 60), args := #[Operand.const p0], argTypes := #[24] }) 4 (fun t6 w =>
  BrW t6
  (OpX Try.prog (Op.build 29 #[]) 29 (fun t7 w =>
  OpX Try.prog (Op.store 29 (Operand.const t2) (Operand.const t7)) 0 (fun _ w =>
  LdR Try.prog 29 t2 (fun t2_1 w =>
  K (Value.tuple #[t2_1, (Value.bool false)]) w) w) w) w)
  (OpX Try.prog (Op.nilCheck (Operand.const p0)) 0 (fun t9 w =>
  OpX Try.prog (Op.fieldAddr 86 (Operand.const t9) 0) 0 (fun t10 w =>
  OpX Try.prog (Op.load 84 (Operand.const t10)) 84 (fun t11 w =>
  OpX Try.prog (Op.select #[{ chan := Operand.const t11, send := none, elem := 29 }] false) 0 (fun t12 w =>
  OpX Try.prog (Op.extract (Operand.const t12) 0) 3 (fun t13 w =>
  BinX Try.prog BinOp.eql 3 t13 (Value.int IntKind.i64 0) (fun t14 w =>
  BrW t14
  (OpX Try.prog (Op.extract (Operand.const t12) 2) 29 (fun t16 w =>
  OpX Try.prog (Op.alloc 29) 0 (fun t4 w =>
  OpX Try.prog (Op.store 29 (Operand.const t4) (Operand.const t16)) 0 (fun _ w =>
  OpX Try.prog (Op.load 29 (Operand.const t4)) 29 (fun t17 w =>
  OpX Try.prog (Op.store 29 (Operand.const t2) (Operand.const t17)) 0 (fun _ w =>
  LdR Try.prog 29 t2 (fun t2_2 w =>
  K (Value.tuple #[t2_2, (Value.bool true)]) w) w) w) w) w) w) w)
  (OpX Try.prog (Op.build 29 #[]) 29 (fun t15 w =>
  OpX Try.prog (Op.store 29 (Operand.const t2) (Operand.const t15)) 0 (fun _ w =>
  LdR Try.prog 29 t2 (fun t2_3 w =>
  K (Value.tuple #[t2_3, (Value.bool false)]) w) w) w) w) ()) w) w) w) w) w) w) ()) w) w
theorem queue_Queue_Pop_link (p0 : Value) {R : Value → World → Prop} {w : World} (h : ∀ K : Value → World → Prop, (∀ v w', R v w' → K v w') → queue_Queue_Pop p0 K w) : Calls Try.prog 17 #[p0] w (retK R) :=
  calls_of_def [p0] [] mixed Try.func17 (by kernel_rfl) (by kernel_rfl) (by kernel_rfl) (X := queue_Queue_Pop p0 R w) (by kernel_rfl) (h R fun _ _ h => h)
theorem queue_Queue_Pop_b : Bodied Try.prog 17 := ⟨_, Try.func17, by kernel_rfl, by kernel_rfl⟩

/- (*lyceum/queue.Queue).Want -/
def queue_Queue_Want (p0 : Value) (K : Value → World → Prop) (w : World) : Prop :=
  OpX Try.prog (Op.call { callee := Callee.value (Operand.func 60), args := #[Operand.const p0], argTypes := #[24] }) 4 (fun t3 w =>
  BrW t3
  (K (Value.tuple #[]) w)
  (OpX Try.prog (Op.call { callee := Callee.value (Operand.func 61), args := #[Operand.const p0], argTypes := #[24] }) 0 (fun _ w =>
  OpX Try.prog (Op.nilCheck (Operand.const p0)) 0 (fun t7 w =>
  OpX Try.prog (Op.fieldAddr 86 (Operand.const t7) 1) 0 (fun t8 w =>
  OpX Try.prog (Op.store 4 (Operand.const t8) (Operand.const (Value.bool true))) 0 (fun _ w =>
  K (Value.tuple #[]) w) w) w) w) w) ()) w
theorem queue_Queue_Want_link (p0 : Value) {R : Value → World → Prop} {w : World} (h : ∀ K : Value → World → Prop, (∀ v w', R v w' → K v w') → queue_Queue_Want p0 K w) : Calls Try.prog 18 #[p0] w (retK R) :=
  calls_of_def [p0] [] mixed Try.func18 (by kernel_rfl) (by kernel_rfl) (by kernel_rfl) (X := queue_Queue_Want p0 R w) (by kernel_rfl) (h R fun _ _ h => h)
theorem queue_Queue_Want_b : Bodied Try.prog 18 := ⟨_, Try.func18, by kernel_rfl, by kernel_rfl⟩

/- (*lyceum/queue.Queue).Push -/
def queue_Queue_Push (p0 p1 : Value) (K : Value → World → Prop) (w : World) : Prop :=
  OpX Try.prog (Op.box 29 (Operand.const p1)) 0 (fun t3 w =>
  Join1 (fun k1 w =>
  OpX Try.prog (Op.call { callee := Callee.value (Operand.func 60), args := #[Operand.const p0], argTypes := #[24] }) 4 (fun t6 w =>
  BrW t6
  (k1 (Value.bool true) w)
  (OpX Try.prog (Op.load 29 (Operand.const t3)) 29 (fun t8 w =>
  OpX Try.prog (Op.call { callee := Callee.value (Operand.func 62), args := #[Operand.const t8], argTypes := #[29] }) 4 (fun t9 w =>
  OpX Try.prog (Op.unOp UnOp.not 4 (Operand.const t9)) 4 (fun t10 w =>
  k1 t10 w) w) w) w) ()) w) (fun t11 w =>
  BrW t11
  (K (Value.bool false) w)
  (Join0 (fun k2 w =>
  OpX Try.prog (Op.fieldAddr 29 (Operand.const t3) 2) 0 (fun t12 w =>
  OpX Try.prog (Op.load 4 (Operand.const t12)) 4 (fun t13 w =>
  BrW t13
  (OpX Try.prog (Op.call { callee := Callee.value (Operand.func 61), args := #[Operand.const p0], argTypes := #[24] }) 0 (fun _ w =>
  OpX Try.prog (Op.nilCheck (Operand.const p0)) 0 (fun t17 w =>
  OpX Try.prog (Op.fieldAddr 86 (Operand.const t17) 1) 0 (fun t18 w =>
  OpX Try.prog (Op.store 4 (Operand.const t18) (Operand.const (Value.bool false))) 0 (fun _ w =>
  k2 w) w) w) w) w)
  (k2 w) ()) w) w) (fun w =>
  OpX Try.prog (Op.nilCheck (Operand.const p0)) 0 (fun t20 w =>
  OpX Try.prog (Op.fieldAddr 86 (Operand.const t20) 1) 0 (fun t21 w =>
  OpX Try.prog (Op.load 4 (Operand.const t21)) 4 (fun t22 w =>
  BrW t22
  (OpX Try.prog (Op.nilCheck (Operand.const p0)) 0 (fun t24 w =>
  OpX Try.prog (Op.fieldAddr 86 (Operand.const t24) 2) 0 (fun t25 w =>
  OpX Try.prog (Op.load 3 (Operand.const t25)) 3 (fun t26 w =>
  BinX Try.prog BinOp.add 3 t26 (Value.int IntKind.i64 1) (fun t27 w =>
  OpX Try.prog (Op.nilCheck (Operand.const p0)) 0 (fun t28 w =>
  OpX Try.prog (Op.fieldAddr 86 (Operand.const t28) 2) 0 (fun t29 w =>
  OpX Try.prog (Op.store 3 (Operand.const t29) (Operand.const t27)) 0 (fun _ w =>
  K (Value.bool false) w) w) w) w) w) w) w) w)
  (OpX Try.prog (Op.nilCheck (Operand.const p0)) 0 (fun t31 w =>
  OpX Try.prog (Op.fieldAddr 86 (Operand.const t31) 0) 0 (fun t32 w =>
  OpX Try.prog (Op.load 84 (Operand.const t32)) 84 (fun t33 w =>
  OpX Try.prog (Op.load 29 (Operand.const t3)) 29 (fun t34 w =>
  OpX Try.prog (Op.select #[{ chan := Operand.const t33, send := some (Operand.const t34), elem := 29 }] false) 0 (fun t35 w =>
  OpX Try.prog (Op.extract (Operand.const t35) 0) 3 (fun t36 w =>
  BinX Try.prog BinOp.eql 3 t36 (Value.int IntKind.i64 0) (fun t37 w =>
  BrW t37
  (K (Value.bool true) w)
  (OpX Try.prog (Op.call { callee := Callee.value (Operand.func 61), args := #[Operand.const p0], argTypes := #[24] }) 0 (fun _ w =>
  OpX Try.prog (Op.nilCheck (Operand.const p0)) 0 (fun t41 w =>
  OpX Try.prog (Op.fieldAddr 86 (Operand.const t41) 2) 0 (fun t42 w =>
  OpX Try.prog (Op.load 3 (Operand.const t42)) 3 (fun t43 w =>
  BinX Try.prog BinOp.add 3 t43 (Value.int IntKind.i64 1) (fun t44 w =>
  OpX Try.prog (Op.nilCheck (Operand.const p0)) 0 (fun t45 w =>
  OpX Try.prog (Op.fieldAddr 86 (Operand.const t45) 2) 0 (fun t46 w =>
  OpX Try.prog (Op.store 3 (Operand.const t46) (Operand.const t44)) 0 (fun _ w =>
  OpX Try.prog (Op.nilCheck (Operand.const p0)) 0 (fun t48 w =>
  OpX Try.prog (Op.fieldAddr 86 (Operand.const t48) 1) 0 (fun t49 w =>
  OpX Try.prog (Op.store 4 (Operand.const t49) (Operand.const (Value.bool true))) 0 (fun _ w =>
  K (Value.bool false) w) w) w) w) w) w) w) w) w) w) w) w) ()) w) w) w) w) w) w) w) ()) w) w) w) w) ()) w) w
theorem queue_Queue_Push_link (p0 p1 : Value) {R : Value → World → Prop} {w : World} (h : ∀ K : Value → World → Prop, (∀ v w', R v w' → K v w') → queue_Queue_Push p0 p1 K w) : Calls Try.prog 19 #[p0, p1] w (retK R) :=
  calls_of_def [p0, p1] [(4, [11]), (10, [])] mixed Try.func19 (by kernel_rfl) (by kernel_rfl) (by kernel_rfl) (X := queue_Queue_Push p0 p1 R w) (by kernel_rfl) (h R fun _ _ h => h)
theorem queue_Queue_Push_b : Bodied Try.prog 19 := ⟨_, Try.func19, by kernel_rfl, by kernel_rfl⟩

/- (*lyceum/queue.Queue).Len -/
def queue_Queue_Len (p0 : Value) (K : Value → World → Prop) (w : World) : Prop :=
  OpX Try.prog (Op.call { callee := Callee.value (Operand.func 60), args := #[Operand.const p0], argTypes := #[24] }) 4 (fun t4 w =>
  BrW t4
  (K (Value.int IntKind.i64 0) w)
  (OpX Try.prog (Op.nilCheck (Operand.const p0)) 0 (fun t6 w =>
  OpX Try.prog (Op.fieldAddr 86 (Operand.const t6) 0) 0 (fun t7 w =>
  OpX Try.prog (Op.load 84 (Operand.const t7)) 84 (fun t8 w =>
  OpX Try.prog (Op.call { callee := Callee.builtin Builtin.len, args := #[Operand.const t8], argTypes := #[84] }) 3 (fun t9 w =>
  K t9 w) w) w) w) w) ()) w
theorem queue_Queue_Len_link (p0 : Value) {R : Value → World → Prop} {w : World} (h : ∀ K : Value → World → Prop, (∀ v w', R v w' → K v w') → queue_Queue_Len p0 K w) : Calls Try.prog 21 #[p0] w (retK R) :=
  calls_of_def [p0] [] mixed Try.func21 (by kernel_rfl) (by kernel_rfl) (by kernel_rfl) (X := queue_Queue_Len p0 R w) (by kernel_rfl) (h R fun _ _ h => h)
theorem queue_Queue_Len_b : Bodied Try.prog 21 := ⟨_, Try.func21, by kernel_rfl, by kernel_rfl⟩

/- (*lyceum/queue.Queue).Needs -/
def queue_Queue_Needs (p0 : Value) (K : Value → World → Prop) (w : World) : Prop :=
  Join1 (fun k1 w =>
  OpX Try.prog (Op.call { callee := Callee.value (Operand.func 60), args := #[Operand.const p0], argTypes := #[24] }) 4 (fun t4 w =>
  OpX Try.prog (Op.unOp UnOp.not 4 (Operand.const t4)) 4 (fun t5 w =>
  BrW t5
  (OpX Try.prog (Op.nilCheck (Operand.const p0)) 0 (fun t8 w =>
  OpX Try.prog (Op.fieldAddr 86 (Operand.const t8) 1) 0 (fun t9 w =>
  OpX Try.prog (Op.load 4 (Operand.const t9)) 4 (fun t10 w =>
  k1 t10 w) w) w) w)
  (k1 (Value.bool false) w) ()) w) w) (fun t2 w =>
  K t2 w) w
theorem queue_Queue_Needs_link (p0 : Value) {R : Value → World → Prop} {w : World} (h : ∀ K : Value → World → Prop, (∀ v w', R v w' → K v w') → queue_Queue_Needs p0 K w) : Calls Try.prog 22 #[p0] w (retK R) :=
  calls_of_def [p0] [(3, [2])] mixed Try.func22 (by kernel_rfl) (by kernel_rfl) (by kernel_rfl) (X := queue_Queue_Needs p0 R w) (by kernel_rfl) (h R fun _ _ h => h)
theorem queue_Queue_Needs_b : Bodied Try.prog 22 := ⟨_, Try.func22, by kernel_rfl, by kernel_rfl⟩

/- (*lyceum/queue.Queue).Dropped -/
def queue_Queue_Dropped (p0 : Value) (K : Value → World → Prop) (w : World) : Prop :=
  OpX Try.prog (Op.call { callee := Callee.value (Operand.func 60), args := #[Operand.const p0], argTypes := #[24] }) 4 (fun t4 w =>
  BrW t4
  (K (Value.int IntKind.i64 0) w)
  (OpX Try.prog (Op.nilCheck (Operand.const p0)) 0 (fun t6 w =>
  OpX Try.prog (Op.fieldAddr 86 (Operand.const t6) 2) 0 (fun t7 w =>
  OpX Try.prog (Op.load 3 (Operand.const t7)) 3 (fun t8 w =>
  K t8 w) w) w) w) ()) w
theorem queue_Queue_Dropped_link (p0 : Value) {R : Value → World → Prop} {w : World} (h : ∀ K : Value → World → Prop, (∀ v w', R v w' → K v w') → queue_Queue_Dropped p0 K w) : Calls Try.prog 23 #[p0] w (retK R) :=
  calls_of_def [p0] [] mixed Try.func23 (by kernel_rfl) (by kernel_rfl) (by kernel_rfl) (X := queue_Queue_Dropped p0 R w) (by kernel_rfl) (h R fun _ _ h => h)
theorem queue_Queue_Dropped_b : Bodied Try.prog 23 := ⟨_, Try.func23, by kernel_rfl, by kernel_rfl⟩

/- (*lyceum/queue.Queue).none -/
def queue_Queue_none (p0 : Value) (K : Value → World → Prop) (w : World) : Prop :=
  Join1 (fun k1 w =>
  BinX Try.prog BinOp.eql 24 p0 (Value.pointer none) (fun t4 w =>
  BrW t4
  (k1 (Value.bool true) w)
  (OpX Try.prog (Op.nilCheck (Operand.const p0)) 0 (fun t7 w =>
  OpX Try.prog (Op.fieldAddr 86 (Operand.const t7) 0) 0 (fun t8 w =>
  OpX Try.prog (Op.load 84 (Operand.const t8)) 84 (fun t9 w =>
  BinX Try.prog BinOp.eql 84 t9 (Value.chan none) (fun t10 w =>
  k1 t10 w) w) w) w) w) ()) w) (fun t2 w =>
  K t2 w) w
theorem queue_Queue_none_link (p0 : Value) {R : Value → World → Prop} {w : World} (h : ∀ K : Value → World → Prop, (∀ v w', R v w' → K v w') → queue_Queue_none p0 K w) : Calls Try.prog 60 #[p0] w (retK R) :=
  calls_of_def [p0] [(3, [2])] mixed Try.func60 (by kernel_rfl) (by kernel_rfl) (by kernel_rfl) (X := queue_Queue_none p0 R w) (by kernel_rfl) (h R fun _ _ h => h)
theorem queue_Queue_none_b : Bodied Try.prog 60 := ⟨_, Try.func60, by kernel_rfl, by kernel_rfl⟩

/- (*lyceum/queue.Queue).drop -/
def queue_Queue_drop (p0 : Value) (K : Value → World → Prop) (w : World) : Prop :=
  Loop0 (fun next1 w =>
  OpX Try.prog (Op.nilCheck (Operand.const p0)) 0 (fun t3 w =>
  OpX Try.prog (Op.fieldAddr 86 (Operand.const t3) 0) 0 (fun t4 w =>
  OpX Try.prog (Op.load 84 (Operand.const t4)) 84 (fun t5 w =>
  OpX Try.prog (Op.select #[{ chan := Operand.const t5, send := none, elem := 29 }] false) 0 (fun t6 w =>
  OpX Try.prog (Op.extract (Operand.const t6) 0) 3 (fun t7 w =>
  BinX Try.prog BinOp.eql 3 t7 (Value.int IntKind.i64 0) (fun t8 w =>
  BrW t8
  (OpX Try.prog (Op.nilCheck (Operand.const p0)) 0 (fun t10 w =>
  OpX Try.prog (Op.fieldAddr 86 (Operand.const t10) 2) 0 (fun t11 w =>
  OpX Try.prog (Op.load 3 (Operand.const t11)) 3 (fun t12 w =>
  BinX Try.prog BinOp.add 3 t12 (Value.int IntKind.i64 1) (fun t13 w =>
  OpX Try.prog (Op.nilCheck (Operand.const p0)) 0 (fun t14 w =>
  OpX Try.prog (Op.fieldAddr 86 (Operand.const t14) 2) 0 (fun t15 w =>
  OpX Try.prog (Op.store 3 (Operand.const t15) (Operand.const t13)) 0 (fun _ w =>
  next1 w) w) w) w) w) w) w) w)
  (K (Value.tuple #[]) w) ()) w) w) w) w) w) w) w
theorem queue_Queue_drop_link (p0 : Value) {R : Value → World → Prop} {w : World} (h : ∀ K : Value → World → Prop, (∀ v w', R v w' → K v w') → queue_Queue_drop p0 K w) : Calls Try.prog 61 #[p0] w (retK R) :=
  calls_of_def [p0] [(1, [])] mixed Try.func61 (by kernel_rfl) (by kernel_rfl) (by kernel_rfl) (X := queue_Queue_drop p0 R w) (by kernel_rfl) (h R fun _ _ h => h)
theorem queue_Queue_drop_b : Bodied Try.prog 61 := ⟨_, Try.func61, by kernel_rfl, by kernel_rfl⟩

/- lyceum/queue.New -/
def queue_New (p0 : Value) (K : Value → World → Prop) (w : World) : Prop :=
  OpX Try.prog (Op.call { callee := Callee.builtin Builtin.max, args := #[Operand.const p0, Operand.const (Value.int IntKind.i64 1)], argTypes := #[3, 3] }) 3 (fun t4 w =>
  OpX Try.prog (Op.call { callee := Callee.builtin Builtin.min, args := #[Operand.const t4, Operand.const (Value.int IntKind.i64 8)], argTypes := #[3, 3] }) 3 (fun t5 w =>
  OpX Try.prog (Op.makeChan 84 (Operand.const t5)) 84 (fun t6 w =>
  OpX Try.prog (Op.build 86 #[(0, Operand.const t6), (1, Operand.const (Value.bool true))]) 86 (fun t7 w =>
  OpX Try.prog (Op.box 86 (Operand.const t7)) 24 (fun t8 w =>
  K t8 w) w) w) w) w) w
theorem queue_New_link (p0 : Value) {R : Value → World → Prop} {w : World} (h : ∀ K : Value → World → Prop, (∀ v w', R v w' → K v w') → queue_New p0 K w) : Calls Try.prog 16 #[p0] w (retK R) :=
  calls_of_def [p0] [] mixed Try.func16 (by kernel_rfl) (by kernel_rfl) (by kernel_rfl) (X := queue_New p0 R w) (by kernel_rfl) (h R fun _ _ h => h)
theorem queue_New_b : Bodied Try.prog 16 := ⟨_, Try.func16, by kernel_rfl, by kernel_rfl⟩

/- lyceum/frames.Check -/
def frames_Check (p0 : Value) (K : Value → World → Prop) (w : World) : Prop :=
  OpX Try.prog (Op.box 29 (Operand.const p0)) 0 (fun t1 w =>
  Join1 (fun k1 w =>
  OpX Try.prog (Op.fieldAddr 29 (Operand.const t1) 0) 0 (fun t3 w =>
  OpX Try.prog (Op.load 3 (Operand.const t3)) 3 (fun t4 w =>
  BinX Try.prog BinOp.geq 3 t4 (Value.int IntKind.i64 0) (fun t5 w =>
  BrW t5
  (OpX Try.prog (Op.fieldAddr 29 (Operand.const t1) 0) 0 (fun t7 w =>
  OpX Try.prog (Op.load 3 (Operand.const t7)) 3 (fun t8 w =>
  BinX Try.prog BinOp.leq 3 t8 (Value.int IntKind.i64 1073741824) (fun t9 w =>
  BrW t9
  (OpX Try.prog (Op.fieldAddr 29 (Operand.const t1) 1) 0 (fun t12 w =>
  OpX Try.prog (Op.load 3 (Operand.const t12)) 3 (fun t13 w =>
  BinX Try.prog BinOp.geq 3 t13 (Value.int IntKind.i64 0) (fun t14 w =>
  BrW t14
  (OpX Try.prog (Op.fieldAddr 29 (Operand.const t1) 1) 0 (fun t17 w =>
  OpX Try.prog (Op.load 3 (Operand.const t17)) 3 (fun t18 w =>
  BinX Try.prog BinOp.leq 3 t18 (Value.int IntKind.i64 1073741824) (fun t19 w =>
  k1 t19 w) w) w) w)
  (k1 (Value.bool false) w) ()) w) w) w)
  (k1 (Value.bool false) w) ()) w) w) w)
  (k1 (Value.bool false) w) ()) w) w) w) (fun t2 w =>
  K t2 w) w) w
theorem frames_Check_link (p0 : Value) {R : Value → World → Prop} {w : World} (h : ∀ K : Value → World → Prop, (∀ v w', R v w' → K v w') → frames_Check p0 K w) : Calls Try.prog 62 #[p0] w (retK R) :=
  calls_of_def [p0] [(3, [2])] mixed Try.func62 (by kernel_rfl) (by kernel_rfl) (by kernel_rfl) (X := frames_Check p0 R w) (by kernel_rfl) (h R fun _ _ h => h)
theorem frames_Check_b : Bodied Try.prog 62 := ⟨_, Try.func62, by kernel_rfl, by kernel_rfl⟩

end Go.Proofs.Ytdjdeahmhenchaa
