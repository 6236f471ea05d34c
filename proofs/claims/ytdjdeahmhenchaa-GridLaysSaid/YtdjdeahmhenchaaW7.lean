/- Written by a program (gen.py): functions of the translation as transformers, with the link to Calls. -/
import Derived.Test.YtdjdeahmhenchaaLycDef
import Derived.Test.YtdjdeahmhenchaaLycTy
import Derived.Test.YtdjdeahmhenchaaW0
set_option linter.unusedSimpArgs false
set_option linter.unusedVariables false
namespace Go.Proofs.Ytdjdeahmhenchaa
open Lyc Go
set_option maxRecDepth 100000

/- slices.Clone[[]lyceum/api.Cell,lyceum/api.Cell] -/
def slices_Clone_api_Cell_api_Cell (p0 : Value) (K : Value → World → Prop) (w : World) : Prop :=
  BinX Try.prog BinOp.eql 45 p0 (Value.slice none 0 0) (fun t4 w =>
  BrW t4
  (K (Value.slice none 0 0) w)
  (OpX Try.prog (Op.buildSlice 45 0 #[]) 45 (fun t5 w =>
  OpX Try.prog (Op.call { callee := Callee.builtin Builtin.append, args := #[Operand.const t5, Operand.const p0], argTypes := #[45, 45] }) 45 (fun t7 w =>
  K t7 w) w) w) ()) w
theorem slices_Clone_api_Cell_api_Cell_link (p0 : Value) {R : Value → World → Prop} {w : World} (h : ∀ K : Value → World → Prop, (∀ v w', R v w' → K v w') → slices_Clone_api_Cell_api_Cell p0 K w) : Calls Try.prog 104 #[p0] w (retK R) :=
  calls_of_def [p0] [] mixed Try.func104 (by kernel_rfl) (by kernel_rfl) (by kernel_rfl) (X := slices_Clone_api_Cell_api_Cell p0 R w) (by kernel_rfl) (h R fun _ _ h => h)
theorem slices_Clone_api_Cell_api_Cell_b : Bodied Try.prog 104 := ⟨_, Try.func104, by kernel_rfl, by kernel_rfl⟩

/- slices.Equal[[]lyceum/api.Cell,lyceum/api.Cell] -/
def slices_Equal_api_Cell_api_Cell (p0 p1 : Value) (K : Value → World → Prop) (w : World) : Prop :=
  OpX Try.prog (Op.call { callee := Callee.builtin Builtin.len, args := #[Operand.const p0], argTypes := #[45] }) 3 (fun t7 w =>
  OpX Try.prog (Op.call { callee := Callee.builtin Builtin.len, args := #[Operand.const p1], argTypes := #[45] }) 3 (fun t9 w =>
  BinX Try.prog BinOp.neq 3 t7 t9 (fun t10 w =>
  BrW t10
  (K (Value.bool false) w)
  (OpX Try.prog (Op.call { callee := Callee.builtin Builtin.len, args := #[Operand.const p0], argTypes := #[45] }) 3 (fun t12 w =>
  Loop1 (Value.int IntKind.i64 0) (fun t13 next1 w =>
  BinX Try.prog BinOp.lss 3 t13 t12 (fun t14 w =>
  BrW t14
  (DrewW (fun w =>
  PurX Try.prog (Op.indexAddr 45 (Operand.const p0) (Operand.const t13)) 0 (fun t18 =>
  RdX Try.prog (Op.load 44 (Operand.const t18)) 44 (fun t19 =>
  PurX Try.prog (Op.indexAddr 45 (Operand.const p1) (Operand.const t13)) 0 (fun t22 =>
  RdX Try.prog (Op.load 44 (Operand.const t22)) 44 (fun t23 =>
  RdB Try.prog BinOp.neq 44 t19 t23 (fun t24 =>
  BrW t24
  (K (Value.bool false) w)
  (BinX Try.prog BinOp.add 3 t13 (Value.int IntKind.i64 1) (fun t25 w =>
  next1 t25 w) w) ()) w) w) ()) w) ()) w)
  (K (Value.bool true) w) ()) w) w) w) ()) w) w) w
theorem slices_Equal_api_Cell_api_Cell_link (p0 p1 : Value) {R : Value → World → Prop} {w : World} (h : ∀ K : Value → World → Prop, (∀ v w', R v w' → K v w') → slices_Equal_api_Cell_api_Cell p0 p1 K w) : Calls Try.prog 93 #[p0, p1] w (retK R) :=
  calls_of_def [p0, p1] [(14, [13])] mixed Try.func93 (by kernel_rfl) (by kernel_rfl) (by kernel_rfl) (X := slices_Equal_api_Cell_api_Cell p0 p1 R w) (by kernel_rfl) (h R fun _ _ h => h)
theorem slices_Equal_api_Cell_api_Cell_b : Bodied Try.prog 93 := ⟨_, Try.func93, by kernel_rfl, by kernel_rfl⟩

/- slices.Repeat[[]lyceum/api.Cell,lyceum/api.Cell] -/
def slices_Repeat_api_Cell_api_Cell (p0 p1 : Value) (K : Value → World → Prop) (w : World) : Prop :=
  Join0 (fun k1 w =>
  BinX Try.prog BinOp.lss 3 p1 (Value.int IntKind.i64 0) (fun t10 w =>
  BrW t10
  (OpX Try.prog (Op.makeInterface 9 (Operand.const (Value.string { data := #[99, 97, 110, 110, 111, 116, 32, 98, 101, 32, 110, 101, 103, 97, 116, 105, 118, 101] }))) 20 (fun t11 w =>
  OpX Try.prog (Op.panic (Operand.const t11)) 0 (fun _ w =>
  k1 w) w) w)
  (k1 w) ()) w) (fun w =>
  OpX Try.prog (Op.call { callee := Callee.builtin Builtin.len, args := #[Operand.const p0], argTypes := #[45] }) 3 (fun t14 w =>
  OpX Try.prog (Op.convert 3 119 (Operand.const t14)) 119 (fun t15 w =>
  OpX Try.prog (Op.convert 3 119 (Operand.const p1)) 119 (fun t17 w =>
  OpX Try.prog (Op.call { callee := Callee.value (Operand.func 122), args := #[Operand.const t15, Operand.const t17], argTypes := #[119, 119] }) 144 (fun t18 w =>
  OpX Try.prog (Op.extract (Operand.const t18) 0) 119 (fun t19 w =>
  OpX Try.prog (Op.extract (Operand.const t18) 1) 119 (fun t20 w =>
  Join0 (fun k2 w =>
  Join1 (fun k3 w =>
  BinX Try.prog BinOp.gtr 119 t19 (Value.int IntKind.u64 0) (fun t22 w =>
  BrW t22
  (k3 (Value.bool true) w)
  (BinX Try.prog BinOp.gtr 119 t20 (Value.int IntKind.u64 9223372036854775807) (fun t25 w =>
  k3 t25 w) w) ()) w) (fun t26 w =>
  BrW t26
  (OpX Try.prog (Op.makeInterface 9 (Operand.const (Value.string { data := #[116, 104, 101, 32, 114, 101, 115, 117, 108, 116, 32, 111, 102, 32, 40, 108, 101, 110, 40, 120, 41, 32, 42, 32, 99, 111, 117, 110, 116, 41, 32, 111, 118, 101, 114, 102, 108, 111, 119, 115] }))) 20 (fun t27 w =>
  OpX Try.prog (Op.panic (Operand.const t27)) 0 (fun _ w =>
  k2 w) w) w)
  (k2 w) ()) w) (fun w =>
  OpX Try.prog (Op.convert 119 3 (Operand.const t20)) 3 (fun t29 w =>
  OpX Try.prog (Op.makeSlice 45 (Operand.const t29) (Operand.const t29)) 45 (fun t30 w =>
  OpX Try.prog (Op.call { callee := Callee.builtin Builtin.copy, args := #[Operand.const t30, Operand.const p0], argTypes := #[45, 45] }) 3 (fun t33 w =>
  Loop1 t33 (fun t8 next4 w =>
  OpX Try.prog (Op.call { callee := Callee.builtin Builtin.len, args := #[Operand.const t30], argTypes := #[45] }) 3 (fun t36 w =>
  BinX Try.prog BinOp.lss 3 t8 t36 (fun t37 w =>
  BrW t37
  (DrewW (fun w =>
  PurX Try.prog (Op.slice 45 (Operand.const t30) (some (Operand.const t8)) none none) 45 (fun t41 =>
  PurX Try.prog (Op.slice 45 (Operand.const t30) none (some (Operand.const t8)) none) 45 (fun t44 =>
  OpX Try.prog (Op.call { callee := Callee.builtin Builtin.copy, args := #[Operand.const t41, Operand.const t44], argTypes := #[45, 45] }) 3 (fun t45 w =>
  PurB Try.prog BinOp.add 3 t8 t45 (fun t46 =>
  next4 t46 w) ()) w) ()) ()) w)
  (K t30 w) ()) w) w) w) w) w) w) w) w) w) w) w) w) w) w
theorem slices_Repeat_api_Cell_api_Cell_link (p0 p1 : Value) {R : Value → World → Prop} {w : World} (h : ∀ K : Value → World → Prop, (∀ v w', R v w' → K v w') → slices_Repeat_api_Cell_api_Cell p0 p1 K w) : Calls Try.prog 109 #[p0, p1] w (retK R) :=
  calls_of_def [p0, p1] [(2, []), (10, []), (12, [26]), (22, [8])] mixed Try.func109 (by kernel_rfl) (by kernel_rfl) (by kernel_rfl) (X := slices_Repeat_api_Cell_api_Cell p0 p1 R w) (by kernel_rfl) (h R fun _ _ h => h)
theorem slices_Repeat_api_Cell_api_Cell_b : Bodied Try.prog 109 := ⟨_, Try.func109, by kernel_rfl, by kernel_rfl⟩

/- math/bits.Mul -/
def math_bits_Mul (p0 p1 : Value) (K : Value → World → Prop) (w : World) : Prop :=
  OpX Try.prog (Op.call { callee := Callee.value (Operand.func 132), args := #[Operand.const p0, Operand.const p1], argTypes := #[155, 155] }) 156 (fun t25 w =>
  OpX Try.prog (Op.extract (Operand.const t25) 0) 155 (fun t26 w =>
  OpX Try.prog (Op.extract (Operand.const t25) 1) 155 (fun t27 w =>
  K (Value.tuple #[t26, t27]) w) w) w) w
theorem math_bits_Mul_link (p0 p1 : Value) {R : Value → World → Prop} {w : World} (h : ∀ K : Value → World → Prop, (∀ v w', R v w' → K v w') → math_bits_Mul p0 p1 K w) : Calls Try.prog 122 #[p0, p1] w (retK R) :=
  calls_of_def [p0, p1] [] mixed Try.func122 (by kernel_rfl) (by kernel_rfl) (by kernel_rfl) (X := math_bits_Mul p0 p1 R w) (by kernel_rfl) (h R fun _ _ h => h)
theorem math_bits_Mul_b : Bodied Try.prog 122 := ⟨_, Try.func122, by kernel_rfl, by kernel_rfl⟩

/- math/bits.Mul32 -/
def math_bits_Mul32 (p0 p1 : Value) (K : Value → World → Prop) (w : World) : Prop :=
  OpX Try.prog (Op.convert 152 155 (Operand.const p0)) 155 (fun t8 w =>
  OpX Try.prog (Op.convert 152 155 (Operand.const p1)) 155 (fun t10 w =>
  BinX Try.prog BinOp.mul 155 t8 t10 (fun t11 w =>
  BinX Try.prog BinOp.shr 155 t11 (Value.int IntKind.u64 32) (fun t13 w =>
  OpX Try.prog (Op.convert 155 152 (Operand.const t13)) 152 (fun t14 w =>
  OpX Try.prog (Op.convert 155 152 (Operand.const t11)) 152 (fun t16 w =>
  K (Value.tuple #[t14, t16]) w) w) w) w) w) w) w
theorem math_bits_Mul32_link (p0 p1 : Value) {R : Value → World → Prop} {w : World} (h : ∀ K : Value → World → Prop, (∀ v w', R v w' → K v w') → math_bits_Mul32 p0 p1 K w) : Calls Try.prog 131 #[p0, p1] w (retK R) :=
  calls_of_def [p0, p1] [] mixed Try.func131 (by kernel_rfl) (by kernel_rfl) (by kernel_rfl) (X := math_bits_Mul32 p0 p1 R w) (by kernel_rfl) (h R fun _ _ h => h)
theorem math_bits_Mul32_b : Bodied Try.prog 131 := ⟨_, Try.func131, by kernel_rfl, by kernel_rfl⟩

/- math/bits.Mul64 -/
def math_bits_Mul64 (p0 p1 : Value) (K : Value → World → Prop) (w : World) : Prop :=
  BinX Try.prog BinOp.and 155 p0 (Value.int IntKind.u64 4294967295) (fun t15 w =>
  BinX Try.prog BinOp.shr 155 p0 (Value.int IntKind.u64 32) (fun t17 w =>
  BinX Try.prog BinOp.and 155 p1 (Value.int IntKind.u64 4294967295) (fun t19 w =>
  BinX Try.prog BinOp.shr 155 p1 (Value.int IntKind.u64 32) (fun t21 w =>
  BinX Try.prog BinOp.mul 155 t15 t19 (fun t24 w =>
  BinX Try.prog BinOp.mul 155 t17 t19 (fun t27 w =>
  BinX Try.prog BinOp.shr 155 t24 (Value.int IntKind.u64 32) (fun t29 w =>
  BinX Try.prog BinOp.add 155 t27 t29 (fun t30 w =>
  BinX Try.prog BinOp.and 155 t30 (Value.int IntKind.u64 4294967295) (fun t32 w =>
  BinX Try.prog BinOp.shr 155 t30 (Value.int IntKind.u64 32) (fun t34 w =>
  BinX Try.prog BinOp.mul 155 t15 t21 (fun t38 w =>
  BinX Try.prog BinOp.add 155 t32 t38 (fun t39 w =>
  BinX Try.prog BinOp.mul 155 t17 t21 (fun t42 w =>
  BinX Try.prog BinOp.add 155 t42 t34 (fun t44 w =>
  BinX Try.prog BinOp.shr 155 t39 (Value.int IntKind.u64 32) (fun t46 w =>
  BinX Try.prog BinOp.add 155 t44 t46 (fun t47 w =>
  BinX Try.prog BinOp.mul 155 p0 p1 (fun t50 w =>
  K (Value.tuple #[t47, t50]) w) w) w) w) w) w) w) w) w) w) w) w) w) w) w) w) w) w
theorem math_bits_Mul64_link (p0 p1 : Value) {R : Value → World → Prop} {w : World} (h : ∀ K : Value → World → Prop, (∀ v w', R v w' → K v w') → math_bits_Mul64 p0 p1 K w) : Calls Try.prog 132 #[p0, p1] w (retK R) :=
  calls_of_def [p0, p1] [] mixed Try.func132 (by kernel_rfl) (by kernel_rfl) (by kernel_rfl) (X := math_bits_Mul64 p0 p1 R w) (by kernel_rfl) (h R fun _ _ h => h)
theorem math_bits_Mul64_b : Bodied Try.prog 132 := ⟨_, Try.func132, by kernel_rfl, by kernel_rfl⟩

end Go.Proofs.Ytdjdeahmhenchaa
