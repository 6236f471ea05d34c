/- Written by a program (gen.py): functions of the translation as transformers, with the link to Calls. -/
import Derived.Test.YtdjdeahmhenchaaLycDef
import Derived.Test.YtdjdeahmhenchaaLycTy
import Derived.Test.YtdjdeahmhenchaaW0
set_option linter.unusedSimpArgs false
set_option linter.unusedVariables false
namespace Go.Proofs.Ytdjdeahmhenchaa
open Lyc Go
set_option maxRecDepth 100000

/- slices.Clone[[]lyceum/api.Cell,lyceum/api.Cell] -/
def slices_Clone_api_Cell_api_Cell (p0 : Value) (K : Value → World → Prop) : World → Prop :=
  xO .eql 45 p0 (.slice none 0 0) fun t4 =>
  xW t4
  (K (.slice none 0 0)) <|
  OpX Try.prog (.buildSlice 45 0 #[]) 45 fun t5 =>
  OpX Try.prog (.call { callee := .builtin .append, args := #[.const t5, .const p0], argTypes := #[45, 45] }) 45 fun t7 =>
  K t7
theorem slices_Clone_api_Cell_api_Cell_link (p0 : Value) : Lk 104 #[p0] (slices_Clone_api_Cell_api_Cell p0) := lk [p0] [] Try.func104 (by kernel_rfl) fun _ _ => by kernel_rfl
theorem slices_Clone_api_Cell_api_Cell_b : Bodied Try.prog 104 := bd Try.func104 (by kernel_rfl)

/- slices.Equal[[]lyceum/api.Cell,lyceum/api.Cell] -/
def slices_Equal_api_Cell_api_Cell (p0 p1 : Value) (K : Value → World → Prop) : World → Prop :=
  xU p0 45 fun t7 =>
  xU p1 45 fun t9 =>
  xO .neq 3 t7 t9 fun t10 =>
  xW t10
  (K (.bool false)) <|
  xU p0 45 fun t12 =>
  Loop1 (.int .i64 0) fun t13 next1 =>
  xO .lss 3 t13 t12 fun t14 =>
  xW t14
  (DrewW <|
  xP (.indexAddr 45 (.const p0) (.const t13)) 0 fun t18 =>
  qL 44 t18 fun t19 =>
  xP (.indexAddr 45 (.const p1) (.const t13)) 0 fun t22 =>
  qL 44 t22 fun t23 =>
  qR .neq 44 t19 t23 fun t24 =>
  xW t24
  (K (.bool false)) <|
  xO .add 3 t13 (.int .i64 1) fun t25 =>
  next1 t25) <|
  K (.bool true)
theorem slices_Equal_api_Cell_api_Cell_link (p0 p1 : Value) : Lk 93 #[p0, p1] (slices_Equal_api_Cell_api_Cell p0 p1) := lk [p0, p1] [(14, [13])] Try.func93 (by kernel_rfl) fun _ _ => by kernel_rfl
theorem slices_Equal_api_Cell_api_Cell_b : Bodied Try.prog 93 := bd Try.func93 (by kernel_rfl)

/- slices.Repeat[[]lyceum/api.Cell,lyceum/api.Cell] -/
def slices_Repeat_api_Cell_api_Cell (p0 p1 : Value) (K : Value → World → Prop) : World → Prop :=
  Join0 (fun k1 =>
  xO .lss 3 p1 (.int .i64 0) fun t10 =>
  xW t10
  (OpX Try.prog (.makeInterface 9 (.const (.string { data := #[99, 97, 110, 110, 111, 116, 32, 98, 101, 32, 110, 101, 103, 97, 116, 105, 118, 101] }))) 20 fun t11 =>
  OpX Try.prog (.panic (.const t11)) 0 fun _ =>
  k1) <|
  k1) <|
  xU p0 45 fun t14 =>
  OpX Try.prog (.convert 3 119 (.const t14)) 119 fun t15 =>
  OpX Try.prog (.convert 3 119 (.const p1)) 119 fun t17 =>
  xC 122 [.const t15, .const t17] [119, 119] 144 fun t18 =>
  xE t18 0 119 fun t19 =>
  xE t18 1 119 fun t20 =>
  Join0 (fun k2 =>
  Join1 (fun k3 =>
  xO .gtr 119 t19 (.int .u64 0) fun t22 =>
  xW t22
  (k3 (.bool true)) <|
  xO .gtr 119 t20 (.int .u64 9223372036854775807) fun t25 =>
  k3 t25) fun t26 =>
  xW t26
  (OpX Try.prog (.makeInterface 9 (.const (.string { data := #[116, 104, 101, 32, 114, 101, 115, 117, 108, 116, 32, 111, 102, 32, 40, 108, 101, 110, 40, 120, 41, 32, 42, 32, 99, 111, 117, 110, 116, 41, 32, 111, 118, 101, 114, 102, 108, 111, 119, 115] }))) 20 fun t27 =>
  OpX Try.prog (.panic (.const t27)) 0 fun _ =>
  k2) <|
  k2) <|
  OpX Try.prog (.convert 119 3 (.const t20)) 3 fun t29 =>
  OpX Try.prog (.makeSlice 45 (.const t29) (.const t29)) 45 fun t30 =>
  OpX Try.prog (.call { callee := .builtin .copy, args := #[.const t30, .const p0], argTypes := #[45, 45] }) 3 fun t33 =>
  Loop1 t33 fun t8 next4 =>
  xU t30 45 fun t36 =>
  xO .lss 3 t8 t36 fun t37 =>
  xW t37
  (DrewW <|
  xP (.slice 45 (.const t30) (some (.const t8)) none none) 45 fun t41 =>
  xP (.slice 45 (.const t30) none (some (.const t8)) none) 45 fun t44 =>
  OpX Try.prog (.call { callee := .builtin .copy, args := #[.const t41, .const t44], argTypes := #[45, 45] }) 3 fun t45 =>
  qP .add 3 t8 t45 fun t46 =>
  next4 t46) <|
  K t30
theorem slices_Repeat_api_Cell_api_Cell_link (p0 p1 : Value) : Lk 109 #[p0, p1] (slices_Repeat_api_Cell_api_Cell p0 p1) := lk [p0, p1] [(2, []), (10, []), (12, [26]), (22, [8])] Try.func109 (by kernel_rfl) fun _ _ => by kernel_rfl
theorem slices_Repeat_api_Cell_api_Cell_b : Bodied Try.prog 109 := bd Try.func109 (by kernel_rfl)

/- math/bits.Mul -/
def math_bits_Mul (p0 p1 : Value) (K : Value → World → Prop) : World → Prop :=
  xC 132 [.const p0, .const p1] [155, 155] 156 fun t25 =>
  xE t25 0 155 fun t26 =>
  xE t25 1 155 fun t27 =>
  K (.tuple #[t26, t27])
theorem math_bits_Mul_link (p0 p1 : Value) : Lk 122 #[p0, p1] (math_bits_Mul p0 p1) := lk [p0, p1] [] Try.func122 (by kernel_rfl) fun _ _ => by kernel_rfl
theorem math_bits_Mul_b : Bodied Try.prog 122 := bd Try.func122 (by kernel_rfl)

/- math/bits.Mul32 -/
def math_bits_Mul32 (p0 p1 : Value) (K : Value → World → Prop) : World → Prop :=
  OpX Try.prog (.convert 152 155 (.const p0)) 155 fun t8 =>
  OpX Try.prog (.convert 152 155 (.const p1)) 155 fun t10 =>
  xO .mul 155 t8 t10 fun t11 =>
  xO .shr 155 t11 (.int .u64 32) fun t13 =>
  OpX Try.prog (.convert 155 152 (.const t13)) 152 fun t14 =>
  OpX Try.prog (.convert 155 152 (.const t11)) 152 fun t16 =>
  K (.tuple #[t14, t16])
theorem math_bits_Mul32_link (p0 p1 : Value) : Lk 131 #[p0, p1] (math_bits_Mul32 p0 p1) := lk [p0, p1] [] Try.func131 (by kernel_rfl) fun _ _ => by kernel_rfl
theorem math_bits_Mul32_b : Bodied Try.prog 131 := bd Try.func131 (by kernel_rfl)

/- math/bits.Mul64 -/
def math_bits_Mul64 (p0 p1 : Value) (K : Value → World → Prop) : World → Prop :=
  xO .and 155 p0 (.int .u64 4294967295) fun t15 =>
  xO .shr 155 p0 (.int .u64 32) fun t17 =>
  xO .and 155 p1 (.int .u64 4294967295) fun t19 =>
  xO .shr 155 p1 (.int .u64 32) fun t21 =>
  xO .mul 155 t15 t19 fun t24 =>
  xO .mul 155 t17 t19 fun t27 =>
  xO .shr 155 t24 (.int .u64 32) fun t29 =>
  xO .add 155 t27 t29 fun t30 =>
  xO .and 155 t30 (.int .u64 4294967295) fun t32 =>
  xO .shr 155 t30 (.int .u64 32) fun t34 =>
  xO .mul 155 t15 t21 fun t38 =>
  xO .add 155 t32 t38 fun t39 =>
  xO .mul 155 t17 t21 fun t42 =>
  xO .add 155 t42 t34 fun t44 =>
  xO .shr 155 t39 (.int .u64 32) fun t46 =>
  xO .add 155 t44 t46 fun t47 =>
  xO .mul 155 p0 p1 fun t50 =>
  K (.tuple #[t47, t50])
theorem math_bits_Mul64_link (p0 p1 : Value) : Lk 132 #[p0, p1] (math_bits_Mul64 p0 p1) := lk [p0, p1] [] Try.func132 (by kernel_rfl) fun _ _ => by kernel_rfl
theorem math_bits_Mul64_b : Bodied Try.prog 132 := bd Try.func132 (by kernel_rfl)

end Go.Proofs.Ytdjdeahmhenchaa
