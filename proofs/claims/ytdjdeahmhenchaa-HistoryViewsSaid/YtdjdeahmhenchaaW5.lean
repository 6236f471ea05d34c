/- Written by a program (gen.py): functions of the translation as transformers, with the link to Calls. -/
import Derived.Test.YtdjdeahmhenchaaLycDef
import Derived.Test.YtdjdeahmhenchaaLycTy
import Derived.Test.YtdjdeahmhenchaaW0
set_option linter.unusedSimpArgs false
set_option linter.unusedVariables false
namespace Go.Proofs.Ytdjdeahmhenchaa
open Lyc Go
set_option maxRecDepth 100000

/- lyceum/cell.Text -/
def cell_Text (p0 : Value) (K : Value → World → Prop) : World → Prop :=
  xU p0 45 fun t7 =>
  Loop2 (.slice none 0 0) (.int .i64 0) fun t3 t8 next1 =>
  xO .lss 3 t8 t7 fun t9 =>
  xW t9
  (xI 45 p0 t8 fun t10 =>
  xL 44 t10 fun t11 =>
  xA 44 fun t5 =>
  xS 44 t5 t11 <|
  xL 44 t5 fun t13 =>
  xC 98 [.const t13] [44] 4 fun t14 =>
  xN 4 t14 fun t15 =>
  xW t15
  (OpX Try.prog (.buildSlice 129 1 #[(0, .const (.int .i32 63))]) 129 fun t17 =>
  OpX Try.prog (.call { callee := .builtin .append, args := #[.const t3, .const t17], argTypes := #[129, 129] }) 129 fun t18 =>
  xO .add 3 t8 (.int .i64 1) fun t29 =>
  next1 t18 t29) <|
  xF 44 t5 3 fun t20 =>
  xL 5 t20 fun t21 =>
  xO .and 5 t21 (.int .u8 128) fun t22 =>
  xO .eql 5 t22 (.int .u8 0) fun t23 =>
  xW t23
  (xF 44 t5 0 fun t25 =>
  xL 21 t25 fun t26 =>
  OpX Try.prog (.buildSlice 129 1 #[(0, .const t26)]) 129 fun t27 =>
  OpX Try.prog (.call { callee := .builtin .append, args := #[.const t3, .const t27], argTypes := #[129, 129] }) 129 fun t28 =>
  xO .add 3 t8 (.int .i64 1) fun t29_1 =>
  next1 t28 t29_1) <|
  xO .add 3 t8 (.int .i64 1) fun t29_2 =>
  next1 t3 t29_2) <|
  Loop1 t3 fun t3_1 next2 =>
  Join1 (fun k3 =>
  xU t3_1 129 fun t31 =>
  xO .gtr 3 t31 (.int .i64 0) fun t32 =>
  xW t32
  (xU t3_1 129 fun t36 =>
  xO .sub 3 t36 (.int .i64 1) fun t37 =>
  xI 129 t3_1 t37 fun t38 =>
  xL 21 t38 fun t39 =>
  xO .eql 21 t39 (.int .i32 32) fun t40 =>
  k3 t40) <|
  k3 (.bool false)) fun t41 =>
  xW t41
  (xU t3_1 129 fun t44 =>
  xO .sub 3 t44 (.int .i64 1) fun t45 =>
  OpX Try.prog (.slice 129 (.const t3_1) none (some (.const t45)) none) 129 fun t46 =>
  next2 t46) <|
  xC 99 [.const t3_1] [129] 9 fun t48 =>
  K t48
theorem cell_Text_link (p0 : Value) : Lk 63 #[p0] (cell_Text p0) := lk [p0] [(8, [3, 8]), (32, [3]), (35, [41])] Try.func63 (by kernel_rfl) fun _ _ => by kernel_rfl
theorem cell_Text_b : Bodied Try.prog 63 := bd Try.func63 (by kernel_rfl)

/- lyceum/cell.Mend -/
def cell_Mend (p0 : Value) (K : Value → World → Prop) : World → Prop :=
  xU p0 45 fun t6 =>
  OpX Try.prog (.makeSlice 45 (.const t6) (.const t6)) 45 fun t7 =>
  OpX Try.prog (.call { callee := .builtin .copy, args := #[.const t7, .const p0], argTypes := #[45, 45] }) 3 fun _ =>
  Loop1 (.int .i64 0) fun t4 next1 =>
  xU p0 45 fun t13 =>
  xO .lss 3 t4 t13 fun t14 =>
  xW t14
  (xC 100 [.const p0, .const t4] [45, 3] 4 fun t20 =>
  xW t20
  (xO .add 3 t4 (.int .i64 1) fun t22 =>
  xO .add 3 t22 (.int .i64 1) fun t16 =>
  next1 t16) <|
  xI 45 p0 t4 fun t26 =>
  xL 44 t26 fun t27 =>
  xC 101 [.const t27] [44] 4 fun t28 =>
  xN 4 t28 fun t29 =>
  xW t29
  (DrewW <|
  xP (.indexAddr 45 (.const p0) (.const t4)) 0 fun t34 =>
  qF 44 t34 1 fun t35 =>
  qL 5 t35 fun t36 =>
  xP (.indexAddr 45 (.const p0) (.const t4)) 0 fun t39 =>
  qF 44 t39 2 fun t40 =>
  qL 5 t40 fun t41 =>
  OpX Try.prog (.build 44 #[(0, .const (.int .i32 32)), (1, .const t36), (2, .const t41)]) 44 fun t42 =>
  xP (.indexAddr 45 (.const t7) (.const t4)) 0 fun t43 =>
  xS 44 t43 t42 <|
  xO .add 3 t4 (.int .i64 1) fun t16_1 =>
  next1 t16_1) <|
  xO .add 3 t4 (.int .i64 1) fun t16_2 =>
  next1 t16_2) <|
  K t7
theorem cell_Mend_link (p0 : Value) : Lk 65 #[p0] (cell_Mend p0) := lk [p0] [(10, [4])] Try.func65 (by kernel_rfl) fun _ _ => by kernel_rfl
theorem cell_Mend_b : Bodied Try.prog 65 := bd Try.func65 (by kernel_rfl)

/- lyceum/cell.Right -/
def cell_Right (p0 : Value) (K : Value → World → Prop) : World → Prop :=
  Loop1 (.int .i64 0) fun t3 next1 =>
  xU p0 45 fun t6 =>
  xO .lss 3 t3 t6 fun t7 =>
  xW t7
  (xC 100 [.const p0, .const t3] [45, 3] 4 fun t13 =>
  xW t13
  (xO .add 3 t3 (.int .i64 1) fun t15 =>
  xO .add 3 t15 (.int .i64 1) fun t9 =>
  next1 t9) <|
  xI 45 p0 t3 fun t19 =>
  xL 44 t19 fun t20 =>
  xC 101 [.const t20] [44] 4 fun t21 =>
  xN 4 t21 fun t22 =>
  xW t22
  (K (.bool false)) <|
  xO .add 3 t3 (.int .i64 1) fun t9_1 =>
  next1 t9_1) <|
  K (.bool true)
theorem cell_Right_link (p0 : Value) : Lk 95 #[p0] (cell_Right p0) := lk [p0] [(6, [3])] Try.func95 (by kernel_rfl) fun _ _ => by kernel_rfl
theorem cell_Right_b : Bodied Try.prog 95 := bd Try.func95 (by kernel_rfl)

/- lyceum/cell.Check -/
def cell_Check (p0 : Value) (K : Value → World → Prop) : World → Prop :=
  xB 44 p0 fun t1 =>
  DrewW <|
  qF 44 t1 3 fun t5 =>
  qL 5 t5 fun t6 =>
  qP .and 5 t6 (.int .u8 64) fun t7 =>
  qR .neq 5 t7 (.int .u8 0) fun t8 =>
  qF 44 t1 3 fun t9 =>
  qL 5 t9 fun t10 =>
  qP .and 5 t10 (.int .u8 128) fun t11 =>
  qR .neq 5 t11 (.int .u8 0) fun t12 =>
  xW t12
  (Join1 (fun k1 =>
  xN 4 t8 fun t16 =>
  xW t16
  (xF 44 t1 0 fun t18 =>
  xL 21 t18 fun t19 =>
  xO .eql 21 t19 (.int .i32 0) fun t20 =>
  k1 t20) <|
  k1 (.bool false)) fun t2 =>
  K t2) <|
  xW t8
  (xF 44 t1 0 fun t24 =>
  xL 21 t24 fun t25 =>
  xC 114 [.const t25] [21] 3 fun t26 =>
  xO .eql 3 t26 (.int .i64 2) fun t27 =>
  K t27) <|
  xF 44 t1 0 fun t28 =>
  xL 21 t28 fun t29 =>
  xC 114 [.const t29] [21] 3 fun t30 =>
  xO .eql 3 t30 (.int .i64 1) fun t31 =>
  K t31
theorem cell_Check_link (p0 : Value) : Lk 98 #[p0] (cell_Check p0) := lk [p0] [(10, [2])] Try.func98 (by kernel_rfl) fun _ _ => by kernel_rfl
theorem cell_Check_b : Bodied Try.prog 98 := bd Try.func98 (by kernel_rfl)

/- lyceum/cell.paired -/
def cell_paired (p0 p1 : Value) (K : Value → World → Prop) : World → Prop :=
  xI 45 p0 p1 fun t8 =>
  xL 44 t8 fun t9 =>
  xA 44 fun t5 =>
  xS 44 t5 t9 <|
  DrewW <|
  Join1 (fun k1 =>
  qF 44 t5 3 fun t10 =>
  qL 5 t10 fun t11 =>
  qP .and 5 t11 (.int .u8 64) fun t12 =>
  qR .neq 5 t12 (.int .u8 0) fun t13 =>
  xW t13
  (qL 44 t5 fun t15 =>
  xC 98 [.const t15] [44] 4 fun t16 =>
  xW t16
  (qP .add 3 p1 (.int .i64 1) fun t20 =>
  xR (.call { callee := .builtin .len, args := #[.const p0], argTypes := #[45] }) 3 fun t22 =>
  qP .lss 3 t20 t22 fun t23 =>
  xW t23
  (qP .add 3 p1 (.int .i64 1) fun t28 =>
  xP (.indexAddr 45 (.const p0) (.const t28)) 0 fun t29 =>
  qL 44 t29 fun t30 =>
  qL 44 t5 fun t31 =>
  xC 117 [.const t31] [44] 44 fun t32 =>
  xT (qZ 44 t29 t30) <|
  qR .eql 44 t30 t32 fun t33 =>
  k1 t33) <|
  k1 (.bool false)) <|
  k1 (.bool false)) <|
  k1 (.bool false)) fun t4 =>
  K t4
theorem cell_paired_link (p0 p1 : Value) : Lk 100 #[p0, p1] (cell_paired p0 p1) := lk [p0, p1] [(5, [4])] Try.func100 (by kernel_rfl) fun _ _ => by kernel_rfl
theorem cell_paired_b : Bodied Try.prog 100 := bd Try.func100 (by kernel_rfl)

/- lyceum/cell.single -/
def cell_single (p0 : Value) (K : Value → World → Prop) : World → Prop :=
  xB 44 p0 fun t1 =>
  Join1 (fun k1 =>
  xF 44 t1 3 fun t3 =>
  xL 5 t3 fun t4 =>
  xO .and 5 t4 (.int .u8 192) fun t5 =>
  xO .eql 5 t5 (.int .u8 0) fun t6 =>
  xW t6
  (xL 44 t1 fun t8 =>
  xC 98 [.const t8] [44] 4 fun t9 =>
  k1 t9) <|
  k1 (.bool false)) fun t2 =>
  K t2
theorem cell_single_link (p0 : Value) : Lk 101 #[p0] (cell_single p0) := lk [p0] [(3, [2])] Try.func101 (by kernel_rfl) fun _ _ => by kernel_rfl
theorem cell_single_b : Bodied Try.prog 101 := bd Try.func101 (by kernel_rfl)

/- lyceum/cell.Blank -/
def cell_Blank (K : Value → World → Prop) : World → Prop :=
  xA 44 fun t0 =>
  OpX Try.prog (.build 44 #[(0, .const (.int .i32 32))]) 44 fun t1 =>
  xS 44 t0 t1 <|
  xD 44 t0 fun t0_1 =>
  K t0_1
theorem cell_Blank_link : Lk 105 #[] (cell_Blank) := lk [] [] Try.func105 (by kernel_rfl) fun _ _ => by kernel_rfl
theorem cell_Blank_b : Bodied Try.prog 105 := bd Try.func105 (by kernel_rfl)

/- lyceum/cell.tailOf -/
def cell_tailOf (p0 : Value) (K : Value → World → Prop) : World → Prop :=
  xB 44 p0 fun t1 =>
  xA 44 fun t2 =>
  xF 44 t1 1 fun t3 =>
  xL 5 t3 fun t4 =>
  xF 44 t1 2 fun t5 =>
  xL 5 t5 fun t6 =>
  xF 44 t1 3 fun t7 =>
  xL 5 t7 fun t8 =>
  xO .andNot 5 t8 (.int .u8 64) fun t9 =>
  xO .or 5 t9 (.int .u8 128) fun t10 =>
  OpX Try.prog (.build 44 #[(1, .const t4), (2, .const t6), (3, .const t10)]) 44 fun t11 =>
  xS 44 t2 t11 <|
  xD 44 t2 fun t2_1 =>
  K t2_1
theorem cell_tailOf_link (p0 : Value) : Lk 117 #[p0] (cell_tailOf p0) := lk [p0] [] Try.func117 (by kernel_rfl) fun _ _ => by kernel_rfl
theorem cell_tailOf_b : Bodied Try.prog 117 := bd Try.func117 (by kernel_rfl)

/- lyceum/runes.Encode -/
def runes_Encode (p0 : Value) (K : Value → World → Prop) : World → Prop :=
  xU p0 129 fun t7 =>
  Loop2 (.slice none 0 0) (.int .i64 0) fun t3 t8 next1 =>
  xO .lss 3 t8 t7 fun t9 =>
  xW t9
  (xI 129 p0 t8 fun t10 =>
  xL 21 t10 fun t11 =>
  Join1 (fun k2 =>
  xC 115 [.const t11] [21] 4 fun t13 =>
  xN 4 t13 fun t14 =>
  xW t14
  (k2 (.int .i32 65533)) <|
  k2 t11) fun t5 =>
  xC 116 [.const t3, .const t5] [140, 21] 140 fun t17 =>
  xO .add 3 t8 (.int .i64 1) fun t18 =>
  next1 t17 t18) <|
  OpX Try.prog (.convert 140 9 (.const t3)) 9 fun t20 =>
  K t20
theorem runes_Encode_link (p0 : Value) : Lk 99 #[p0] (runes_Encode p0) := lk [p0] [(8, [3, 8]), (19, [5])] Try.func99 (by kernel_rfl) fun _ _ => by kernel_rfl
theorem runes_Encode_b : Bodied Try.prog 99 := bd Try.func99 (by kernel_rfl)

/- lyceum/runes.Width -/
def runes_Width (p0 : Value) (K : Value → World → Prop) : World → Prop :=
  OpX Try.prog (.build 150 #[(0, .const (.int .i32 127)), (1, .const (.int .i32 159)), (2, .const (.int .i64 0))]) 150 fun t6 =>
  OpX Try.prog (.build 150 #[(0, .const (.int .i32 768)), (1, .const (.int .i32 879)), (2, .const (.int .i64 0))]) 150 fun t7 =>
  OpX Try.prog (.build 150 #[(0, .const (.int .i32 8203)), (1, .const (.int .i32 8207)), (2, .const (.int .i64 0))]) 150 fun t8 =>
  OpX Try.prog (.build 150 #[(0, .const (.int .i32 55296)), (1, .const (.int .i32 57343)), (2, .const (.int .i64 0))]) 150 fun t9 =>
  OpX Try.prog (.build 150 #[(0, .const (.int .i32 65024)), (1, .const (.int .i32 65039)), (2, .const (.int .i64 0))]) 150 fun t10 =>
  OpX Try.prog (.build 150 #[(0, .const (.int .i32 4352)), (1, .const (.int .i32 4447)), (2, .const (.int .i64 2))]) 150 fun t11 =>
  OpX Try.prog (.build 150 #[(0, .const (.int .i32 11904)), (1, .const (.int .i32 12350)), (2, .const (.int .i64 2))]) 150 fun t12 =>
  OpX Try.prog (.build 150 #[(0, .const (.int .i32 12353)), (1, .const (.int .i32 42191)), (2, .const (.int .i64 2))]) 150 fun t13 =>
  OpX Try.prog (.build 150 #[(0, .const (.int .i32 44032)), (1, .const (.int .i32 55203)), (2, .const (.int .i64 2))]) 150 fun t14 =>
  OpX Try.prog (.build 150 #[(0, .const (.int .i32 63744)), (1, .const (.int .i32 64255)), (2, .const (.int .i64 2))]) 150 fun t15 =>
  OpX Try.prog (.build 150 #[(0, .const (.int .i32 65072)), (1, .const (.int .i32 65135)), (2, .const (.int .i64 2))]) 150 fun t16 =>
  OpX Try.prog (.build 150 #[(0, .const (.int .i32 65281)), (1, .const (.int .i32 65376)), (2, .const (.int .i64 2))]) 150 fun t17 =>
  OpX Try.prog (.build 150 #[(0, .const (.int .i32 65504)), (1, .const (.int .i32 65510)), (2, .const (.int .i64 2))]) 150 fun t18 =>
  OpX Try.prog (.build 150 #[(0, .const (.int .i32 127744)), (1, .const (.int .i32 128591)), (2, .const (.int .i64 2))]) 150 fun t19 =>
  OpX Try.prog (.build 150 #[(0, .const (.int .i32 129280)), (1, .const (.int .i32 129535)), (2, .const (.int .i64 2))]) 150 fun t20 =>
  OpX Try.prog (.build 150 #[(0, .const (.int .i32 131072)), (1, .const (.int .i32 262141)), (2, .const (.int .i64 2))]) 150 fun t21 =>
  OpX Try.prog (.build 151 #[(0, .const t6), (1, .const t7), (2, .const t8), (3, .const t9), (4, .const t10), (5, .const t11), (6, .const t12), (7, .const t13), (8, .const t14), (9, .const t15), (10, .const t16), (11, .const t17), (12, .const t18), (13, .const t19), (14, .const t20), (15, .const t21)]) 151 fun t22 =>
  xA 151 fun t3 =>
  xS 151 t3 t22 <|
  Join1 (fun k1 =>
  xO .lss 21 p0 (.int .i32 32) fun t25 =>
  xW t25
  (k1 (.bool true)) <|
  xO .gtr 21 p0 (.int .i32 1114111) fun t28 =>
  k1 t28) fun t23 =>
  xW t23
  (K (.int .i64 0)) <|
  xO .lss 21 p0 (.int .i32 127) fun t32 =>
  xW t32
  (K (.int .i64 1)) <|
  xL 151 t3 fun t33 =>
  Loop1 (.int .i64 0) fun t34 next2 =>
  xO .lss 3 t34 (.int .i64 16) fun t35 =>
  xW t35
  (OpX Try.prog (.index 151 (.const t33) (.const t34)) 150 fun t36 =>
  xA 150 fun t5 =>
  xS 150 t5 t36 <|
  Join1 (fun k3 =>
  xF 150 t5 0 fun t38 =>
  xL 21 t38 fun t39 =>
  xO .geq 21 p0 t39 fun t40 =>
  xW t40
  (xF 150 t5 1 fun t43 =>
  xL 21 t43 fun t44 =>
  xO .leq 21 p0 t44 fun t45 =>
  k3 t45) <|
  k3 (.bool false)) fun t46 =>
  xW t46
  (xF 150 t5 2 fun t47 =>
  xL 3 t47 fun t48 =>
  K t48) <|
  xO .add 3 t34 (.int .i64 1) fun t49 =>
  next2 t49) <|
  K (.int .i64 1)
theorem runes_Width_link (p0 : Value) : Lk 114 #[p0] (runes_Width p0) := lk [p0] [(7, [23]), (23, [34]), (35, [46])] Try.func114 (by kernel_rfl) fun _ _ => by kernel_rfl
theorem runes_Width_b : Bodied Try.prog 114 := bd Try.func114 (by kernel_rfl)

/- unicode/utf8.ValidRune -/
def unicode_utf8_ValidRune (p0 : Value) (K : Value → World → Prop) : World → Prop :=
  Join1 (fun k1 =>
  xO .leq 21 (.int .i32 0) p0 fun t5 =>
  xW t5
  (xO .lss 21 p0 (.int .i32 55296) fun t8 =>
  k1 t8) <|
  k1 (.bool false)) fun t3 =>
  xW t3
  (K (.bool true)) <|
  Join1 (fun k2 =>
  xO .lss 21 (.int .i32 57343) p0 fun t12 =>
  xW t12
  (xO .leq 21 p0 (.int .i32 1114111) fun t15 =>
  k2 t15) <|
  k2 (.bool false)) fun t10 =>
  xW t10
  (K (.bool true)) <|
  K (.bool false)
theorem unicode_utf8_ValidRune_link (p0 : Value) : Lk 115 #[p0] (unicode_utf8_ValidRune p0) := lk [p0] [(5, [3]), (11, [10])] Try.func115 (by kernel_rfl) fun _ _ => by kernel_rfl
theorem unicode_utf8_ValidRune_b : Bodied Try.prog 115 := bd Try.func115 (by kernel_rfl)

/- unicode/utf8.AppendRune -/
def unicode_utf8_AppendRune (p0 p1 : Value) (K : Value → World → Prop) : World → Prop :=
  OpX Try.prog (.convert 21 152 (.const p1)) 152 fun t6 =>
  xO .leq 152 t6 (.int .u32 127) fun t7 =>
  xW t7
  (OpX Try.prog (.convert 21 5 (.const p1)) 5 fun t10 =>
  OpX Try.prog (.buildSlice 140 1 #[(0, .const t10)]) 140 fun t11 =>
  OpX Try.prog (.call { callee := .builtin .append, args := #[.const p0, .const t11], argTypes := #[140, 140] }) 140 fun t12 =>
  K t12) <|
  xC 126 [.const p0, .const p1] [140, 21] 140 fun t15 =>
  K t15
theorem unicode_utf8_AppendRune_link (p0 p1 : Value) : Lk 116 #[p0, p1] (unicode_utf8_AppendRune p0 p1) := lk [p0, p1] [] Try.func116 (by kernel_rfl) fun _ _ => by kernel_rfl
theorem unicode_utf8_AppendRune_b : Bodied Try.prog 116 := bd Try.func116 (by kernel_rfl)

/- unicode/utf8.appendRuneNonASCII -/
def unicode_utf8_appendRuneNonASCII (p0 p1 : Value) (K : Value → World → Prop) : World → Prop :=
  OpX Try.prog (.convert 21 152 (.const p1)) 152 fun t7 =>
  xO .leq 152 t7 (.int .u32 2047) fun t13 =>
  xW t13
  (xO .shr 21 p1 (.int .u64 6) fun t16 =>
  OpX Try.prog (.convert 21 5 (.const t16)) 5 fun t17 =>
  xO .or 5 (.int .u8 192) t17 fun t18 =>
  OpX Try.prog (.convert 21 5 (.const p1)) 5 fun t20 =>
  xO .and 5 t20 (.int .u8 63) fun t21 =>
  xO .or 5 (.int .u8 128) t21 fun t22 =>
  OpX Try.prog (.buildSlice 140 2 #[(0, .const t18), (1, .const t22)]) 140 fun t23 =>
  OpX Try.prog (.call { callee := .builtin .append, args := #[.const p0, .const t23], argTypes := #[140, 140] }) 140 fun t24 =>
  K t24) <|
  Join1 (fun k1 =>
  xO .lss 152 t7 (.int .u32 55296) fun t27 =>
  xW t27
  (k1 (.bool true)) <|
  Join1 (fun k2 =>
  xO .lss 152 (.int .u32 57343) t7 fun t29 =>
  xW t29
  (xO .leq 152 t7 (.int .u32 65535) fun t32 =>
  k2 t32) <|
  k2 (.bool false)) fun t25 =>
  k1 t25) fun t25_1 =>
  xW t25_1
  (xO .shr 21 p1 (.int .u64 12) fun t36 =>
  OpX Try.prog (.convert 21 5 (.const t36)) 5 fun t37 =>
  xO .or 5 (.int .u8 224) t37 fun t38 =>
  xO .shr 21 p1 (.int .u64 6) fun t40 =>
  OpX Try.prog (.convert 21 5 (.const t40)) 5 fun t41 =>
  xO .and 5 t41 (.int .u8 63) fun t42 =>
  xO .or 5 (.int .u8 128) t42 fun t43 =>
  OpX Try.prog (.convert 21 5 (.const p1)) 5 fun t45 =>
  xO .and 5 t45 (.int .u8 63) fun t46 =>
  xO .or 5 (.int .u8 128) t46 fun t47 =>
  OpX Try.prog (.buildSlice 140 3 #[(0, .const t38), (1, .const t43), (2, .const t47)]) 140 fun t48 =>
  OpX Try.prog (.call { callee := .builtin .append, args := #[.const p0, .const t48], argTypes := #[140, 140] }) 140 fun t49 =>
  K t49) <|
  Join1 (fun k3 =>
  xO .gtr 152 t7 (.int .u32 65535) fun t52 =>
  xW t52
  (xO .leq 152 t7 (.int .u32 1114111) fun t55 =>
  k3 t55) <|
  k3 (.bool false)) fun t50 =>
  xW t50
  (xO .shr 21 p1 (.int .u64 18) fun t59 =>
  OpX Try.prog (.convert 21 5 (.const t59)) 5 fun t60 =>
  xO .or 5 (.int .u8 240) t60 fun t61 =>
  xO .shr 21 p1 (.int .u64 12) fun t63 =>
  OpX Try.prog (.convert 21 5 (.const t63)) 5 fun t64 =>
  xO .and 5 t64 (.int .u8 63) fun t65 =>
  xO .or 5 (.int .u8 128) t65 fun t66 =>
  xO .shr 21 p1 (.int .u64 6) fun t68 =>
  OpX Try.prog (.convert 21 5 (.const t68)) 5 fun t69 =>
  xO .and 5 t69 (.int .u8 63) fun t70 =>
  xO .or 5 (.int .u8 128) t70 fun t71 =>
  OpX Try.prog (.convert 21 5 (.const p1)) 5 fun t73 =>
  xO .and 5 t73 (.int .u8 63) fun t74 =>
  xO .or 5 (.int .u8 128) t74 fun t75 =>
  OpX Try.prog (.buildSlice 140 4 #[(0, .const t61), (1, .const t66), (2, .const t71), (3, .const t75)]) 140 fun t76 =>
  OpX Try.prog (.call { callee := .builtin .append, args := #[.const p0, .const t76], argTypes := #[140, 140] }) 140 fun t77 =>
  K t77) <|
  OpX Try.prog (.buildSlice 140 3 #[(0, .const (.int .u8 239)), (1, .const (.int .u8 191)), (2, .const (.int .u8 189))]) 140 fun t9 =>
  OpX Try.prog (.call { callee := .builtin .append, args := #[.const p0, .const t9], argTypes := #[140, 140] }) 140 fun t10 =>
  K t10
theorem unicode_utf8_appendRuneNonASCII_link (p0 p1 : Value) : Lk 126 #[p0, p1] (unicode_utf8_appendRuneNonASCII p0 p1) := lk [p0, p1] [(11, [25]), (16, [25]), (22, [50])] Try.func126 (by kernel_rfl) fun _ _ => by kernel_rfl
theorem unicode_utf8_appendRuneNonASCII_b : Bodied Try.prog 126 := bd Try.func126 (by kernel_rfl)

/- lyceum/lyceumref04.Width -/
def lyceumref04_Width (p0 : Value) (K : Value → World → Prop) : World → Prop :=
  Join1 (fun k1 =>
  xC 118 [.const p0] [21] 4 fun t4 =>
  xW t4
  (k1 (.bool true)) <|
  xO .lss 21 p0 (.int .i32 32) fun t7 =>
  xW t7
  (k1 (.bool true)) <|
  xC 119 [.const p0, .const (.int .i64 127), .const (.int .i64 159)] [21, 3, 3] 4 fun t11 =>
  xW t11
  (k1 (.bool true)) <|
  xC 119 [.const p0, .const (.int .i64 768), .const (.int .i64 879)] [21, 3, 3] 4 fun t15 =>
  xW t15
  (k1 (.bool true)) <|
  xC 119 [.const p0, .const (.int .i64 8203), .const (.int .i64 8207)] [21, 3, 3] 4 fun t19 =>
  xW t19
  (k1 (.bool true)) <|
  xC 119 [.const p0, .const (.int .i64 65024), .const (.int .i64 65039)] [21, 3, 3] 4 fun t23 =>
  k1 t23) fun t24 =>
  xW t24
  (K (.int .i64 0)) <|
  Join1 (fun k2 =>
  xC 119 [.const p0, .const (.int .i64 4352), .const (.int .i64 4447)] [21, 3, 3] 4 fun t26 =>
  xW t26
  (k2 (.bool true)) <|
  xC 119 [.const p0, .const (.int .i64 11904), .const (.int .i64 12350)] [21, 3, 3] 4 fun t29 =>
  xW t29
  (k2 (.bool true)) <|
  xC 119 [.const p0, .const (.int .i64 12353), .const (.int .i64 42191)] [21, 3, 3] 4 fun t33 =>
  xW t33
  (k2 (.bool true)) <|
  xC 119 [.const p0, .const (.int .i64 44032), .const (.int .i64 55203)] [21, 3, 3] 4 fun t37 =>
  xW t37
  (k2 (.bool true)) <|
  xC 119 [.const p0, .const (.int .i64 63744), .const (.int .i64 64255)] [21, 3, 3] 4 fun t41 =>
  xW t41
  (k2 (.bool true)) <|
  xC 119 [.const p0, .const (.int .i64 65072), .const (.int .i64 65135)] [21, 3, 3] 4 fun t45 =>
  xW t45
  (k2 (.bool true)) <|
  xC 119 [.const p0, .const (.int .i64 65281), .const (.int .i64 65376)] [21, 3, 3] 4 fun t49 =>
  xW t49
  (k2 (.bool true)) <|
  xC 119 [.const p0, .const (.int .i64 65504), .const (.int .i64 65510)] [21, 3, 3] 4 fun t53 =>
  xW t53
  (k2 (.bool true)) <|
  xC 119 [.const p0, .const (.int .i64 127744), .const (.int .i64 128591)] [21, 3, 3] 4 fun t57 =>
  xW t57
  (k2 (.bool true)) <|
  xC 119 [.const p0, .const (.int .i64 129280), .const (.int .i64 129535)] [21, 3, 3] 4 fun t61 =>
  xW t61
  (k2 (.bool true)) <|
  xC 119 [.const p0, .const (.int .i64 131072), .const (.int .i64 262141)] [21, 3, 3] 4 fun t65 =>
  k2 t65) fun t66 =>
  xW t66
  (K (.int .i64 2)) <|
  K (.int .i64 1)
theorem lyceumref04_Width_link (p0 : Value) : Lk 102 #[p0] (lyceumref04_Width p0) := lk [p0] [(4, [24]), (12, [66])] Try.func102 (by kernel_rfl) fun _ _ => by kernel_rfl
theorem lyceumref04_Width_b : Bodied Try.prog 102 := bd Try.func102 (by kernel_rfl)

/- lyceum/lyceumref04.none -/
def lyceumref04_none (p0 : Value) (K : Value → World → Prop) : World → Prop :=
  Join1 (fun k1 =>
  xO .lss 21 p0 (.int .i32 0) fun t4 =>
  xW t4
  (k1 (.bool true)) <|
  xO .gtr 21 p0 (.int .i32 1114111) fun t7 =>
  xW t7
  (k1 (.bool true)) <|
  xO .geq 21 p0 (.int .i32 55296) fun t11 =>
  xW t11
  (xO .leq 21 p0 (.int .i32 57343) fun t14 =>
  k1 t14) <|
  k1 (.bool false)) fun t2 =>
  K t2
theorem lyceumref04_none_link (p0 : Value) : Lk 118 #[p0] (lyceumref04_none p0) := lk [p0] [(3, [2])] Try.func118 (by kernel_rfl) fun _ _ => by kernel_rfl
theorem lyceumref04_none_b : Bodied Try.prog 118 := bd Try.func118 (by kernel_rfl)

/- lyceum/lyceumref04.within -/
def lyceumref04_within (p0 p1 p2 : Value) (K : Value → World → Prop) : World → Prop :=
  Join1 (fun k1 =>
  OpX Try.prog (.convert 21 3 (.const p0)) 3 fun t8 =>
  xO .geq 3 t8 p1 fun t10 =>
  xW t10
  (OpX Try.prog (.convert 21 3 (.const p0)) 3 fun t13 =>
  xO .leq 3 t13 p2 fun t15 =>
  k1 t15) <|
  k1 (.bool false)) fun t6 =>
  K t6
theorem lyceumref04_within_link (p0 p1 p2 : Value) : Lk 119 #[p0, p1, p2] (lyceumref04_within p0 p1 p2) := lk [p0, p1, p2] [(3, [6])] Try.func119 (by kernel_rfl) fun _ _ => by kernel_rfl
theorem lyceumref04_within_b : Bodied Try.prog 119 := bd Try.func119 (by kernel_rfl)

/- lyceum/lyceumref05.Same -/
def lyceumref05_Same (p0 p1 : Value) (K : Value → World → Prop) : World → Prop :=
  xU p0 45 fun t7 =>
  xU p1 45 fun t9 =>
  xO .neq 3 t7 t9 fun t10 =>
  xW t10
  (K (.bool false)) <|
  Loop1 (.int .i64 0) fun t5 next1 =>
  xU p0 45 fun t13 =>
  xO .lss 3 t5 t13 fun t14 =>
  xW t14
  (DrewW <|
  xP (.indexAddr 45 (.const p0) (.const t5)) 0 fun t19 =>
  qL 44 t19 fun t20 =>
  xP (.indexAddr 45 (.const p1) (.const t5)) 0 fun t23 =>
  qL 44 t23 fun t24 =>
  qR .neq 44 t20 t24 fun t25 =>
  xW t25
  (K (.bool false)) <|
  xO .add 3 t5 (.int .i64 1) fun t16 =>
  next1 t16) <|
  K (.bool true)
theorem lyceumref05_Same_link (p0 p1 : Value) : Lk 35 #[p0, p1] (lyceumref05_Same p0 p1) := lk [p0, p1] [(14, [5])] Try.func35 (by kernel_rfl) fun _ _ => by kernel_rfl
theorem lyceumref05_Same_b : Bodied Try.prog 35 := bd Try.func35 (by kernel_rfl)

/- lyceum/lyceumref05.Make -/
def lyceumref05_Make (p0 p1 : Value) (K : Value → World → Prop) : World → Prop :=
  xB 44 p1 fun t3 =>
  xC 102 [.const p0] [21] 3 fun t8 =>
  xF 44 t3 1 fun t10 =>
  xL 5 t10 fun t11 =>
  xF 44 t3 2 fun t12 =>
  xL 5 t12 fun t13 =>
  xF 44 t3 3 fun t14 =>
  xL 5 t14 fun t15 =>
  xO .rem 5 t15 (.int .u8 64) fun t16 =>
  OpX Try.prog (.build 44 #[(0, .const p0), (1, .const t11), (2, .const t13), (3, .const t16)]) 44 fun t17 =>
  xA 44 fun t6 =>
  xS 44 t6 t17 <|
  xO .eql 3 t8 (.int .i64 1) fun t19 =>
  xW t19
  (xL 44 t6 fun t20 =>
  OpX Try.prog (.buildSlice 45 1 #[(0, .const t20)]) 45 fun t21 =>
  K t21) <|
  xO .eql 3 t8 (.int .i64 2) fun t23 =>
  xW t23
  (xF 44 t6 3 fun t24 =>
  xL 5 t24 fun t25 =>
  xO .add 5 t25 (.int .u8 64) fun t26 =>
  xF 44 t6 3 fun t27 =>
  xS 5 t27 t26 <|
  DrewW <|
  qL 44 t6 fun t28 =>
  qL 44 t6 fun t29 =>
  xC 103 [.const t29] [44] 44 fun t30 =>
  xT (qZ 44 t6 t28) <|
  OpX Try.prog (.buildSlice 45 2 #[(0, .const t28), (1, .const t30)]) 45 fun t31 =>
  K t31) <|
  K (.slice none 0 0)
theorem lyceumref05_Make_link (p0 p1 : Value) : Lk 68 #[p0, p1] (lyceumref05_Make p0 p1) := lk [p0, p1] [] Try.func68 (by kernel_rfl) fun _ _ => by kernel_rfl
theorem lyceumref05_Make_b : Bodied Try.prog 68 := bd Try.func68 (by kernel_rfl)

/- lyceum/lyceumref05.Blank -/
def lyceumref05_Blank (K : Value → World → Prop) : World → Prop :=
  xA 44 fun t0 =>
  OpX Try.prog (.build 44 #[(0, .const (.int .i32 32))]) 44 fun t1 =>
  xS 44 t0 t1 <|
  xD 44 t0 fun t0_1 =>
  K t0_1
theorem lyceumref05_Blank_link : Lk 71 #[] (lyceumref05_Blank) := lk [] [] Try.func71 (by kernel_rfl) fun _ _ => by kernel_rfl
theorem lyceumref05_Blank_b : Bodied Try.prog 71 := bd Try.func71 (by kernel_rfl)

/- lyceum/lyceumref05.Tail -/
def lyceumref05_Tail (p0 : Value) (K : Value → World → Prop) : World → Prop :=
  xB 44 p0 fun t1 =>
  xA 44 fun t2 =>
  xF 44 t1 1 fun t3 =>
  xL 5 t3 fun t4 =>
  xF 44 t1 2 fun t5 =>
  xL 5 t5 fun t6 =>
  xF 44 t1 3 fun t7 =>
  xL 5 t7 fun t8 =>
  xO .rem 5 t8 (.int .u8 64) fun t9 =>
  xO .add 5 t9 (.int .u8 128) fun t10 =>
  OpX Try.prog (.build 44 #[(1, .const t4), (2, .const t6), (3, .const t10)]) 44 fun t11 =>
  xS 44 t2 t11 <|
  xD 44 t2 fun t2_1 =>
  K t2_1
theorem lyceumref05_Tail_link (p0 : Value) : Lk 103 #[p0] (lyceumref05_Tail p0) := lk [p0] [] Try.func103 (by kernel_rfl) fun _ _ => by kernel_rfl
theorem lyceumref05_Tail_b : Bodied Try.prog 103 := bd Try.func103 (by kernel_rfl)

/- lyceum/lyceumref05.Right -/
def lyceumref05_Right (p0 : Value) (K : Value → World → Prop) : World → Prop :=
  Loop1 (.int .i64 0) fun t3 next1 =>
  xU p0 45 fun t6 =>
  xO .lss 3 t3 t6 fun t7 =>
  xW t7
  (Join1 (fun k2 =>
  xI 45 p0 t3 fun t12 =>
  xL 44 t12 fun t13 =>
  xC 127 [.const t13] [44] 4 fun t14 =>
  xN 4 t14 fun t15 =>
  xW t15
  (k2 (.bool true)) <|
  xI 45 p0 t3 fun t19 =>
  xL 44 t19 fun t20 =>
  xC 128 [.const t20] [44] 4 fun t21 =>
  xW t21
  (xC 129 [.const p0, .const t3] [45, 3] 4 fun t25 =>
  xN 4 t25 fun t26 =>
  xW t26
  (k2 (.bool true)) <|
  xI 45 p0 t3 fun t32 =>
  xL 44 t32 fun t33 =>
  xC 130 [.const t33] [44] 4 fun t34 =>
  xW t34
  (xO .sub 3 t3 (.int .i64 1) fun t38 =>
  xC 129 [.const p0, .const t38] [45, 3] 4 fun t39 =>
  xN 4 t39 fun t40 =>
  k2 t40) <|
  k2 (.bool false)) <|
  xI 45 p0 t3 fun t32_1 =>
  xL 44 t32_1 fun t33_1 =>
  xC 130 [.const t33_1] [44] 4 fun t34_1 =>
  xW t34_1
  (xO .sub 3 t3 (.int .i64 1) fun t38_1 =>
  xC 129 [.const p0, .const t38_1] [45, 3] 4 fun t39_1 =>
  xN 4 t39_1 fun t40_1 =>
  k2 t40_1) <|
  k2 (.bool false)) fun t42 =>
  xW t42
  (K (.bool false)) <|
  xO .add 3 t3 (.int .i64 1) fun t9 =>
  next1 t9) <|
  K (.bool true)
theorem lyceumref05_Right_link (p0 : Value) : Lk 120 #[p0] (lyceumref05_Right p0) := lk [p0] [(6, [3]), (16, [42])] Try.func120 (by kernel_rfl) fun _ _ => by kernel_rfl
theorem lyceumref05_Right_b : Bodied Try.prog 120 := bd Try.func120 (by kernel_rfl)

/- lyceum/lyceumref05.Mend -/
def lyceumref05_Mend (p0 : Value) (K : Value → World → Prop) : World → Prop :=
  Loop2 (.slice none 0 0) (.int .i64 0) fun t3 t4 next1 =>
  xU p0 45 fun t11 =>
  xO .lss 3 t4 t11 fun t12 =>
  xW t12
  (xI 45 p0 t4 fun t17 =>
  xL 44 t17 fun t18 =>
  xA 44 fun t5 =>
  xS 44 t5 t18 <|
  xL 44 t5 fun t19 =>
  xC 127 [.const t19] [44] 4 fun t20 =>
  xC 129 [.const p0, .const t4] [45, 3] 4 fun t23 =>
  xO .sub 3 t4 (.int .i64 1) fun t26 =>
  xC 129 [.const p0, .const t26] [45, 3] 4 fun t27 =>
  Join0 (fun k2 =>
  Join1 (fun k3 =>
  xW t23
  (xN 4 (.bool true) fun t45 =>
  k3 t45) <|
  xW t27
  (xN 4 (.bool true) fun t45_1 =>
  k3 t45_1) <|
  xW t20
  (xL 44 t5 fun t35 =>
  xC 128 [.const t35] [44] 4 fun t36 =>
  xN 4 t36 fun t37 =>
  xW t37
  (xL 44 t5 fun t40 =>
  xC 130 [.const t40] [44] 4 fun t41 =>
  xN 4 t41 fun t42 =>
  xN 4 t42 fun t45_2 =>
  k3 t45_2) <|
  xN 4 (.bool false) fun t45_3 =>
  k3 t45_3) <|
  xN 4 (.bool false) fun t45_4 =>
  k3 t45_4) fun t45_5 =>
  xW t45_5
  (xF 44 t5 1 fun t46 =>
  xL 5 t46 fun t47 =>
  xF 44 t5 2 fun t48 =>
  xL 5 t48 fun t49 =>
  OpX Try.prog (.build 44 #[(0, .const (.int .i32 32)), (1, .const t47), (2, .const t49)]) 44 fun t50 =>
  xS 44 t5 t50 <|
  k2) <|
  k2) <|
  xL 44 t5 fun t52 =>
  OpX Try.prog (.buildSlice 45 1 #[(0, .const t52)]) 45 fun t53 =>
  OpX Try.prog (.call { callee := .builtin .append, args := #[.const t3, .const t53], argTypes := #[45, 45] }) 45 fun t54 =>
  xO .add 3 t4 (.int .i64 1) fun t14 =>
  next1 t54 t14) <|
  K t3
theorem lyceumref05_Mend_link (p0 : Value) : Lk 121 #[p0] (lyceumref05_Mend p0) := lk [p0] [(8, [3, 4]), (25, []), (27, [45])] Try.func121 (by kernel_rfl) fun _ _ => by kernel_rfl
theorem lyceumref05_Mend_b : Bodied Try.prog 121 := bd Try.func121 (by kernel_rfl)

/- lyceum/lyceumref05.Check -/
def lyceumref05_Check (p0 : Value) (K : Value → World → Prop) : World → Prop :=
  xB 44 p0 fun t1 =>
  xF 44 t1 0 fun t4 =>
  xL 21 t4 fun t5 =>
  xC 102 [.const t5] [21] 3 fun t6 =>
  xL 44 t1 fun t7 =>
  xC 130 [.const t7] [44] 4 fun t8 =>
  xW t8
  (Join1 (fun k1 =>
  xL 44 t1 fun t9 =>
  xC 128 [.const t9] [44] 4 fun t10 =>
  xN 4 t10 fun t11 =>
  xW t11
  (xF 44 t1 0 fun t13 =>
  xL 21 t13 fun t14 =>
  xO .eql 21 t14 (.int .i32 0) fun t15 =>
  k1 t15) <|
  k1 (.bool false)) fun t2 =>
  K t2) <|
  Join1 (fun k2 =>
  xO .eql 3 t6 (.int .i64 1) fun t18 =>
  xW t18
  (xL 44 t1 fun t20 =>
  xC 128 [.const t20] [44] 4 fun t21 =>
  xN 4 t21 fun t22 =>
  xW t22
  (k2 (.bool true)) <|
  xO .eql 3 t6 (.int .i64 2) fun t26 =>
  xW t26
  (xL 44 t1 fun t28 =>
  xC 128 [.const t28] [44] 4 fun t29 =>
  k2 t29) <|
  k2 (.bool false)) <|
  xO .eql 3 t6 (.int .i64 2) fun t26_1 =>
  xW t26_1
  (xL 44 t1 fun t28_1 =>
  xC 128 [.const t28_1] [44] 4 fun t29_1 =>
  k2 t29_1) <|
  k2 (.bool false)) fun t2_1 =>
  K t2_1
theorem lyceumref05_Check_link (p0 : Value) : Lk 127 #[p0] (lyceumref05_Check p0) := lk [p0] [(9, [2]), (13, [2])] Try.func127 (by kernel_rfl) fun _ _ => by kernel_rfl
theorem lyceumref05_Check_b : Bodied Try.prog 127 := bd Try.func127 (by kernel_rfl)

/- lyceum/lyceumref05.wide -/
def lyceumref05_wide (p0 : Value) (K : Value → World → Prop) : World → Prop :=
  xB 44 p0 fun t1 =>
  xF 44 t1 3 fun t3 =>
  xL 5 t3 fun t4 =>
  xO .quo 5 t4 (.int .u8 64) fun t5 =>
  xO .rem 5 t5 (.int .u8 2) fun t6 =>
  xO .eql 5 t6 (.int .u8 1) fun t7 =>
  K t7
theorem lyceumref05_wide_link (p0 : Value) : Lk 128 #[p0] (lyceumref05_wide p0) := lk [p0] [] Try.func128 (by kernel_rfl) fun _ _ => by kernel_rfl
theorem lyceumref05_wide_b : Bodied Try.prog 128 := bd Try.func128 (by kernel_rfl)

/- lyceum/lyceumref05.pair -/
def lyceumref05_pair (p0 p1 : Value) (K : Value → World → Prop) : World → Prop :=
  DrewW <|
  Join1 (fun k1 =>
  qP .geq 3 p1 (.int .i64 0) fun t6 =>
  xW t6
  (qP .add 3 p1 (.int .i64 1) fun t9 =>
  xR (.call { callee := .builtin .len, args := #[.const p0], argTypes := #[45] }) 3 fun t11 =>
  qP .lss 3 t9 t11 fun t12 =>
  xW t12
  (xP (.indexAddr 45 (.const p0) (.const p1)) 0 fun t17 =>
  qL 44 t17 fun t18 =>
  xC 127 [.const t18] [44] 4 fun t19 =>
  xW t19
  (xP (.indexAddr 45 (.const p0) (.const p1)) 0 fun t24 =>
  qL 44 t24 fun t25 =>
  xC 128 [.const t25] [44] 4 fun t26 =>
  xW t26
  (qP .add 3 p1 (.int .i64 1) fun t31 =>
  xP (.indexAddr 45 (.const p0) (.const t31)) 0 fun t32 =>
  qL 44 t32 fun t33 =>
  xP (.indexAddr 45 (.const p0) (.const p1)) 0 fun t36 =>
  qL 44 t36 fun t37 =>
  xC 103 [.const t37] [44] 44 fun t38 =>
  xT (qZ 44 t32 t33) <|
  qR .eql 44 t33 t38 fun t39 =>
  k1 t39) <|
  k1 (.bool false)) <|
  k1 (.bool false)) <|
  k1 (.bool false)) <|
  k1 (.bool false)) fun t4 =>
  K t4
theorem lyceumref05_pair_link (p0 p1 : Value) : Lk 129 #[p0, p1] (lyceumref05_pair p0 p1) := lk [p0, p1] [(3, [4])] Try.func129 (by kernel_rfl) fun _ _ => by kernel_rfl
theorem lyceumref05_pair_b : Bodied Try.prog 129 := bd Try.func129 (by kernel_rfl)

/- lyceum/lyceumref05.tail -/
def lyceumref05_tail (p0 : Value) (K : Value → World → Prop) : World → Prop :=
  xB 44 p0 fun t1 =>
  xF 44 t1 3 fun t3 =>
  xL 5 t3 fun t4 =>
  xO .quo 5 t4 (.int .u8 128) fun t5 =>
  xO .eql 5 t5 (.int .u8 1) fun t6 =>
  K t6
theorem lyceumref05_tail_link (p0 : Value) : Lk 130 #[p0] (lyceumref05_tail p0) := lk [p0] [] Try.func130 (by kernel_rfl) fun _ _ => by kernel_rfl
theorem lyceumref05_tail_b : Bodied Try.prog 130 := bd Try.func130 (by kernel_rfl)

end Go.Proofs.Ytdjdeahmhenchaa
