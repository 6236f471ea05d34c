/- Written by a program (gen.py): functions of the translation as transformers, with the link to Calls. -/
import Derived.Test.YtdjdeahmhenchaaLycDef
import Derived.Test.YtdjdeahmhenchaaLycTy
import Derived.Test.YtdjdeahmhenchaaW0
set_option linter.unusedSimpArgs false
set_option linter.unusedVariables false
namespace Go.Proofs.Ytdjdeahmhenchaa
open Lyc Go
set_option maxRecDepth 100000

/- lyceum/history.New -/
def history_New (p0 : Value) (K : Value → World → Prop) : World → Prop :=
  OpX Try.prog (.build 99 #[]) 99 fun t4 =>
  OpX Try.prog (.box 99 (.const t4)) 40 fun t5 =>
  OpX Try.prog (.call { callee := .builtin .max, args := #[.const p0, .const (.int .i64 0)], argTypes := #[3, 3] }) 3 fun t8 =>
  OpX Try.prog (.call { callee := .builtin .min, args := #[.const t8, .const (.int .i64 500)], argTypes := #[3, 3] }) 3 fun t9 =>
  OpX Try.prog (.nilCheck (.const t5)) 0 fun t10 =>
  xF 99 t10 0 fun t11 =>
  xF 97 t11 0 fun t12 =>
  xS 3 t12 t9 <|
  K t5
theorem history_New_link (p0 : Value) : Lk 30 #[p0] (history_New p0) := lk [p0] [] Try.func30 (by kernel_rfl) fun _ _ => by kernel_rfl
theorem history_New_b : Bodied Try.prog 30 := bd Try.func30 (by kernel_rfl)

/- (*lyceum/history.History).Push -/
def history_History_Push (p0 p1 : Value) (K : Value → World → Prop) : World → Prop :=
  xO .eql 40 p0 (.pointer none) fun t7 =>
  xW t7
  (K (.tuple #[])) <|
  xU p1 95 fun t9 =>
  Loop1 (.int .i64 0) fun t10 next1 =>
  xO .lss 3 t10 t9 fun t11 =>
  xW t11
  (xI 95 p1 t10 fun t12 =>
  xL 45 t12 fun t13 =>
  DrewW <|
  xP (.nilCheck (.const p0)) 0 fun t15 =>
  qF 99 t15 0 fun t16 =>
  xC 65 [.const t13] [45] 45 fun t18 =>
  xC 64 [.const t16, .const t18] [97, 45] 0 fun _ =>
  xO .add 3 t10 (.int .i64 1) fun t20 =>
  next1 t20) <|
  K (.tuple #[])
theorem history_History_Push_link (p0 p1 : Value) : Lk 31 #[p0, p1] (history_History_Push p0 p1) := lk [p0, p1] [(9, [10])] Try.func31 (by kernel_rfl) fun _ _ => by kernel_rfl
theorem history_History_Push_b : Bodied Try.prog 31 := bd Try.func31 (by kernel_rfl)

/- (*lyceum/history.History).Len -/
def history_History_Len (p0 : Value) (K : Value → World → Prop) : World → Prop :=
  xO .eql 40 p0 (.pointer none) fun t4 =>
  xW t4
  (K (.int .i64 0)) <|
  OpX Try.prog (.nilCheck (.const p0)) 0 fun t6 =>
  xF 99 t6 0 fun t7 =>
  xC 66 [.const t7] [97] 3 fun t8 =>
  K t8
theorem history_History_Len_link (p0 : Value) : Lk 32 #[p0] (history_History_Len p0) := lk [p0] [] Try.func32 (by kernel_rfl) fun _ _ => by kernel_rfl
theorem history_History_Len_b : Bodied Try.prog 32 := bd Try.func32 (by kernel_rfl)

/- (*lyceum/history.History).Row -/
def history_History_Row (p0 p1 : Value) (K : Value → World → Prop) : World → Prop :=
  xO .eql 40 p0 (.pointer none) fun t8 =>
  xW t8
  (K (.slice none 0 0)) <|
  OpX Try.prog (.nilCheck (.const p0)) 0 fun t11 =>
  xF 99 t11 0 fun t12 =>
  xC 67 [.const t12, .const p1] [97, 3] 102 fun t14 =>
  xE t14 0 45 fun t15 =>
  xE t14 1 4 fun t16 =>
  xN 4 t16 fun t18 =>
  xW t18
  (K (.slice none 0 0)) <|
  OpX Try.prog (.call { callee := .builtin .append, args := #[.const (.slice none 0 0), .const t15], argTypes := #[45, 45] }) 45 fun t20 =>
  K t20
theorem history_History_Row_link (p0 p1 : Value) : Lk 33 #[p0, p1] (history_History_Row p0 p1) := lk [p0, p1] [] Try.func33 (by kernel_rfl) fun _ _ => by kernel_rfl
theorem history_History_Row_b : Bodied Try.prog 33 := bd Try.func33 (by kernel_rfl)

/- (*lyceum/history.History).Clear -/
def history_History_Clear (p0 : Value) (K : Value → World → Prop) : World → Prop :=
  xO .eql 40 p0 (.pointer none) fun t3 =>
  xW t3
  (K (.tuple #[])) <|
  OpX Try.prog (.nilCheck (.const p0)) 0 fun t5 =>
  xF 99 t5 0 fun t6 =>
  xC 69 [.const t6] [97] 0 fun _ =>
  K (.tuple #[])
theorem history_History_Clear_link (p0 : Value) : Lk 36 #[p0] (history_History_Clear p0) := lk [p0] [] Try.func36 (by kernel_rfl) fun _ _ => by kernel_rfl
theorem history_History_Clear_b : Bodied Try.prog 36 := bd Try.func36 (by kernel_rfl)

/- (*lyceum/history.History).View -/
def history_History_View (p0 p1 p2 : Value) (K : Value → World → Prop) : World → Prop :=
  xB 54 p1 fun t4 =>
  xA 54 fun t6 =>
  xL 54 t4 fun t13 =>
  xC 51 [.const t13] [54] 4 fun t14 =>
  xN 4 t14 fun t15 =>
  xW t15
  (OpX Try.prog (.build 54 #[]) 54 fun t16 =>
  xS 54 t6 t16 <|
  xD 54 t6 fun t6_1 =>
  K t6_1) <|
  xC 32 [.const p0] [40] 3 fun t18 =>
  OpX Try.prog (.call { callee := .builtin .max, args := #[.const p2, .const (.int .i64 0)], argTypes := #[3, 3] }) 3 fun t21 =>
  OpX Try.prog (.call { callee := .builtin .min, args := #[.const t21, .const t18], argTypes := #[3, 3] }) 3 fun t23 =>
  xO .sub 3 t18 t23 fun t24 =>
  DrewW <|
  Join1 (fun k1 =>
  qF 54 t4 0 fun t25 =>
  qL 3 t25 fun t26 =>
  qF 54 t4 1 fun t27 =>
  qL 3 t27 fun t28 =>
  qF 54 t4 0 fun t29 =>
  qL 3 t29 fun t30 =>
  qF 54 t4 1 fun t31 =>
  qL 3 t31 fun t32 =>
  qP .mul 3 t30 t32 fun t33 =>
  xT (OpX Try.prog (.makeSlice 45 (.const (.int .i64 0)) (.const t33)) 45 fun t34 =>
  xT (qZ 3 t27 t28) <|
  xT (qZ 3 t25 t26) <|
  xT (OpX Try.prog (.build 54 #[(0, .const t26), (1, .const t28), (2, .const t34)]) 54 fun t35 =>
  xA 54 fun t9 =>
  xS 54 t9 t35 <|
  k1 t9) <|
  xA 54 fun t9_1 =>
  xT (qZ 3 t27 t28) <|
  xT (qZ 3 t25 t26) <|
  OpX Try.prog (.build 54 #[(0, .const t26), (1, .const t28), (2, .const t34)]) 54 fun t35_1 =>
  xS 54 t9_1 t35_1 <|
  k1 t9_1) <|
  xA 54 fun t9_2 =>
  xT (qZ 3 t31 t32) <|
  xT (qZ 3 t29 t30) <|
  xT (qZ 3 t27 t28) <|
  xT (qZ 3 t25 t26) <|
  OpX Try.prog (.makeSlice 45 (.const (.int .i64 0)) (.const t33)) 45 fun t34_1 =>
  xT (qZ 3 t27 t28) <|
  xT (qZ 3 t25 t26) <|
  OpX Try.prog (.build 54 #[(0, .const t26), (1, .const t28), (2, .const t34_1)]) 54 fun t35_2 =>
  xS 54 t9_2 t35_2 <|
  k1 t9_2) fun t9_3 =>
  Loop1 t24 fun t10 next2 =>
  xF 54 t4 1 fun t39 =>
  xL 3 t39 fun t40 =>
  xO .add 3 t24 t40 fun t41 =>
  xO .lss 3 t10 t41 fun t42 =>
  xW t42
  (Join0 (fun k3 =>
  xO .geq 3 t10 t18 fun t47 =>
  xW t47
  (DrewW <|
  qF 54 t9_3 2 fun t48 =>
  qL 45 t48 fun t49 =>
  qL 54 t4 fun t50 =>
  qP .sub 3 t10 t18 fun t53 =>
  xC 75 [.const t50, .const t53] [54, 3] 45 fun t54 =>
  xT (qZ 45 t48 t49) <|
  OpX Try.prog (.call { callee := .builtin .append, args := #[.const t49, .const t54], argTypes := #[45, 45] }) 45 fun t55 =>
  qF 54 t9_3 2 fun t56 =>
  xS 45 t56 t55 <|
  k3) <|
  OpX Try.prog (.nilCheck (.const p0)) 0 fun t59 =>
  xF 99 t59 0 fun t60 =>
  xC 67 [.const t60, .const t10] [97, 3] 102 fun t62 =>
  xE t62 0 45 fun t63 =>
  xE t62 1 4 fun _ =>
  DrewW <|
  qF 54 t9_3 2 fun t65 =>
  qL 45 t65 fun t66 =>
  qF 54 t4 0 fun t68 =>
  qL 3 t68 fun t69 =>
  xC 76 [.const t63, .const t69] [45, 3] 45 fun t70 =>
  xT (qZ 45 t65 t66) <|
  OpX Try.prog (.call { callee := .builtin .append, args := #[.const t66, .const t70], argTypes := #[45, 45] }) 45 fun t71 =>
  qF 54 t9_3 2 fun t72 =>
  xS 45 t72 t71 <|
  k3) <|
  xO .add 3 t10 (.int .i64 1) fun t44 =>
  next2 t44) <|
  xL 54 t9_3 fun t73 =>
  xS 54 t6 t73 <|
  xD 54 t6 fun t6_2 =>
  K t6_2
theorem history_History_View_link (p0 p1 p2 : Value) : Lk 40 #[p0, p1, p2] (history_History_View p0 p1 p2) := lk [p0, p1, p2] [(15, [9]), (20, [10]), (28, [])] Try.func40 (by kernel_rfl) fun _ _ => by kernel_rfl
theorem history_History_View_b : Bodied Try.prog 40 := bd Try.func40 (by kernel_rfl)

/- (*lyceum/history.ring[[]lyceum/api.Cell]).put -/
def history_ring_api_Cell_put (p0 p1 : Value) (K : Value → World → Prop) : World → Prop :=
  OpX Try.prog (.nilCheck (.const p0)) 0 fun t5 =>
  xF 97 t5 0 fun t6 =>
  xL 3 t6 fun t7 =>
  xO .leq 3 t7 (.int .i64 0) fun t8 =>
  xW t8
  (K (.tuple #[])) <|
  DrewW <|
  xP (.nilCheck (.const p0)) 0 fun t10 =>
  qF 97 t10 2 fun t11 =>
  qL 95 t11 fun t12 =>
  xR (.call { callee := .builtin .len, args := #[.const t12], argTypes := #[95] }) 3 fun t13 =>
  xP (.nilCheck (.const p0)) 0 fun t15 =>
  qF 97 t15 0 fun t16 =>
  qL 3 t16 fun t17 =>
  qP .lss 3 t13 t17 fun t18 =>
  xW t18
  (OpX Try.prog (.nilCheck (.const p0)) 0 fun t21 =>
  xF 97 t21 2 fun t22 =>
  xL 95 t22 fun t23 =>
  OpX Try.prog (.buildSlice 95 1 #[(0, .const p1)]) 95 fun t25 =>
  OpX Try.prog (.call { callee := .builtin .append, args := #[.const t23, .const t25], argTypes := #[95, 95] }) 95 fun t26 =>
  OpX Try.prog (.nilCheck (.const p0)) 0 fun t27 =>
  xF 97 t27 2 fun t28 =>
  xS 95 t28 t26 <|
  K (.tuple #[])) <|
  DrewW <|
  xP (.nilCheck (.const p0)) 0 fun t30 =>
  qF 97 t30 2 fun t31 =>
  qL 95 t31 fun t32 =>
  xP (.nilCheck (.const p0)) 0 fun t34 =>
  qF 97 t34 1 fun t35 =>
  qL 3 t35 fun t36 =>
  xP (.indexAddr 95 (.const t32) (.const t36)) 0 fun t38 =>
  xS 45 t38 p1 <|
  DrewW <|
  xP (.nilCheck (.const p0)) 0 fun t41 =>
  qF 97 t41 1 fun t42 =>
  qL 3 t42 fun t43 =>
  qP .add 3 t43 (.int .i64 1) fun t44 =>
  xP (.nilCheck (.const p0)) 0 fun t46 =>
  qF 97 t46 0 fun t47 =>
  qL 3 t47 fun t48 =>
  qP .rem 3 t44 t48 fun t49 =>
  xP (.nilCheck (.const p0)) 0 fun t50 =>
  qF 97 t50 1 fun t51 =>
  xS 3 t51 t49 <|
  K (.tuple #[])
theorem history_ring_api_Cell_put_link (p0 p1 : Value) : Lk 64 #[p0, p1] (history_ring_api_Cell_put p0 p1) := lk [p0, p1] [] Try.func64 (by kernel_rfl) fun _ _ => by kernel_rfl
theorem history_ring_api_Cell_put_b : Bodied Try.prog 64 := bd Try.func64 (by kernel_rfl)

/- (*lyceum/history.ring[[]lyceum/api.Cell]).size -/
def history_ring_api_Cell_size (p0 : Value) (K : Value → World → Prop) : World → Prop :=
  OpX Try.prog (.nilCheck (.const p0)) 0 fun t4 =>
  xF 97 t4 2 fun t5 =>
  xL 95 t5 fun t6 =>
  xU t6 95 fun t7 =>
  K t7
theorem history_ring_api_Cell_size_link (p0 : Value) : Lk 66 #[p0] (history_ring_api_Cell_size p0) := lk [p0] [] Try.func66 (by kernel_rfl) fun _ _ => by kernel_rfl
theorem history_ring_api_Cell_size_b : Bodied Try.prog 66 := bd Try.func66 (by kernel_rfl)

/- (*lyceum/history.ring[[]lyceum/api.Cell]).at -/
def history_ring_api_Cell_at (p0 p1 : Value) (K : Value → World → Prop) : World → Prop :=
  Join1 (fun k1 =>
  xO .lss 3 p1 (.int .i64 0) fun t8 =>
  xW t8
  (k1 (.bool true)) <|
  OpX Try.prog (.nilCheck (.const p0)) 0 fun t12 =>
  xF 97 t12 2 fun t13 =>
  xL 95 t13 fun t14 =>
  xU t14 95 fun t15 =>
  xO .geq 3 p1 t15 fun t16 =>
  k1 t16) fun t17 =>
  xW t17
  (K (.tuple #[(.slice none 0 0), (.bool false)])) <|
  DrewW <|
  xP (.nilCheck (.const p0)) 0 fun t20 =>
  qF 97 t20 2 fun t21 =>
  qL 95 t21 fun t22 =>
  xP (.nilCheck (.const p0)) 0 fun t24 =>
  qF 97 t24 1 fun t25 =>
  qL 3 t25 fun t26 =>
  qP .add 3 t26 p1 fun t28 =>
  xP (.nilCheck (.const p0)) 0 fun t30 =>
  qF 97 t30 2 fun t31 =>
  qL 95 t31 fun t32 =>
  xR (.call { callee := .builtin .len, args := #[.const t32], argTypes := #[95] }) 3 fun t33 =>
  qP .rem 3 t28 t33 fun t34 =>
  xP (.indexAddr 95 (.const t22) (.const t34)) 0 fun t35 =>
  qL 45 t35 fun t36 =>
  K (.tuple #[t36, (.bool true)])
theorem history_ring_api_Cell_at_link (p0 p1 : Value) : Lk 67 #[p0, p1] (history_ring_api_Cell_at p0 p1) := lk [p0, p1] [(4, [17])] Try.func67 (by kernel_rfl) fun _ _ => by kernel_rfl
theorem history_ring_api_Cell_at_b : Bodied Try.prog 67 := bd Try.func67 (by kernel_rfl)

/- (*lyceum/history.ring[[]lyceum/api.Cell]).empty -/
def history_ring_api_Cell_empty (p0 : Value) (K : Value → World → Prop) : World → Prop :=
  OpX Try.prog (.nilCheck (.const p0)) 0 fun t3 =>
  xF 97 t3 1 fun t4 =>
  xS 3 t4 (.int .i64 0) <|
  OpX Try.prog (.nilCheck (.const p0)) 0 fun t6 =>
  xF 97 t6 2 fun t7 =>
  xS 95 t7 (.slice none 0 0) <|
  K (.tuple #[])
theorem history_ring_api_Cell_empty_link (p0 : Value) : Lk 69 #[p0] (history_ring_api_Cell_empty p0) := lk [p0] [] Try.func69 (by kernel_rfl) fun _ _ => by kernel_rfl
theorem history_ring_api_Cell_empty_b : Bodied Try.prog 69 := bd Try.func69 (by kernel_rfl)

/- lyceum/history.fitted -/
def history_fitted (p0 p1 : Value) (K : Value → World → Prop) : World → Prop :=
  OpX Try.prog (.makeSlice 45 (.const p1) (.const p1)) 45 fun t8 =>
  OpX Try.prog (.call { callee := .builtin .copy, args := #[.const t8, .const p0], argTypes := #[45, 45] }) 3 fun t11 =>
  Loop1 t11 fun t6 next1 =>
  xO .lss 3 t6 p1 fun t14 =>
  xW t14
  (xC 105 [] [] 44 fun t19 =>
  xI 45 t8 t6 fun t20 =>
  xS 44 t20 t19 <|
  xO .add 3 t6 (.int .i64 1) fun t16 =>
  next1 t16) <|
  xC 65 [.const t8] [45] 45 fun t22 =>
  K t22
theorem history_fitted_link (p0 p1 : Value) : Lk 76 #[p0, p1] (history_fitted p0 p1) := lk [p0, p1] [(8, [6])] Try.func76 (by kernel_rfl) fun _ _ => by kernel_rfl
theorem history_fitted_b : Bodied Try.prog 76 := bd Try.func76 (by kernel_rfl)

/- lyceum/lyceumlaw10.HistoryOrder -/
def lyceumlaw10_HistoryOrder (p0 p1 : Value) (K : Value → World → Prop) : World → Prop :=
  xC 29 [] [] 4 fun t12 =>
  xO .rem 3 p0 (.int .i64 21) fun t14 =>
  xO .add 3 t14 (.int .i64 21) fun t15 =>
  xO .rem 3 t15 (.int .i64 21) fun t16 =>
  xO .rem 3 p1 (.int .i64 51) fun t18 =>
  xO .add 3 t18 (.int .i64 51) fun t19 =>
  xO .rem 3 t19 (.int .i64 51) fun t20 =>
  xC 30 [.const t16] [3] 40 fun t22 =>
  xO .eql 40 t22 (.pointer none) fun t24 =>
  xW t24
  (K (.bool false)) <|
  Loop1 (.int .i64 0) fun t9 next1 =>
  xO .lss 3 t9 t20 fun t27 =>
  xW t27
  (xO .add 3 (.int .i64 48) t9 fun t32 =>
  OpX Try.prog (.convert 3 21 (.const t32)) 21 fun t33 =>
  OpX Try.prog (.build 44 #[(0, .const t33)]) 44 fun t34 =>
  OpX Try.prog (.buildSlice 45 1 #[(0, .const t34)]) 45 fun t35 =>
  OpX Try.prog (.buildSlice 95 1 #[(0, .const t35)]) 95 fun t36 =>
  xC 31 [.const t22, .const t36] [40, 95] 0 fun _ =>
  xO .add 3 t9 (.int .i64 1) fun t29 =>
  next1 t29) <|
  xC 32 [.const t22] [40] 3 fun t39 =>
  OpX Try.prog (.call { callee := .builtin .min, args := #[.const t16, .const t20], argTypes := #[3, 3] }) 3 fun t42 =>
  xO .neq 3 t39 t42 fun t43 =>
  xW t43
  (K (.bool false)) <|
  Loop1 (.int .i64 0) fun t10 next2 =>
  xC 32 [.const t22] [40] 3 fun t46 =>
  xO .lss 3 t10 t46 fun t47 =>
  xW t47
  (xC 33 [.const t22, .const t10] [40, 3] 45 fun t52 =>
  DrewW <|
  Join1 (fun k3 =>
  xR (.call { callee := .builtin .len, args := #[.const t52], argTypes := #[45] }) 3 fun t54 =>
  qR .neq 3 t54 (.int .i64 1) fun t55 =>
  xW t55
  (k3 (.bool true)) <|
  xP (.indexAddr 45 (.const t52) (.const (.int .i64 0))) 0 fun t58 =>
  qF 44 t58 0 fun t59 =>
  qL 21 t59 fun t60 =>
  qP .add 3 (.int .i64 48) t20 fun t62 =>
  xC 32 [.const t22] [40] 3 fun t64 =>
  xT (qZ 21 t59 t60) <|
  qP .sub 3 t62 t64 fun t65 =>
  qP .add 3 t65 t10 fun t67 =>
  xP (.convert 3 21 (.const t67)) 21 fun t68 =>
  qR .neq 21 t60 t68 fun t69 =>
  k3 t69) fun t70 =>
  xW t70
  (K (.bool false)) <|
  xO .add 3 t10 (.int .i64 1) fun t49 =>
  next2 t49) <|
  Join1 (fun k4 =>
  xW t12
  (xC 32 [.const t22] [40] 3 fun t75 =>
  xC 33 [.const t22, .const t75] [40, 3] 45 fun t76 =>
  xU t76 45 fun t77 =>
  xO .eql 3 t77 (.int .i64 0) fun t78 =>
  xW t78
  (xC 33 [.const t22, .const (.int .i64 (-1))] [40, 3] 45 fun t82 =>
  xU t82 45 fun t83 =>
  xO .eql 3 t83 (.int .i64 0) fun t84 =>
  k4 t84) <|
  k4 (.bool false)) <|
  k4 (.bool false)) fun t4 =>
  K t4
theorem lyceumlaw10_HistoryOrder_link (p0 p1 : Value) : Lk 7 #[p0, p1] (lyceumlaw10_HistoryOrder p0 p1) := lk [p0, p1] [(22, [9]), (45, [10]), (57, [70]), (65, [4])] Try.func7 (by kernel_rfl) fun _ _ => by kernel_rfl
theorem lyceumlaw10_HistoryOrder_b : Bodied Try.prog 7 := bd Try.func7 (by kernel_rfl)

/- lyceum/lyceumlaw10.HistoryRoom -/
def lyceumlaw10_HistoryRoom (p0 p1 : Value) (K : Value → World → Prop) : World → Prop :=
  xC 29 [] [] 4 fun t11 =>
  xC 30 [.const p0] [3] 40 fun t13 =>
  xO .eql 40 t13 (.pointer none) fun t15 =>
  xW t15
  (K (.bool false)) <|
  OpX Try.prog (.call { callee := .builtin .max, args := #[.const p0, .const (.int .i64 0)], argTypes := #[3, 3] }) 3 fun t17 =>
  OpX Try.prog (.call { callee := .builtin .min, args := #[.const t17, .const (.int .i64 500)], argTypes := #[3, 3] }) 3 fun t18 =>
  Loop1 (.int .i64 0) fun t8 next1 =>
  Join1 (fun k2 =>
  xU p1 48 fun t21 =>
  xO .lss 3 t8 t21 fun t22 =>
  xW t22
  (xO .lss 3 t8 (.int .i64 30) fun t25 =>
  k2 t25) <|
  k2 (.bool false)) fun t26 =>
  xW t26
  (xI 48 p1 t8 fun t31 =>
  xL 50 t31 fun t32 =>
  xC 34 [.const t32] [50] 45 fun t33 =>
  OpX Try.prog (.buildSlice 95 1 #[(0, .const t33)]) 95 fun t36 =>
  xC 31 [.const t13, .const t36] [40, 95] 0 fun _ =>
  xC 32 [.const t13] [40] 3 fun t39 =>
  xO .add 3 t8 (.int .i64 1) fun t42 =>
  OpX Try.prog (.call { callee := .builtin .min, args := #[.const t18, .const t42], argTypes := #[3, 3] }) 3 fun t43 =>
  xO .neq 3 t39 t43 fun t44 =>
  xW t44
  (K (.bool false)) <|
  xC 32 [.const t13] [40] 3 fun t47 =>
  xO .sub 3 t47 (.int .i64 1) fun t48 =>
  xC 33 [.const t13, .const t48] [40, 3] 45 fun t49 =>
  xC 35 [.const t49, .const t33] [45, 45] 4 fun t51 =>
  Join1 (fun k3 =>
  xO .gtr 3 t18 (.int .i64 0) fun t53 =>
  xW t53
  (xN 4 t51 fun t56 =>
  k3 t56) <|
  k3 (.bool false)) fun t57 =>
  xW t57
  (K (.bool false)) <|
  xO .add 3 t8 (.int .i64 1) fun t28 =>
  next1 t28) <|
  xC 36 [.const t13] [40] 0 fun _ =>
  Join1 (fun k4 =>
  xW t11
  (xC 32 [.const t13] [40] 3 fun t63 =>
  xO .eql 3 t63 (.int .i64 0) fun t64 =>
  xW t64
  (xC 33 [.const t13, .const (.int .i64 0)] [40, 3] 45 fun t68 =>
  xU t68 45 fun t69 =>
  xO .eql 3 t69 (.int .i64 0) fun t70 =>
  k4 t70) <|
  k4 (.bool false)) <|
  k4 (.bool false)) fun t4 =>
  K t4
theorem lyceumlaw10_HistoryRoom_link (p0 p1 : Value) : Lk 8 #[p0, p1] (lyceumlaw10_HistoryRoom p0 p1) := lk [p0, p1] [(20, [8]), (23, [26]), (44, [57]), (54, [4])] Try.func8 (by kernel_rfl) fun _ _ => by kernel_rfl
theorem lyceumlaw10_HistoryRoom_b : Bodied Try.prog 8 := bd Try.func8 (by kernel_rfl)

/- lyceum/lyceumlaw10.HistoryViews -/
def lyceumlaw10_HistoryViews (p0 p1 p2 : Value) (K : Value → World → Prop) : World → Prop :=
  xC 29 [] [] 4 fun t20 =>
  xC 30 [.const (.int .i64 500)] [3] 40 fun t21 =>
  xO .eql 40 t21 (.pointer none) fun t23 =>
  xW t23
  (K (.bool false)) <|
  xU p0 50 fun t25 =>
  OpX Try.prog (.call { callee := .builtin .min, args := #[.const t25, .const (.int .i64 20)], argTypes := #[3, 3] }) 3 fun t26 =>
  Loop1 (.int .i64 0) fun t10 next1 =>
  xO .lss 3 t10 t26 fun t29 =>
  xW t29
  (xI 50 p0 t10 fun t35 =>
  xL 3 t35 fun t36 =>
  xO .and 3 t36 (.int .i64 7) fun t37 =>
  xO .add 3 (.int .i64 97) t37 fun t38 =>
  OpX Try.prog (.convert 3 21 (.const t38)) 21 fun t39 =>
  OpX Try.prog (.build 44 #[(0, .const t39)]) 44 fun t40 =>
  OpX Try.prog (.build 44 #[(0, .const (.int .i32 45))]) 44 fun t41 =>
  OpX Try.prog (.build 44 #[(0, .const (.int .i32 45))]) 44 fun t42 =>
  OpX Try.prog (.buildSlice 45 3 #[(0, .const t40), (1, .const t41), (2, .const t42)]) 45 fun t43 =>
  OpX Try.prog (.buildSlice 95 1 #[(0, .const t43)]) 95 fun t44 =>
  xC 31 [.const t21, .const t44] [40, 95] 0 fun _ =>
  xO .add 3 t10 (.int .i64 1) fun t31 =>
  next1 t31) <|
  xO .rem 3 p1 (.int .i64 5) fun t47 =>
  xO .add 3 t47 (.int .i64 5) fun t48 =>
  xO .rem 3 t48 (.int .i64 5) fun t49 =>
  xO .add 3 (.int .i64 1) t49 fun t50 =>
  xC 37 [.const (.int .i64 3), .const t50] [3, 3] 54 fun t51 =>
  xA 54 fun t11 =>
  xS 54 t11 t51 <|
  xL 54 t11 fun t52 =>
  OpX Try.prog (.build 44 #[(0, .const (.int .i32 35))]) 44 fun t53 =>
  OpX Try.prog (.buildSlice 45 1 #[(0, .const t53)]) 45 fun t54 =>
  xC 38 [.const t52, .const (.int .i64 1), .const (.int .i64 0), .const t54] [54, 3, 3, 45] 54 fun t55 =>
  xS 54 t11 t55 <|
  DrewW <|
  qL 54 t11 fun t57 =>
  qL 54 t11 fun t59 =>
  xC 40 [.const t21, .const t57, .const (.int .i64 0)] [40, 54, 3] 54 fun t58 =>
  xT (qZ 54 t11 t59) <|
  xC 39 [.const t58, .const t59] [54, 54] 4 fun t60 =>
  xO .add 3 t26 (.int .i64 1) fun t63 =>
  xO .rem 3 p2 t63 fun t64 =>
  xO .add 3 t64 t26 fun t66 =>
  xO .add 3 t66 (.int .i64 1) fun t67 =>
  xO .add 3 t26 (.int .i64 1) fun t69 =>
  xO .rem 3 t67 t69 fun t70 =>
  xL 54 t11 fun t72 =>
  xC 40 [.const t21, .const t72, .const t70] [40, 54, 3] 54 fun t74 =>
  xA 54 fun t14 =>
  xS 54 t14 t74 <|
  Join1 (fun k2 =>
  xN 4 t60 fun t76 =>
  xW t76
  (k2 (.bool true)) <|
  xF 54 t14 0 fun t78 =>
  xL 3 t78 fun t79 =>
  xO .neq 3 t79 (.int .i64 3) fun t80 =>
  xW t80
  (k2 (.bool true)) <|
  xF 54 t14 1 fun t83 =>
  xL 3 t83 fun t84 =>
  xF 54 t11 1 fun t85 =>
  xL 3 t85 fun t86 =>
  xO .neq 3 t84 t86 fun t87 =>
  k2 t87) fun t88 =>
  xW t88
  (K (.bool false)) <|
  Loop1 (.int .i64 0) fun t15 next3 =>
  xF 54 t11 1 fun t90 =>
  xL 3 t90 fun t91 =>
  xO .lss 3 t15 t91 fun t92 =>
  xW t92
  (xO .sub 3 t26 t70 fun t97 =>
  xO .add 3 t97 t15 fun t99 =>
  Loop1 (.int .i64 0) fun t17 next4 =>
  xO .lss 3 t17 (.int .i64 3) fun t101 =>
  xW t101
  (xL 54 t11 fun t104 =>
  xO .sub 3 t99 t26 fun t108 =>
  xC 41 [.const t104, .const t17, .const t108] [54, 3, 3] 44 fun t109 =>
  xA 44 fun t18 =>
  xS 44 t18 t109 <|
  Join0 (fun k5 =>
  xO .lss 3 t99 t26 fun t112 =>
  xW t112
  (OpX Try.prog (.build 44 #[(0, .const (.int .i32 45))]) 44 fun t113 =>
  xS 44 t18 t113 <|
  xO .eql 3 t17 (.int .i64 0) fun t115 =>
  xW t115
  (xI 50 p0 t99 fun t118 =>
  xL 3 t118 fun t119 =>
  xO .and 3 t119 (.int .i64 7) fun t120 =>
  xO .add 3 (.int .i64 97) t120 fun t121 =>
  OpX Try.prog (.convert 3 21 (.const t121)) 21 fun t122 =>
  xF 44 t18 0 fun t123 =>
  xS 21 t123 t122 <|
  k5) <|
  k5) <|
  k5) <|
  DrewW <|
  qL 54 t14 fun t124 =>
  qL 44 t18 fun t128 =>
  xC 42 [.const t124, .const t17, .const t15] [54, 3, 3] 44 fun t127 =>
  xT (qZ 44 t18 t128) <|
  qR .neq 44 t127 t128 fun t129 =>
  xW t129
  (K (.bool false)) <|
  xO .add 3 t17 (.int .i64 1) fun t103 =>
  next4 t103) <|
  xO .add 3 t15 (.int .i64 1) fun t94 =>
  next3 t94) <|
  DrewW <|
  qL 54 t11 fun t131 =>
  qL 54 t11 fun t134 =>
  xC 40 [.const t21, .const t131, .const (.int .i64 1000)] [40, 54, 3] 54 fun t132 =>
  xT (qZ 54 t11 t134) <|
  xC 40 [.const t21, .const t134, .const t26] [40, 54, 3] 54 fun t136 =>
  xC 39 [.const t132, .const t136] [54, 54] 4 fun t137 =>
  Join1 (fun k6 =>
  xW t20
  (k6 t137) <|
  k6 (.bool false)) fun t6 =>
  K t6
theorem lyceumlaw10_HistoryViews_link (p0 p1 p2 : Value) : Lk 9 #[p0, p1, p2] (lyceumlaw10_HistoryViews p0 p1 p2) := lk [p0, p1, p2] [(20, [10]), (43, [88]), (53, [15]), (67, [17]), (78, []), (102, [6])] Try.func9 (by kernel_rfl) fun _ _ => by kernel_rfl
theorem lyceumlaw10_HistoryViews_b : Bodied Try.prog 9 := bd Try.func9 (by kernel_rfl)

/- lyceum/lyceumlaw10.awake -/
def lyceumlaw10_awake (K : Value → World → Prop) : World → Prop :=
  xC 30 [.const (.int .i64 2)] [3] 40 fun t2 =>
  xO .eql 40 t2 (.pointer none) fun t4 =>
  xW t4
  (K (.bool false)) <|
  OpX Try.prog (.buildSlice 50 1 #[(0, .const (.int .i64 0))]) 50 fun t6 =>
  xC 34 [.const t6] [50] 45 fun t7 =>
  OpX Try.prog (.buildSlice 50 1 #[(0, .const (.int .i64 1))]) 50 fun t8 =>
  xC 34 [.const t8] [50] 45 fun t9 =>
  OpX Try.prog (.buildSlice 50 1 #[(0, .const (.int .i64 2))]) 50 fun t10 =>
  xC 34 [.const t10] [50] 45 fun t11 =>
  OpX Try.prog (.buildSlice 95 3 #[(0, .const t7), (1, .const t9), (2, .const t11)]) 95 fun t12 =>
  xC 31 [.const t2, .const t12] [40, 95] 0 fun _ =>
  Join1 (fun k1 =>
  xC 32 [.const t2] [40] 3 fun t15 =>
  xO .eql 3 t15 (.int .i64 2) fun t16 =>
  xW t16
  (xC 33 [.const t2, .const (.int .i64 0)] [40, 3] 45 fun t19 =>
  xC 63 [.const t19] [45] 9 fun t20 =>
  xO .eql 9 t20 (.string { data := #[98] }) fun t21 =>
  xW t21
  (xC 33 [.const t2, .const (.int .i64 1)] [40, 3] 45 fun t25 =>
  xC 63 [.const t25] [45] 9 fun t26 =>
  xO .eql 9 t26 (.string { data := #[99] }) fun t27 =>
  k1 t27) <|
  k1 (.bool false)) <|
  k1 (.bool false)) fun t0 =>
  K t0
theorem lyceumlaw10_awake_link : Lk 29 #[] (lyceumlaw10_awake) := lk [] [(15, [0])] Try.func29 (by kernel_rfl) fun _ _ => by kernel_rfl
theorem lyceumlaw10_awake_b : Bodied Try.prog 29 := bd Try.func29 (by kernel_rfl)

/- lyceum/lyceumlaw10.letters -/
def lyceumlaw10_letters (p0 : Value) (K : Value → World → Prop) : World → Prop :=
  OpX Try.prog (.build 104 #[(0, .const (.int .i32 97)), (1, .const (.int .i32 98)), (2, .const (.int .i32 99)), (3, .const (.int .i32 32)), (4, .const (.int .i32 19968)), (5, .const (.int .i32 97)), (6, .const (.int .i32 120)), (7, .const (.int .i32 32))]) 104 fun t6 =>
  xA 104 fun t3 =>
  xS 104 t3 t6 <|
  Loop2 (.slice none 0 0) (.int .i64 0) fun t4 t5 next1 =>
  Join1 (fun k2 =>
  xU p0 50 fun t9 =>
  xO .lss 3 t5 t9 fun t10 =>
  xW t10
  (xO .lss 3 t5 (.int .i64 10) fun t13 =>
  k2 t13) <|
  k2 (.bool false)) fun t14 =>
  xW t14
  (xI 50 p0 t5 fun t20 =>
  xL 3 t20 fun t21 =>
  xO .and 3 t21 (.int .i64 7) fun t22 =>
  xI 104 t3 t22 fun t23 =>
  xL 21 t23 fun t24 =>
  OpX Try.prog (.build 44 #[]) 44 fun t25 =>
  xC 68 [.const t24, .const t25] [21, 44] 45 fun t26 =>
  OpX Try.prog (.call { callee := .builtin .append, args := #[.const t4, .const t26], argTypes := #[45, 45] }) 45 fun t27 =>
  xO .add 3 t5 (.int .i64 1) fun t16 =>
  next1 t27 t16) <|
  K t4
theorem lyceumlaw10_letters_link (p0 : Value) : Lk 34 #[p0] (lyceumlaw10_letters p0) := lk [p0] [(10, [4, 5]), (13, [14])] Try.func34 (by kernel_rfl) fun _ _ => by kernel_rfl
theorem lyceumlaw10_letters_b : Bodied Try.prog 34 := bd Try.func34 (by kernel_rfl)

end Go.Proofs.Ytdjdeahmhenchaa
