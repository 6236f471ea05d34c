/- Written by a program (gen.py): functions of the translation as transformers, with the link to Calls. -/
import Derived.Test.YtdjdeahmhenchaaLycDef
import Derived.Test.YtdjdeahmhenchaaLycTy
import Derived.Test.YtdjdeahmhenchaaW0
set_option linter.unusedSimpArgs false
set_option linter.unusedVariables false
namespace Go.Proofs.Ytdjdeahmhenchaa
open Lyc Go
set_option maxRecDepth 100000

/- (*lyceum/queue.Queue).Pop -/
def queue_Queue_Pop (p0 : Value) (K : Value → World → Prop) : World → Prop :=
  xA 29 fun t2 =>
  xC 60 [.const p0] [24] 4 fun t6 =>
  xW t6
  (OpX Try.prog (.build 29 #[]) 29 fun t7 =>
  xS 29 t2 t7 <|
  xD 29 t2 fun t2_1 =>
  K (.tuple #[t2_1, (.bool false)])) <|
  OpX Try.prog (.nilCheck (.const p0)) 0 fun t9 =>
  xF 86 t9 0 fun t10 =>
  xL 84 t10 fun t11 =>
  OpX Try.prog (.select #[{ chan := .const t11, send := none, elem := 29 }] false) 0 fun t12 =>
  xE t12 0 3 fun t13 =>
  xO .eql 3 t13 (.int .i64 0) fun t14 =>
  xW t14
  (xE t12 2 29 fun t16 =>
  xA 29 fun t4 =>
  xS 29 t4 t16 <|
  xL 29 t4 fun t17 =>
  xS 29 t2 t17 <|
  xD 29 t2 fun t2_2 =>
  K (.tuple #[t2_2, (.bool true)])) <|
  OpX Try.prog (.build 29 #[]) 29 fun t15 =>
  xS 29 t2 t15 <|
  xD 29 t2 fun t2_3 =>
  K (.tuple #[t2_3, (.bool false)])
theorem queue_Queue_Pop_link (p0 : Value) : Lk 17 #[p0] (queue_Queue_Pop p0) := lk [p0] [] Try.func17 (by kernel_rfl) fun _ _ => by kernel_rfl
theorem queue_Queue_Pop_b : Bodied Try.prog 17 := bd Try.func17 (by kernel_rfl)

/- (*lyceum/queue.Queue).Want -/
def queue_Queue_Want (p0 : Value) (K : Value → World → Prop) : World → Prop :=
  xC 60 [.const p0] [24] 4 fun t3 =>
  xW t3
  (K (.tuple #[])) <|
  xC 61 [.const p0] [24] 0 fun _ =>
  OpX Try.prog (.nilCheck (.const p0)) 0 fun t7 =>
  xF 86 t7 1 fun t8 =>
  xS 4 t8 (.bool true) <|
  K (.tuple #[])
theorem queue_Queue_Want_link (p0 : Value) : Lk 18 #[p0] (queue_Queue_Want p0) := lk [p0] [] Try.func18 (by kernel_rfl) fun _ _ => by kernel_rfl
theorem queue_Queue_Want_b : Bodied Try.prog 18 := bd Try.func18 (by kernel_rfl)

/- (*lyceum/queue.Queue).Push -/
def queue_Queue_Push (p0 p1 : Value) (K : Value → World → Prop) : World → Prop :=
  xB 29 p1 fun t3 =>
  Join1 (fun k1 =>
  xC 60 [.const p0] [24] 4 fun t6 =>
  xW t6
  (k1 (.bool true)) <|
  xL 29 t3 fun t8 =>
  xC 62 [.const t8] [29] 4 fun t9 =>
  xN 4 t9 fun t10 =>
  k1 t10) fun t11 =>
  xW t11
  (K (.bool false)) <|
  Join0 (fun k2 =>
  xF 29 t3 2 fun t12 =>
  xL 4 t12 fun t13 =>
  xW t13
  (xC 61 [.const p0] [24] 0 fun _ =>
  OpX Try.prog (.nilCheck (.const p0)) 0 fun t17 =>
  xF 86 t17 1 fun t18 =>
  xS 4 t18 (.bool false) <|
  k2) <|
  k2) <|
  OpX Try.prog (.nilCheck (.const p0)) 0 fun t20 =>
  xF 86 t20 1 fun t21 =>
  xL 4 t21 fun t22 =>
  xW t22
  (OpX Try.prog (.nilCheck (.const p0)) 0 fun t24 =>
  xF 86 t24 2 fun t25 =>
  xL 3 t25 fun t26 =>
  xO .add 3 t26 (.int .i64 1) fun t27 =>
  OpX Try.prog (.nilCheck (.const p0)) 0 fun t28 =>
  xF 86 t28 2 fun t29 =>
  xS 3 t29 t27 <|
  K (.bool false)) <|
  OpX Try.prog (.nilCheck (.const p0)) 0 fun t31 =>
  xF 86 t31 0 fun t32 =>
  xL 84 t32 fun t33 =>
  xL 29 t3 fun t34 =>
  OpX Try.prog (.select #[{ chan := .const t33, send := some (.const t34), elem := 29 }] false) 0 fun t35 =>
  xE t35 0 3 fun t36 =>
  xO .eql 3 t36 (.int .i64 0) fun t37 =>
  xW t37
  (K (.bool true)) <|
  xC 61 [.const p0] [24] 0 fun _ =>
  OpX Try.prog (.nilCheck (.const p0)) 0 fun t41 =>
  xF 86 t41 2 fun t42 =>
  xL 3 t42 fun t43 =>
  xO .add 3 t43 (.int .i64 1) fun t44 =>
  OpX Try.prog (.nilCheck (.const p0)) 0 fun t45 =>
  xF 86 t45 2 fun t46 =>
  xS 3 t46 t44 <|
  OpX Try.prog (.nilCheck (.const p0)) 0 fun t48 =>
  xF 86 t48 1 fun t49 =>
  xS 4 t49 (.bool true) <|
  K (.bool false)
theorem queue_Queue_Push_link (p0 p1 : Value) : Lk 19 #[p0, p1] (queue_Queue_Push p0 p1) := lk [p0, p1] [(4, [11]), (10, [])] Try.func19 (by kernel_rfl) fun _ _ => by kernel_rfl
theorem queue_Queue_Push_b : Bodied Try.prog 19 := bd Try.func19 (by kernel_rfl)

/- (*lyceum/queue.Queue).Len -/
def queue_Queue_Len (p0 : Value) (K : Value → World → Prop) : World → Prop :=
  xC 60 [.const p0] [24] 4 fun t4 =>
  xW t4
  (K (.int .i64 0)) <|
  OpX Try.prog (.nilCheck (.const p0)) 0 fun t6 =>
  xF 86 t6 0 fun t7 =>
  xL 84 t7 fun t8 =>
  xU t8 84 fun t9 =>
  K t9
theorem queue_Queue_Len_link (p0 : Value) : Lk 21 #[p0] (queue_Queue_Len p0) := lk [p0] [] Try.func21 (by kernel_rfl) fun _ _ => by kernel_rfl
theorem queue_Queue_Len_b : Bodied Try.prog 21 := bd Try.func21 (by kernel_rfl)

/- (*lyceum/queue.Queue).Needs -/
def queue_Queue_Needs (p0 : Value) (K : Value → World → Prop) : World → Prop :=
  Join1 (fun k1 =>
  xC 60 [.const p0] [24] 4 fun t4 =>
  xN 4 t4 fun t5 =>
  xW t5
  (OpX Try.prog (.nilCheck (.const p0)) 0 fun t8 =>
  xF 86 t8 1 fun t9 =>
  xL 4 t9 fun t10 =>
  k1 t10) <|
  k1 (.bool false)) fun t2 =>
  K t2
theorem queue_Queue_Needs_link (p0 : Value) : Lk 22 #[p0] (queue_Queue_Needs p0) := lk [p0] [(3, [2])] Try.func22 (by kernel_rfl) fun _ _ => by kernel_rfl
theorem queue_Queue_Needs_b : Bodied Try.prog 22 := bd Try.func22 (by kernel_rfl)

/- (*lyceum/queue.Queue).Dropped -/
def queue_Queue_Dropped (p0 : Value) (K : Value → World → Prop) : World → Prop :=
  xC 60 [.const p0] [24] 4 fun t4 =>
  xW t4
  (K (.int .i64 0)) <|
  OpX Try.prog (.nilCheck (.const p0)) 0 fun t6 =>
  xF 86 t6 2 fun t7 =>
  xL 3 t7 fun t8 =>
  K t8
theorem queue_Queue_Dropped_link (p0 : Value) : Lk 23 #[p0] (queue_Queue_Dropped p0) := lk [p0] [] Try.func23 (by kernel_rfl) fun _ _ => by kernel_rfl
theorem queue_Queue_Dropped_b : Bodied Try.prog 23 := bd Try.func23 (by kernel_rfl)

/- (*lyceum/queue.Queue).none -/
def queue_Queue_none (p0 : Value) (K : Value → World → Prop) : World → Prop :=
  Join1 (fun k1 =>
  xO .eql 24 p0 (.pointer none) fun t4 =>
  xW t4
  (k1 (.bool true)) <|
  OpX Try.prog (.nilCheck (.const p0)) 0 fun t7 =>
  xF 86 t7 0 fun t8 =>
  xL 84 t8 fun t9 =>
  xO .eql 84 t9 (.chan none) fun t10 =>
  k1 t10) fun t2 =>
  K t2
theorem queue_Queue_none_link (p0 : Value) : Lk 60 #[p0] (queue_Queue_none p0) := lk [p0] [(3, [2])] Try.func60 (by kernel_rfl) fun _ _ => by kernel_rfl
theorem queue_Queue_none_b : Bodied Try.prog 60 := bd Try.func60 (by kernel_rfl)

/- (*lyceum/queue.Queue).drop -/
def queue_Queue_drop (p0 : Value) (K : Value → World → Prop) : World → Prop :=
  Loop0 fun next1 =>
  OpX Try.prog (.nilCheck (.const p0)) 0 fun t3 =>
  xF 86 t3 0 fun t4 =>
  xL 84 t4 fun t5 =>
  OpX Try.prog (.select #[{ chan := .const t5, send := none, elem := 29 }] false) 0 fun t6 =>
  xE t6 0 3 fun t7 =>
  xO .eql 3 t7 (.int .i64 0) fun t8 =>
  xW t8
  (OpX Try.prog (.nilCheck (.const p0)) 0 fun t10 =>
  xF 86 t10 2 fun t11 =>
  xL 3 t11 fun t12 =>
  xO .add 3 t12 (.int .i64 1) fun t13 =>
  OpX Try.prog (.nilCheck (.const p0)) 0 fun t14 =>
  xF 86 t14 2 fun t15 =>
  xS 3 t15 t13 <|
  next1) <|
  K (.tuple #[])
theorem queue_Queue_drop_link (p0 : Value) : Lk 61 #[p0] (queue_Queue_drop p0) := lk [p0] [(1, [])] Try.func61 (by kernel_rfl) fun _ _ => by kernel_rfl
theorem queue_Queue_drop_b : Bodied Try.prog 61 := bd Try.func61 (by kernel_rfl)

/- lyceum/queue.New -/
def queue_New (p0 : Value) (K : Value → World → Prop) : World → Prop :=
  OpX Try.prog (.call { callee := .builtin .max, args := #[.const p0, .const (.int .i64 1)], argTypes := #[3, 3] }) 3 fun t4 =>
  OpX Try.prog (.call { callee := .builtin .min, args := #[.const t4, .const (.int .i64 8)], argTypes := #[3, 3] }) 3 fun t5 =>
  OpX Try.prog (.makeChan 84 (.const t5)) 84 fun t6 =>
  OpX Try.prog (.build 86 #[(0, .const t6), (1, .const (.bool true))]) 86 fun t7 =>
  OpX Try.prog (.box 86 (.const t7)) 24 fun t8 =>
  K t8
theorem queue_New_link (p0 : Value) : Lk 16 #[p0] (queue_New p0) := lk [p0] [] Try.func16 (by kernel_rfl) fun _ _ => by kernel_rfl
theorem queue_New_b : Bodied Try.prog 16 := bd Try.func16 (by kernel_rfl)

/- lyceum/frames.Check -/
def frames_Check (p0 : Value) (K : Value → World → Prop) : World → Prop :=
  xB 29 p0 fun t1 =>
  Join1 (fun k1 =>
  xF 29 t1 0 fun t3 =>
  xL 3 t3 fun t4 =>
  xO .geq 3 t4 (.int .i64 0) fun t5 =>
  xW t5
  (xF 29 t1 0 fun t7 =>
  xL 3 t7 fun t8 =>
  xO .leq 3 t8 (.int .i64 1073741824) fun t9 =>
  xW t9
  (xF 29 t1 1 fun t12 =>
  xL 3 t12 fun t13 =>
  xO .geq 3 t13 (.int .i64 0) fun t14 =>
  xW t14
  (xF 29 t1 1 fun t17 =>
  xL 3 t17 fun t18 =>
  xO .leq 3 t18 (.int .i64 1073741824) fun t19 =>
  k1 t19) <|
  k1 (.bool false)) <|
  k1 (.bool false)) <|
  k1 (.bool false)) fun t2 =>
  K t2
theorem frames_Check_link (p0 : Value) : Lk 62 #[p0] (frames_Check p0) := lk [p0] [(3, [2])] Try.func62 (by kernel_rfl) fun _ _ => by kernel_rfl
theorem frames_Check_b : Bodied Try.prog 62 := bd Try.func62 (by kernel_rfl)

end Go.Proofs.Ytdjdeahmhenchaa
