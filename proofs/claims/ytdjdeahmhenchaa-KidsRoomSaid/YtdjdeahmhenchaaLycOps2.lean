/-
  What single operations come to, rule by rule, for whatever program.
-/
import Derived.Test.YtdjdeahmhenchaaLycOps
set_option linter.unusedSimpArgs false
set_option linter.unusedVariables false
namespace Lyc
open Go
section
variable {P : Program}

/-- Four rules out of one run that changes no world. -/
structure PureRun (P : Program) (op : Op) (ty : TypeId) (v : Value) : Prop where
  run : ∀ ρ, Good ρ → ∀ w, (execOp ρ (mkOper op ty)).run P w = .ok (.value v) w
theorem PureRun.op {op : Op} {ty : TypeId} {v : Value} (h : PureRun P op ty v) (K : Value → World → Prop) (w : World) : OpX P op ty K w = K v w := OpX_ok fun ρ hg => h.run ρ hg w
theorem PureRun.pur {op : Op} {ty : TypeId} {v : Value} (h : PureRun P op ty v) (K : Value → Prop) : PurX P op ty K () = K v := PurX_ok h.run
theorem PureRun.rd {op : Op} {ty : TypeId} {v : Value} (h : PureRun P op ty v) (K : Value → Prop) (w : World) : RdX P op ty K w = K v := RdX_ok fun ρ hg => h.run ρ hg w
theorem PureRun.yld {op : Op} {ty : TypeId} {v : Value} (h : PureRun P op ty v) (u : Value) (w : World) : Yld P op ty u w = (u = v) := Yld_ok fun ρ hg => h.run ρ hg w

structure PureBin (P : Program) (op : BinOp) (t : TypeId) (a b v : Value) : Prop where
  run : ∀ x y w, (binS op t a b x y).run P w = .ok (.value v) w
theorem PureBin.op {op : BinOp} {t : TypeId} {a b v : Value} (h : PureBin P op t a b v) (K : Value → World → Prop) (w : World) : BinX P op t a b K w = K v w := BinX_ok fun x y => h.run x y w
theorem PureBin.pur {op : BinOp} {t : TypeId} {a b v : Value} (h : PureBin P op t a b v) (K : Value → Prop) : PurB P op t a b K () = K v := PurB_ok h.run
theorem PureBin.rd {op : BinOp} {t : TypeId} {a b v : Value} (h : PureBin P op t a b v) (K : Value → Prop) (w : World) : RdB P op t a b K w = K v := RdB_ok fun x y => h.run x y w
theorem PureBin.yld {op : BinOp} {t : TypeId} {a b v : Value} (h : PureBin P op t a b v) (u : Value) (w : World) : YldB P op t a b u w = (u = v) := YldB_ok fun x y => h.run x y w

/-! ### Numbers -/
theorem binS_int (op : BinOp) (t : TypeId) (k k' : IntKind) (a b : Int) (x y : Operand) : binS op t (.int k a) (.int k' b) x y = (do return Next.value (← binOp op t (.int k a) (.int k' b))) := by
  cases op <;> rfl
theorem r_arith (op : BinOp) (t : TypeId) (k : IntKind) (a b n : Int) (h : binOp op t (.int k a) (.int k b) = pure (.int k n)) : PureBin P op t (.int k a) (.int k b) (.int k n) :=
  ⟨fun x y w => by rw [binS_int, h]; rfl⟩
theorem r_cmp (op : BinOp) (t : TypeId) (k : IntKind) (a b : Int) (c : Bool) (h : binOp op t (.int k a) (.int k b) = pure (.bool c)) : PureBin P op t (.int k a) (.int k b) (.bool c) :=
  ⟨fun x y w => by rw [binS_int, h]; rfl⟩
theorem bo_add (t : TypeId) (k : IntKind) (a b : Int) : binOp .add t (.int k a) (.int k b) = pure (.int k (k.wrap (a + b))) := by simp [binOp, Op.intArith]
theorem bo_sub (t : TypeId) (k : IntKind) (a b : Int) : binOp .sub t (.int k a) (.int k b) = pure (.int k (k.wrap (a - b))) := by simp [binOp, Op.intArith]
theorem bo_mul (t : TypeId) (k : IntKind) (a b : Int) : binOp .mul t (.int k a) (.int k b) = pure (.int k (k.wrap (a * b))) := by simp [binOp, Op.intArith]
theorem bo_quo (t : TypeId) (k : IntKind) (a b : Int) (h : b ≠ 0) : binOp .quo t (.int k a) (.int k b) = pure (.int k (k.wrap (a.tdiv b))) := by simp [binOp, Op.intDiv, h]
theorem bo_rem (t : TypeId) (k : IntKind) (a b : Int) (h : b ≠ 0) : binOp .rem t (.int k a) (.int k b) = pure (.int k (a.tmod b)) := by simp [binOp, Op.intDiv, h]
def bitV (op : BinOp) (k : IntKind) (a b : Int) : Int :=
  k.wrap (match op with | .and => (BitVec.ofInt k.bits a &&& BitVec.ofInt k.bits b).toNat | .or => (BitVec.ofInt k.bits a ||| BitVec.ofInt k.bits b).toNat | .xor => (BitVec.ofInt k.bits a ^^^ BitVec.ofInt k.bits b).toNat | _ => (BitVec.ofInt k.bits a &&& ~~~BitVec.ofInt k.bits b).toNat)
theorem bo_and (t : TypeId) (k : IntKind) (a b : Int) : binOp .and t (.int k a) (.int k b) = pure (.int k (bitV .and k a b)) := by simp [binOp, Op.intBits, bitV]
theorem bo_or (t : TypeId) (k : IntKind) (a b : Int) : binOp .or t (.int k a) (.int k b) = pure (.int k (bitV .or k a b)) := by simp [binOp, Op.intBits, bitV]
theorem bo_xor (t : TypeId) (k : IntKind) (a b : Int) : binOp .xor t (.int k a) (.int k b) = pure (.int k (bitV .xor k a b)) := by simp [binOp, Op.intBits, bitV]
theorem bo_andNot (t : TypeId) (k : IntKind) (a b : Int) : binOp .andNot t (.int k a) (.int k b) = pure (.int k (bitV .andNot k a b)) := by simp [binOp, Op.intBits, bitV]
theorem bo_shl (t : TypeId) (k k' : IntKind) (a b : Int) (h : 0 ≤ b) : binOp .shl t (.int k a) (.int k' b) = pure (.int k (k.wrap (a * 2 ^ (min b.toNat k.bits)))) := by
  have : ¬ b < 0 := by omega
  simp [binOp, Op.shift, this]
theorem bo_shr (t : TypeId) (k k' : IntKind) (a b : Int) (h : 0 ≤ b) : binOp .shr t (.int k a) (.int k' b) = pure (.int k (a.fdiv (2 ^ (min b.toNat k.bits)))) := by
  have : ¬ b < 0 := by omega
  simp [binOp, Op.shift, this]
theorem bo_lss (t : TypeId) (k : IntKind) (a b : Int) : binOp .lss t (.int k a) (.int k b) = pure (.bool (decide (a < b))) := by simp [binOp, Op.intCmp]
theorem bo_leq (t : TypeId) (k : IntKind) (a b : Int) : binOp .leq t (.int k a) (.int k b) = pure (.bool (decide (a ≤ b))) := by simp [binOp, Op.intCmp]
theorem bo_gtr (t : TypeId) (k : IntKind) (a b : Int) : binOp .gtr t (.int k a) (.int k b) = pure (.bool (decide (b < a))) := by simp [binOp, Op.intCmp]
theorem bo_geq (t : TypeId) (k : IntKind) (a b : Int) : binOp .geq t (.int k a) (.int k b) = pure (.bool (decide (b ≤ a))) := by simp [binOp, Op.intCmp]
theorem bo_eql (t : TypeId) (k : IntKind) (a b : Int) : binOp .eql t (.int k a) (.int k b) = pure (.bool (decide (a = b))) := by simp [binOp, Op.intCmp]; rfl
theorem bo_neq (t : TypeId) (k : IntKind) (a b : Int) : binOp .neq t (.int k a) (.int k b) = pure (.bool (decide (a ≠ b))) := by simp [binOp, Op.intCmp]; rfl
@[go_sem] theorem x_add (t : TypeId) (k : IntKind) (a b : Int) (K : Value → World → Prop) (w : World) : BinX P .add t (.int k a) (.int k b) K w = K (.int k (k.wrap (a + b))) w := (r_arith _ t k a b _ (bo_add t k a b)).op K w
@[go_sem] theorem p_add (t : TypeId) (k : IntKind) (a b : Int) (K : Value → Prop) : PurB P .add t (.int k a) (.int k b) K () = K (.int k (k.wrap (a + b))) := (r_arith _ t k a b _ (bo_add t k a b)).pur K
@[go_sem] theorem x_sub (t : TypeId) (k : IntKind) (a b : Int) (K : Value → World → Prop) (w : World) : BinX P .sub t (.int k a) (.int k b) K w = K (.int k (k.wrap (a - b))) w := (r_arith _ t k a b _ (bo_sub t k a b)).op K w
@[go_sem] theorem p_sub (t : TypeId) (k : IntKind) (a b : Int) (K : Value → Prop) : PurB P .sub t (.int k a) (.int k b) K () = K (.int k (k.wrap (a - b))) := (r_arith _ t k a b _ (bo_sub t k a b)).pur K
@[go_sem] theorem x_mul (t : TypeId) (k : IntKind) (a b : Int) (K : Value → World → Prop) (w : World) : BinX P .mul t (.int k a) (.int k b) K w = K (.int k (k.wrap (a * b))) w := (r_arith _ t k a b _ (bo_mul t k a b)).op K w
@[go_sem] theorem p_mul (t : TypeId) (k : IntKind) (a b : Int) (K : Value → Prop) : PurB P .mul t (.int k a) (.int k b) K () = K (.int k (k.wrap (a * b))) := (r_arith _ t k a b _ (bo_mul t k a b)).pur K
@[go_sem] theorem x_and (t : TypeId) (k : IntKind) (a b : Int) (K : Value → World → Prop) (w : World) : BinX P .and t (.int k a) (.int k b) K w = K (.int k (bitV .and k a b)) w := (r_arith _ t k a b _ (bo_and t k a b)).op K w
@[go_sem] theorem p_and (t : TypeId) (k : IntKind) (a b : Int) (K : Value → Prop) : PurB P .and t (.int k a) (.int k b) K () = K (.int k (bitV .and k a b)) := (r_arith _ t k a b _ (bo_and t k a b)).pur K
@[go_sem] theorem x_or (t : TypeId) (k : IntKind) (a b : Int) (K : Value → World → Prop) (w : World) : BinX P .or t (.int k a) (.int k b) K w = K (.int k (bitV .or k a b)) w := (r_arith _ t k a b _ (bo_or t k a b)).op K w
@[go_sem] theorem p_or (t : TypeId) (k : IntKind) (a b : Int) (K : Value → Prop) : PurB P .or t (.int k a) (.int k b) K () = K (.int k (bitV .or k a b)) := (r_arith _ t k a b _ (bo_or t k a b)).pur K
@[go_sem] theorem x_xor (t : TypeId) (k : IntKind) (a b : Int) (K : Value → World → Prop) (w : World) : BinX P .xor t (.int k a) (.int k b) K w = K (.int k (bitV .xor k a b)) w := (r_arith _ t k a b _ (bo_xor t k a b)).op K w
@[go_sem] theorem p_xor (t : TypeId) (k : IntKind) (a b : Int) (K : Value → Prop) : PurB P .xor t (.int k a) (.int k b) K () = K (.int k (bitV .xor k a b)) := (r_arith _ t k a b _ (bo_xor t k a b)).pur K
@[go_sem] theorem x_andNot (t : TypeId) (k : IntKind) (a b : Int) (K : Value → World → Prop) (w : World) : BinX P .andNot t (.int k a) (.int k b) K w = K (.int k (bitV .andNot k a b)) w := (r_arith _ t k a b _ (bo_andNot t k a b)).op K w
@[go_sem] theorem p_andNot (t : TypeId) (k : IntKind) (a b : Int) (K : Value → Prop) : PurB P .andNot t (.int k a) (.int k b) K () = K (.int k (bitV .andNot k a b)) := (r_arith _ t k a b _ (bo_andNot t k a b)).pur K
@[go_sem] theorem x_quo (t : TypeId) (k : IntKind) (a b : Int) (K : Value → World → Prop) (w : World) (h : b ≠ 0) : BinX P .quo t (.int k a) (.int k b) K w = K (.int k (k.wrap (a.tdiv b))) w := (r_arith _ t k a b _ (bo_quo t k a b h)).op K w
@[go_sem] theorem p_quo (t : TypeId) (k : IntKind) (a b : Int) (K : Value → Prop) (h : b ≠ 0) : PurB P .quo t (.int k a) (.int k b) K () = K (.int k (k.wrap (a.tdiv b))) := (r_arith _ t k a b _ (bo_quo t k a b h)).pur K
@[go_sem] theorem x_rem (t : TypeId) (k : IntKind) (a b : Int) (K : Value → World → Prop) (w : World) (h : b ≠ 0) : BinX P .rem t (.int k a) (.int k b) K w = K (.int k (a.tmod b)) w := (r_arith _ t k a b _ (bo_rem t k a b h)).op K w
@[go_sem] theorem p_rem (t : TypeId) (k : IntKind) (a b : Int) (K : Value → Prop) (h : b ≠ 0) : PurB P .rem t (.int k a) (.int k b) K () = K (.int k (a.tmod b)) := (r_arith _ t k a b _ (bo_rem t k a b h)).pur K
theorem r_shl (t : TypeId) (k k' : IntKind) (a b : Int) (h : 0 ≤ b) : PureBin P .shl t (.int k a) (.int k' b) (.int k (k.wrap (a * 2 ^ (min b.toNat k.bits)))) := ⟨fun x y w => by rw [binS_int, bo_shl t k k' a b h]; rfl⟩
@[go_sem] theorem x_shl (t : TypeId) (k k' : IntKind) (a b : Int) (K : Value → World → Prop) (w : World) (h : 0 ≤ b) : BinX P .shl t (.int k a) (.int k' b) K w = K (.int k (k.wrap (a * 2 ^ (min b.toNat k.bits)))) w := (r_shl t k k' a b h).op K w
@[go_sem] theorem p_shl (t : TypeId) (k k' : IntKind) (a b : Int) (K : Value → Prop) (h : 0 ≤ b) : PurB P .shl t (.int k a) (.int k' b) K () = K (.int k (k.wrap (a * 2 ^ (min b.toNat k.bits)))) := (r_shl t k k' a b h).pur K
theorem r_shr (t : TypeId) (k k' : IntKind) (a b : Int) (h : 0 ≤ b) : PureBin P .shr t (.int k a) (.int k' b) (.int k (a.fdiv (2 ^ (min b.toNat k.bits)))) := ⟨fun x y w => by rw [binS_int, bo_shr t k k' a b h]; rfl⟩
@[go_sem] theorem x_shr (t : TypeId) (k k' : IntKind) (a b : Int) (K : Value → World → Prop) (w : World) (h : 0 ≤ b) : BinX P .shr t (.int k a) (.int k' b) K w = K (.int k (a.fdiv (2 ^ (min b.toNat k.bits)))) w := (r_shr t k k' a b h).op K w
@[go_sem] theorem p_shr (t : TypeId) (k k' : IntKind) (a b : Int) (K : Value → Prop) (h : 0 ≤ b) : PurB P .shr t (.int k a) (.int k' b) K () = K (.int k (a.fdiv (2 ^ (min b.toNat k.bits)))) := (r_shr t k k' a b h).pur K
@[go_sem] theorem x_lss (t : TypeId) (k : IntKind) (a b : Int) (K : Value → World → Prop) (w : World) : BinX P .lss t (.int k a) (.int k b) K w = K (.bool (decide (a < b))) w := (r_cmp _ t k a b _ (bo_lss t k a b)).op K w
@[go_sem] theorem p_lss (t : TypeId) (k : IntKind) (a b : Int) (K : Value → Prop) : PurB P .lss t (.int k a) (.int k b) K () = K (.bool (decide (a < b))) := (r_cmp _ t k a b _ (bo_lss t k a b)).pur K
@[go_sem] theorem x_leq (t : TypeId) (k : IntKind) (a b : Int) (K : Value → World → Prop) (w : World) : BinX P .leq t (.int k a) (.int k b) K w = K (.bool (decide (a ≤ b))) w := (r_cmp _ t k a b _ (bo_leq t k a b)).op K w
@[go_sem] theorem p_leq (t : TypeId) (k : IntKind) (a b : Int) (K : Value → Prop) : PurB P .leq t (.int k a) (.int k b) K () = K (.bool (decide (a ≤ b))) := (r_cmp _ t k a b _ (bo_leq t k a b)).pur K
@[go_sem] theorem x_gtr (t : TypeId) (k : IntKind) (a b : Int) (K : Value → World → Prop) (w : World) : BinX P .gtr t (.int k a) (.int k b) K w = K (.bool (decide (b < a))) w := (r_cmp _ t k a b _ (bo_gtr t k a b)).op K w
@[go_sem] theorem p_gtr (t : TypeId) (k : IntKind) (a b : Int) (K : Value → Prop) : PurB P .gtr t (.int k a) (.int k b) K () = K (.bool (decide (b < a))) := (r_cmp _ t k a b _ (bo_gtr t k a b)).pur K
@[go_sem] theorem x_geq (t : TypeId) (k : IntKind) (a b : Int) (K : Value → World → Prop) (w : World) : BinX P .geq t (.int k a) (.int k b) K w = K (.bool (decide (b ≤ a))) w := (r_cmp _ t k a b _ (bo_geq t k a b)).op K w
@[go_sem] theorem p_geq (t : TypeId) (k : IntKind) (a b : Int) (K : Value → Prop) : PurB P .geq t (.int k a) (.int k b) K () = K (.bool (decide (b ≤ a))) := (r_cmp _ t k a b _ (bo_geq t k a b)).pur K
@[go_sem] theorem x_eql (t : TypeId) (k : IntKind) (a b : Int) (K : Value → World → Prop) (w : World) : BinX P .eql t (.int k a) (.int k b) K w = K (.bool (decide (a = b))) w := (r_cmp _ t k a b _ (bo_eql t k a b)).op K w
@[go_sem] theorem q_eql (t : TypeId) (k : IntKind) (a b : Int) (K : Value → Prop) (w : World) : RdB P .eql t (.int k a) (.int k b) K w = K (.bool (decide (a = b))) := (r_cmp _ t k a b _ (bo_eql t k a b)).rd K w
@[go_sem] theorem y_eql (t : TypeId) (k : IntKind) (a b : Int) (u : Value) (w : World) : YldB P .eql t (.int k a) (.int k b) u w = (u = .bool (decide (a = b))) := (r_cmp _ t k a b _ (bo_eql t k a b)).yld u w
@[go_sem] theorem x_neq (t : TypeId) (k : IntKind) (a b : Int) (K : Value → World → Prop) (w : World) : BinX P .neq t (.int k a) (.int k b) K w = K (.bool (decide (a ≠ b))) w := (r_cmp _ t k a b _ (bo_neq t k a b)).op K w
@[go_sem] theorem q_neq (t : TypeId) (k : IntKind) (a b : Int) (K : Value → Prop) (w : World) : RdB P .neq t (.int k a) (.int k b) K w = K (.bool (decide (a ≠ b))) := (r_cmp _ t k a b _ (bo_neq t k a b)).rd K w
@[go_sem] theorem y_neq (t : TypeId) (k : IntKind) (a b : Int) (u : Value) (w : World) : YldB P .neq t (.int k a) (.int k b) u w = (u = .bool (decide (a ≠ b))) := (r_cmp _ t k a b _ (bo_neq t k a b)).yld u w

/-! ### Numbers that fit -/
@[go_sem] theorem wrap_i64 (n : Int) (h1 : -9223372036854775808 ≤ n) (h2 : n ≤ 9223372036854775807) : IntKind.i64.wrap n = n := by
  simp only [IntKind.wrap, IntKind.bits, IntKind.signed, Bool.true_and, Bool.false_and, decide_eq_true_eq, ge_iff_le, Bool.false_eq_true, if_false]; first | (split <;> omega) | omega
@[go_sem] theorem wrap_i32 (n : Int) (h1 : -2147483648 ≤ n) (h2 : n ≤ 2147483647) : IntKind.i32.wrap n = n := by
  simp only [IntKind.wrap, IntKind.bits, IntKind.signed, Bool.true_and, Bool.false_and, decide_eq_true_eq, ge_iff_le, Bool.false_eq_true, if_false]; first | (split <;> omega) | omega
@[go_sem] theorem wrap_u8 (n : Int) (h1 : 0 ≤ n) (h2 : n ≤ 255) : IntKind.u8.wrap n = n := by
  simp only [IntKind.wrap, IntKind.bits, IntKind.signed, Bool.true_and, Bool.false_and, decide_eq_true_eq, ge_iff_le, Bool.false_eq_true, if_false]; first | (split <;> omega) | omega
@[go_sem] theorem wrap_u32 (n : Int) (h1 : 0 ≤ n) (h2 : n ≤ 4294967295) : IntKind.u32.wrap n = n := by
  simp only [IntKind.wrap, IntKind.bits, IntKind.signed, Bool.true_and, Bool.false_and, decide_eq_true_eq, ge_iff_le, Bool.false_eq_true, if_false]; first | (split <;> omega) | omega
@[go_sem] theorem wrap_u64 (n : Int) (h1 : 0 ≤ n) (h2 : n ≤ 18446744073709551615) : IntKind.u64.wrap n = n := by
  simp only [IntKind.wrap, IntKind.bits, IntKind.signed, Bool.true_and, Bool.false_and, decide_eq_true_eq, ge_iff_le, Bool.false_eq_true, if_false]; first | (split <;> omega) | omega

/-! ### Other operators -/
theorem tkind_4 {t : TypeId} (h : tkind P t = some 4) : ∃ e, P.underlying t = some (.pointer e) := by
  unfold tkind at h
  cases hu : P.underlying t with
  | none => rw [hu] at h; simp at h
  | some d => rw [hu] at h; cases d <;> simp at h; exact ⟨_, rfl⟩
theorem tkind_6 {t : TypeId} (h : tkind P t = some 6) : ∃ d e, P.underlying t = some (.chan d e) := by
  unfold tkind at h
  cases hu : P.underlying t with
  | none => rw [hu] at h; simp at h
  | some d => rw [hu] at h; cases d <;> simp at h; exact ⟨_, _, rfl⟩
theorem tkind_1 {t : TypeId} (h : tkind P t = some 1) : ∃ e, P.underlying t = some (.slice e) := by
  unfold tkind at h
  cases hu : P.underlying t with
  | none => rw [hu] at h; simp at h
  | some d => rw [hu] at h; cases d <;> simp at h; exact ⟨_, rfl⟩
theorem tkind_5 {t : TypeId} (h : tkind P t = some 5) : ∃ k e, P.underlying t = some (.map k e) := by
  unfold tkind at h
  cases hu : P.underlying t with
  | none => rw [hu] at h; simp at h
  | some d => rw [hu] at h; cases d <;> simp at h; exact ⟨_, _, rfl⟩
theorem tkind_3 {t : TypeId} (h : tkind P t = some 3) : P.underlying t = some .string := by
  unfold tkind at h
  cases hu : P.underlying t with
  | none => rw [hu] at h; simp at h
  | some d => rw [hu] at h; cases d <;> simp at h; rfl
theorem tkind_9 {t : TypeId} (h : tkind P t = some 9) : P.underlying t = some .bool := by
  unfold tkind at h
  cases hu : P.underlying t with
  | none => rw [hu] at h; simp at h
  | some d => rw [hu] at h; cases d <;> simp at h; rfl

/-- '==' and '!=' of two values of a type that is compared by 'equal', no two nil interfaces among them. -/
theorem r_equal {t : TypeId} {a b : Value} {c : Bool} (ha : ∀ x y, eqGuard .eql t x y a b = pure ()) (hb : binOp .eql t a b = (do pure (.bool (← Op.equal t a b)))) (h : ∀ w, (Op.equal t a b).run P w = .ok c w) : PureBin P .eql t a b (.bool c) :=
  ⟨fun x y w => by unfold binS; rw [ha, hb]; simp [h]⟩
theorem r_nequal {t : TypeId} {a b : Value} {c : Bool} (ha : ∀ x y, eqGuard .neq t x y a b = pure ()) (hb : binOp .neq t a b = (do pure (.bool (!(← Op.equal t a b))))) (h : ∀ w, (Op.equal t a b).run P w = .ok c w) : PureBin P .neq t a b (.bool (!c)) :=
  ⟨fun x y w => by unfold binS; rw [ha, hb]; simp [h]⟩
theorem eq_ptr_nil {t : TypeId} (h : tkind P t = some 4) (p : Option Addr) (w : World) : (Op.equal t (.pointer p) (.pointer none)).run P w = .ok p.isNone w := by
  obtain ⟨e, he⟩ := tkind_4 h
  unfold Op.equal Op.maxDepth Op.equalIn
  cases p <;> simp [run_underlying he]
theorem eq_chan {t : TypeId} (h : tkind P t = some 6) (p q : Option Nat) (w : World) : (Op.equal t (.chan p) (.chan q)).run P w = .ok (p == q) w := by
  obtain ⟨d, e, he⟩ := tkind_6 h
  unfold Op.equal Op.maxDepth Op.equalIn
  simp [run_underlying he]
theorem eq_slice_nil {t : TypeId} (h : tkind P t = some 1) (p : Option Addr) (n c n' c' : Nat) (w : World) : (Op.equal t (.slice p n c) (.slice none n' c')).run P w = .ok p.isNone w := by
  obtain ⟨e, he⟩ := tkind_1 h
  unfold Op.equal Op.maxDepth Op.equalIn
  cases p <;> simp [run_underlying he]
theorem eq_map_nil {t : TypeId} (h : tkind P t = some 5) (p : Option Nat) (w : World) : (Op.equal t (.map p) (.map none)).run P w = .ok p.isNone w := by
  obtain ⟨k, e, he⟩ := tkind_5 h
  unfold Op.equal Op.maxDepth Op.equalIn
  cases p <;> simp [run_underlying he]
theorem eq_bool {t : TypeId} (h : tkind P t = some 9) (a b : Bool) (w : World) : (Op.equal t (.bool a) (.bool b)).run P w = .ok (a == b) w := by
  unfold Op.equal Op.maxDepth Op.equalIn
  simp [run_underlying (tkind_9 h)]
@[go_sem] theorem x_eql_ptr (t : TypeId) (p : Option Addr) (K : Value → World → Prop) (w : World) (h : tkind P t = some 4) : BinX P .eql t (.pointer p) (.pointer none) K w = K (.bool p.isNone) w := (r_equal (fun _ _ => rfl) rfl (fun w => eq_ptr_nil h p w)).op K w
@[go_sem] theorem x_neq_ptr (t : TypeId) (p : Option Addr) (K : Value → World → Prop) (w : World) (h : tkind P t = some 4) : BinX P .neq t (.pointer p) (.pointer none) K w = K (.bool (!p.isNone)) w := (r_nequal (fun _ _ => rfl) rfl (fun w => eq_ptr_nil h p w)).op K w
@[go_sem] theorem q_eql_ptr (t : TypeId) (p : Option Addr) (K : Value → Prop) (w : World) (h : tkind P t = some 4) : RdB P .eql t (.pointer p) (.pointer none) K w = K (.bool p.isNone) := (r_equal (fun _ _ => rfl) rfl (fun w => eq_ptr_nil h p w)).rd K w
@[go_sem] theorem q_neq_ptr (t : TypeId) (p : Option Addr) (K : Value → Prop) (w : World) (h : tkind P t = some 4) : RdB P .neq t (.pointer p) (.pointer none) K w = K (.bool (!p.isNone)) := (r_nequal (fun _ _ => rfl) rfl (fun w => eq_ptr_nil h p w)).rd K w
@[go_sem] theorem y_eql_ptr (t : TypeId) (p : Option Addr) (u : Value) (w : World) (h : tkind P t = some 4) : YldB P .eql t (.pointer p) (.pointer none) u w = (u = .bool p.isNone) := (r_equal (fun _ _ => rfl) rfl (fun w => eq_ptr_nil h p w)).yld u w
@[go_sem] theorem y_neq_ptr (t : TypeId) (p : Option Addr) (u : Value) (w : World) (h : tkind P t = some 4) : YldB P .neq t (.pointer p) (.pointer none) u w = (u = .bool (!p.isNone)) := (r_nequal (fun _ _ => rfl) rfl (fun w => eq_ptr_nil h p w)).yld u w
@[go_sem] theorem x_eql_chan (t : TypeId) (p q : Option Nat) (K : Value → World → Prop) (w : World) (h : tkind P t = some 6) : BinX P .eql t (.chan p) (.chan q) K w = K (.bool (p == q)) w := (r_equal (fun _ _ => rfl) rfl (fun w => eq_chan h p q w)).op K w
@[go_sem] theorem x_neq_chan (t : TypeId) (p q : Option Nat) (K : Value → World → Prop) (w : World) (h : tkind P t = some 6) : BinX P .neq t (.chan p) (.chan q) K w = K (.bool (!(p == q))) w := (r_nequal (fun _ _ => rfl) rfl (fun w => eq_chan h p q w)).op K w
@[go_sem] theorem q_eql_chan (t : TypeId) (p q : Option Nat) (K : Value → Prop) (w : World) (h : tkind P t = some 6) : RdB P .eql t (.chan p) (.chan q) K w = K (.bool (p == q)) := (r_equal (fun _ _ => rfl) rfl (fun w => eq_chan h p q w)).rd K w
@[go_sem] theorem q_neq_chan (t : TypeId) (p q : Option Nat) (K : Value → Prop) (w : World) (h : tkind P t = some 6) : RdB P .neq t (.chan p) (.chan q) K w = K (.bool (!(p == q))) := (r_nequal (fun _ _ => rfl) rfl (fun w => eq_chan h p q w)).rd K w
@[go_sem] theorem y_eql_chan (t : TypeId) (p q : Option Nat) (u : Value) (w : World) (h : tkind P t = some 6) : YldB P .eql t (.chan p) (.chan q) u w = (u = .bool (p == q)) := (r_equal (fun _ _ => rfl) rfl (fun w => eq_chan h p q w)).yld u w
@[go_sem] theorem y_neq_chan (t : TypeId) (p q : Option Nat) (u : Value) (w : World) (h : tkind P t = some 6) : YldB P .neq t (.chan p) (.chan q) u w = (u = .bool (!(p == q))) := (r_nequal (fun _ _ => rfl) rfl (fun w => eq_chan h p q w)).yld u w
@[go_sem] theorem x_eql_slice (t : TypeId) (p : Option Addr) (n c n' c' : Nat) (K : Value → World → Prop) (w : World) (h : tkind P t = some 1) : BinX P .eql t (.slice p n c) (.slice none n' c') K w = K (.bool p.isNone) w := (r_equal (fun _ _ => rfl) rfl (fun w => eq_slice_nil h p n c n' c' w)).op K w
@[go_sem] theorem x_neq_slice (t : TypeId) (p : Option Addr) (n c n' c' : Nat) (K : Value → World → Prop) (w : World) (h : tkind P t = some 1) : BinX P .neq t (.slice p n c) (.slice none n' c') K w = K (.bool (!p.isNone)) w := (r_nequal (fun _ _ => rfl) rfl (fun w => eq_slice_nil h p n c n' c' w)).op K w
@[go_sem] theorem q_eql_slice (t : TypeId) (p : Option Addr) (n c n' c' : Nat) (K : Value → Prop) (w : World) (h : tkind P t = some 1) : RdB P .eql t (.slice p n c) (.slice none n' c') K w = K (.bool p.isNone) := (r_equal (fun _ _ => rfl) rfl (fun w => eq_slice_nil h p n c n' c' w)).rd K w
@[go_sem] theorem q_neq_slice (t : TypeId) (p : Option Addr) (n c n' c' : Nat) (K : Value → Prop) (w : World) (h : tkind P t = some 1) : RdB P .neq t (.slice p n c) (.slice none n' c') K w = K (.bool (!p.isNone)) := (r_nequal (fun _ _ => rfl) rfl (fun w => eq_slice_nil h p n c n' c' w)).rd K w
@[go_sem] theorem y_eql_slice (t : TypeId) (p : Option Addr) (n c n' c' : Nat) (u : Value) (w : World) (h : tkind P t = some 1) : YldB P .eql t (.slice p n c) (.slice none n' c') u w = (u = .bool p.isNone) := (r_equal (fun _ _ => rfl) rfl (fun w => eq_slice_nil h p n c n' c' w)).yld u w
@[go_sem] theorem y_neq_slice (t : TypeId) (p : Option Addr) (n c n' c' : Nat) (u : Value) (w : World) (h : tkind P t = some 1) : YldB P .neq t (.slice p n c) (.slice none n' c') u w = (u = .bool (!p.isNone)) := (r_nequal (fun _ _ => rfl) rfl (fun w => eq_slice_nil h p n c n' c' w)).yld u w
@[go_sem] theorem x_eql_map (t : TypeId) (p : Option Nat) (K : Value → World → Prop) (w : World) (h : tkind P t = some 5) : BinX P .eql t (.map p) (.map none) K w = K (.bool p.isNone) w := (r_equal (fun _ _ => rfl) rfl (fun w => eq_map_nil h p w)).op K w
@[go_sem] theorem x_neq_map (t : TypeId) (p : Option Nat) (K : Value → World → Prop) (w : World) (h : tkind P t = some 5) : BinX P .neq t (.map p) (.map none) K w = K (.bool (!p.isNone)) w := (r_nequal (fun _ _ => rfl) rfl (fun w => eq_map_nil h p w)).op K w
@[go_sem] theorem q_eql_map (t : TypeId) (p : Option Nat) (K : Value → Prop) (w : World) (h : tkind P t = some 5) : RdB P .eql t (.map p) (.map none) K w = K (.bool p.isNone) := (r_equal (fun _ _ => rfl) rfl (fun w => eq_map_nil h p w)).rd K w
@[go_sem] theorem q_neq_map (t : TypeId) (p : Option Nat) (K : Value → Prop) (w : World) (h : tkind P t = some 5) : RdB P .neq t (.map p) (.map none) K w = K (.bool (!p.isNone)) := (r_nequal (fun _ _ => rfl) rfl (fun w => eq_map_nil h p w)).rd K w
@[go_sem] theorem y_eql_map (t : TypeId) (p : Option Nat) (u : Value) (w : World) (h : tkind P t = some 5) : YldB P .eql t (.map p) (.map none) u w = (u = .bool p.isNone) := (r_equal (fun _ _ => rfl) rfl (fun w => eq_map_nil h p w)).yld u w
@[go_sem] theorem y_neq_map (t : TypeId) (p : Option Nat) (u : Value) (w : World) (h : tkind P t = some 5) : YldB P .neq t (.map p) (.map none) u w = (u = .bool (!p.isNone)) := (r_nequal (fun _ _ => rfl) rfl (fun w => eq_map_nil h p w)).yld u w
@[go_sem] theorem x_eql_bool (t : TypeId) (a b : Bool) (K : Value → World → Prop) (w : World) (h : tkind P t = some 9) : BinX P .eql t (.bool a) (.bool b) K w = K (.bool (a == b)) w := (r_equal (fun _ _ => rfl) rfl (fun w => eq_bool h a b w)).op K w
@[go_sem] theorem x_neq_bool (t : TypeId) (a b : Bool) (K : Value → World → Prop) (w : World) (h : tkind P t = some 9) : BinX P .neq t (.bool a) (.bool b) K w = K (.bool (!(a == b))) w := (r_nequal (fun _ _ => rfl) rfl (fun w => eq_bool h a b w)).op K w
@[go_sem] theorem q_eql_bool (t : TypeId) (a b : Bool) (K : Value → Prop) (w : World) (h : tkind P t = some 9) : RdB P .eql t (.bool a) (.bool b) K w = K (.bool (a == b)) := (r_equal (fun _ _ => rfl) rfl (fun w => eq_bool h a b w)).rd K w
@[go_sem] theorem q_neq_bool (t : TypeId) (a b : Bool) (K : Value → Prop) (w : World) (h : tkind P t = some 9) : RdB P .neq t (.bool a) (.bool b) K w = K (.bool (!(a == b))) := (r_nequal (fun _ _ => rfl) rfl (fun w => eq_bool h a b w)).rd K w
@[go_sem] theorem y_eql_bool (t : TypeId) (a b : Bool) (u : Value) (w : World) (h : tkind P t = some 9) : YldB P .eql t (.bool a) (.bool b) u w = (u = .bool (a == b)) := (r_equal (fun _ _ => rfl) rfl (fun w => eq_bool h a b w)).yld u w
@[go_sem] theorem y_neq_bool (t : TypeId) (a b : Bool) (u : Value) (w : World) (h : tkind P t = some 9) : YldB P .neq t (.bool a) (.bool b) u w = (u = .bool (!(a == b))) := (r_nequal (fun _ _ => rfl) rfl (fun w => eq_bool h a b w)).yld u w
theorem r_str_eql (t : TypeId) (a b : ByteArray) : PureBin P .eql t (.string a) (.string b) (.bool (a.toList == b.toList)) := ⟨fun x y w => by simp [binS, eqGuard, binOp, Op.stringOp]⟩
theorem r_str_neq (t : TypeId) (a b : ByteArray) : PureBin P .neq t (.string a) (.string b) (.bool (!(a.toList == b.toList))) := ⟨fun x y w => by simp [binS, eqGuard, binOp, Op.stringOp]⟩
@[go_sem] theorem x_eql_str (t : TypeId) (a b : ByteArray) (K : Value → World → Prop) (w : World) : BinX P .eql t (.string a) (.string b) K w = K (.bool (a.toList == b.toList)) w := (r_str_eql t a b).op K w
@[go_sem] theorem x_neq_str (t : TypeId) (a b : ByteArray) (K : Value → World → Prop) (w : World) : BinX P .neq t (.string a) (.string b) K w = K (.bool (!(a.toList == b.toList))) w := (r_str_neq t a b).op K w
@[go_sem] theorem q_eql_str (t : TypeId) (a b : ByteArray) (K : Value → Prop) (w : World) : RdB P .eql t (.string a) (.string b) K w = K (.bool (a.toList == b.toList)) := (r_str_eql t a b).rd K w
@[go_sem] theorem q_neq_str (t : TypeId) (a b : ByteArray) (K : Value → Prop) (w : World) : RdB P .neq t (.string a) (.string b) K w = K (.bool (!(a.toList == b.toList))) := (r_str_neq t a b).rd K w
@[go_sem] theorem y_eql_str (t : TypeId) (a b : ByteArray) (u : Value) (w : World) : YldB P .eql t (.string a) (.string b) u w = (u = .bool (a.toList == b.toList)) := (r_str_eql t a b).yld u w
@[go_sem] theorem y_neq_str (t : TypeId) (a b : ByteArray) (u : Value) (w : World) : YldB P .neq t (.string a) (.string b) u w = (u = .bool (!(a.toList == b.toList))) := (r_str_neq t a b).yld u w
end
end Lyc
