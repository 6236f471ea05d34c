/-
  What single operations come to: slices of slices and of strings, rows that are made, that grow, that are copied.
-/
import Derived.Test.YtdjdeahmhenchaaLycFrame
import Derived.Laws.OwnMore
set_option linter.unusedSimpArgs false
set_option linter.unusedVariables false
namespace Lyc
open Go
section
variable {P : Program}

attribute [go_sem] Int.cast_ofNat_Int beq_self_eq_true Bool.false_and Bool.true_and Bool.and_false Bool.and_true Bool.false_or Bool.true_or Bool.or_false Bool.or_true Bool.not_not
@[go_sem] theorem beq_t (b : Bool) : (b == true) = b := by cases b <;> rfl
@[go_sem] theorem beq_f (b : Bool) : (b == false) = !b := by cases b <;> rfl
@[go_sem] theorem t_beq (b : Bool) : (true == b) = b := by cases b <;> rfl
@[go_sem] theorem f_beq (b : Bool) : (false == b) = !b := by cases b <;> rfl
@[go_sem] theorem cast_lit0 : ((0 : Nat) : Int) = 0 := rfl
@[go_sem] theorem cast_lit1 : ((1 : Nat) : Int) = 1 := rfl

theorem and_bd (a m : Int) (h0 : 0 ≤ m) (h1 : m < 9223372036854775808) : 0 ≤ bitV .and .i64 a m ∧ bitV .and .i64 a m ≤ m := by
  have hm : (BitVec.ofInt 64 m).toNat = m.toNat := by rw [BitVec.toNat_ofInt]; congr 1; omega
  have h := Nat.and_le_right (n := (BitVec.ofInt 64 a).toNat) (m := m.toNat)
  have e : (BitVec.ofInt 64 a &&& BitVec.ofInt 64 m).toNat = (BitVec.ofInt 64 a).toNat &&& m.toNat := by rw [BitVec.toNat_and, hm]
  show 0 ≤ IntKind.i64.wrap ((BitVec.ofInt 64 a &&& BitVec.ofInt 64 m).toNat : Int) ∧ _ ≤ m
  rw [e, wrap_i64 _ (by omega) (by omega)]
  show _ ∧ IntKind.i64.wrap ((BitVec.ofInt 64 a &&& BitVec.ofInt 64 m).toNat : Int) ≤ m
  rw [e, wrap_i64 _ (by omega) (by omega)]
  omega
theorem tmod_bd (a n : Int) (h : 0 < n) : -n < a.tmod n ∧ a.tmod n < n := ⟨Int.lt_tmod_of_pos _ h, Int.tmod_lt_of_pos _ h⟩

/-! ### Slices -/
theorem tkind_1' {t : TypeId} (h : tkind P t = some 3) : P.underlying t = some .string := by
  unfold tkind at h
  cases hu : P.underlying t with
  | none => rw [hu] at h; simp at h
  | some d => rw [hu] at h; cases d <;> simp at h; rfl
theorem not_array_string {t : TypeId} (h : tkind P t = some 3) : ∀ ρ : Operand → Value, ∀ x lo hi mx, ∀ w, (Instr.sliceAt t (ρ x) lo hi mx).run P w = (Instr.slice t (ρ x) lo hi mx).run P w := by
  intro ρ x lo hi mx w
  simp [Instr.sliceAt, run_underlying (tkind_1' h)]
theorem r_slice_str_hi (t ty : TypeId) (s : ByteArray) (k : IntKind) (i : Int) (h : tkind P t = some 3) (h0 : 0 ≤ i) (h1 : i ≤ s.size) : PureRun P (.slice t (.const (.string s)) none (some (.const (.int k i))) none) ty (.string (s.extract 0 i.toNat)) := by
  refine ⟨fun ρ hg w => ?_⟩
  simp [execOp, mkOper, hg.1, Instr.sliceAt, Instr.slice, Instr.sliceBounds, Instr.sliceBound, asIntOf, run_underlying (tkind_1' h), h0, h1]
theorem r_slice_str_lo (t ty : TypeId) (s : ByteArray) (k : IntKind) (i : Int) (h : tkind P t = some 3) (h0 : 0 ≤ i) (h1 : i ≤ s.size) : PureRun P (.slice t (.const (.string s)) (some (.const (.int k i))) none none) ty (.string (s.extract i.toNat s.size)) := by
  refine ⟨fun ρ hg w => ?_⟩
  simp [execOp, mkOper, hg.1, Instr.sliceAt, Instr.slice, Instr.sliceBounds, Instr.sliceBound, asIntOf, run_underlying (tkind_1' h), h0, h1]
theorem r_slice_str_both (t ty : TypeId) (s : ByteArray) (k k' : IntKind) (i j : Int) (h : tkind P t = some 3) (h0 : 0 ≤ i) (h1 : i ≤ j) (h2 : j ≤ s.size) : PureRun P (.slice t (.const (.string s)) (some (.const (.int k i))) (some (.const (.int k' j))) none) ty (.string (s.extract i.toNat j.toNat)) := by
  refine ⟨fun ρ hg w => ?_⟩
  have h3 : 0 ≤ j := by omega
  have h4 : i ≤ (j.toNat : Int) := by omega
  simp [execOp, mkOper, hg.1, Instr.sliceAt, Instr.slice, Instr.sliceBounds, Instr.sliceBound, asIntOf, run_underlying (tkind_1' h), h0, h2, h3, h4]
  intro hc; exact absurd hc (by omega)

/-- Where a slice of a slice begins. -/
def slo (o cap l n : Nat) : Nat := if cap = l then o else o + l * n
theorem tslice_u {t : TypeId} {n : Nat} (h : tslice P t = some n) : ∃ e, P.underlying t = some (.slice e) ∧ tsize P e = some n := by
  unfold tslice at h
  cases hu : P.underlying t with
  | none => rw [hu] at h; simp at h
  | some d => rw [hu] at h; cases d <;> simp at h; exact ⟨_, rfl, h⟩
theorem slo_add (b o cap l n : Nat) : (if cap = l then some (⟨b, o, none⟩ : Addr) else some ((⟨b, o, none⟩ : Addr).add (l * n))) = some ⟨b, slo o cap l n, none⟩ := by
  unfold slo
  split
  · rfl
  · rw [add_mk]
theorem r_slice_hi (t ty : TypeId) (a : Option Addr) (len cap n : Nat) (k : IntKind) (i : Int) (h : tslice P t = some n) (h0 : 0 ≤ i) (h1 : i ≤ cap) : PureRun P (.slice t (.const (.slice a len cap)) none (some (.const (.int k i))) none) ty (.slice a i.toNat cap) := by
  obtain ⟨e, hu, hs⟩ := tslice_u h
  refine ⟨fun ρ hg w => ?_⟩
  cases a with
  | none => simp [execOp, mkOper, hg.1, Instr.sliceAt, Instr.slice, Instr.sliceBounds, Instr.sliceBound, asIntOf, run_underlying hu, run_size hs, h0, h1]
  | some a =>
    obtain ⟨b, o, sp⟩ := a
    simp [execOp, mkOper, hg.1, Instr.sliceAt, Instr.slice, Instr.sliceBounds, Instr.sliceBound, asIntOf, run_underlying hu, run_size hs, h0, h1, Addr.add]
theorem r_slice_lo (t ty : TypeId) (b o len cap n : Nat) (k : IntKind) (i : Int) (h : tslice P t = some n) (h0 : 0 ≤ i) (h1 : i ≤ len) : PureRun P (.slice t (.const (.slice (some ⟨b, o, none⟩) len cap)) (some (.const (.int k i))) none none) ty (.slice (some ⟨b, slo o cap i.toNat n, none⟩) (len - i.toNat) (cap - i.toNat)) := by
  obtain ⟨e, hu, hs⟩ := tslice_u h
  refine ⟨fun ρ hg w => ?_⟩
  simp [execOp, mkOper, hg.1, Instr.sliceAt, Instr.slice, Instr.sliceBounds, Instr.sliceBound, asIntOf, run_underlying hu, run_size hs, h0, h1, slo_add]
theorem r_slice_both (t ty : TypeId) (b o len cap n : Nat) (k k' : IntKind) (i j : Int) (h : tslice P t = some n) (h0 : 0 ≤ i) (h1 : i ≤ j) (h2 : j ≤ cap) : PureRun P (.slice t (.const (.slice (some ⟨b, o, none⟩) len cap)) (some (.const (.int k i))) (some (.const (.int k' j))) none) ty (.slice (some ⟨b, slo o cap i.toNat n, none⟩) (j.toNat - i.toNat) (cap - i.toNat)) := by
  obtain ⟨e, hu, hs⟩ := tslice_u h
  refine ⟨fun ρ hg w => ?_⟩
  have h3 : 0 ≤ j := by omega
  have h4 : i ≤ (j.toNat : Int) := by omega
  simp [execOp, mkOper, hg.1, Instr.sliceAt, Instr.slice, Instr.sliceBounds, Instr.sliceBound, asIntOf, run_underlying hu, run_size hs, h0, h2, h3, h4, slo_add]
  intro hc; exact absurd hc (by omega)

@[go_sem] theorem x_slice_str_hi (t ty : TypeId) (s : ByteArray) (k : IntKind) (i : Int) (K : Value → World → Prop) (w : World) (h : tkind P t = some 3) (h0 : 0 ≤ i) (h1 : i ≤ s.size) : OpX P (.slice t (.const (.string s)) none (some (.const (.int k i))) none) ty K w = K (.string (s.extract 0 i.toNat)) w := (r_slice_str_hi t ty s k i h h0 h1).op K w
@[go_sem] theorem p_slice_str_hi (t ty : TypeId) (s : ByteArray) (k : IntKind) (i : Int) (K : Value → Prop) (h : tkind P t = some 3) (h0 : 0 ≤ i) (h1 : i ≤ s.size) : PurX P (.slice t (.const (.string s)) none (some (.const (.int k i))) none) ty K () = K (.string (s.extract 0 i.toNat)) := (r_slice_str_hi t ty s k i h h0 h1).pur K
@[go_sem] theorem x_slice_str_lo (t ty : TypeId) (s : ByteArray) (k : IntKind) (i : Int) (K : Value → World → Prop) (w : World) (h : tkind P t = some 3) (h0 : 0 ≤ i) (h1 : i ≤ s.size) : OpX P (.slice t (.const (.string s)) (some (.const (.int k i))) none none) ty K w = K (.string (s.extract i.toNat s.size)) w := (r_slice_str_lo t ty s k i h h0 h1).op K w
@[go_sem] theorem p_slice_str_lo (t ty : TypeId) (s : ByteArray) (k : IntKind) (i : Int) (K : Value → Prop) (h : tkind P t = some 3) (h0 : 0 ≤ i) (h1 : i ≤ s.size) : PurX P (.slice t (.const (.string s)) (some (.const (.int k i))) none none) ty K () = K (.string (s.extract i.toNat s.size)) := (r_slice_str_lo t ty s k i h h0 h1).pur K
@[go_sem] theorem x_slice_str_both (t ty : TypeId) (s : ByteArray) (k k' : IntKind) (i j : Int) (K : Value → World → Prop) (w : World) (h : tkind P t = some 3) (h0 : 0 ≤ i) (h1 : i ≤ j) (h2 : j ≤ s.size) : OpX P (.slice t (.const (.string s)) (some (.const (.int k i))) (some (.const (.int k' j))) none) ty K w = K (.string (s.extract i.toNat j.toNat)) w := (r_slice_str_both t ty s k k' i j h h0 h1 h2).op K w
@[go_sem] theorem p_slice_str_both (t ty : TypeId) (s : ByteArray) (k k' : IntKind) (i j : Int) (K : Value → Prop) (h : tkind P t = some 3) (h0 : 0 ≤ i) (h1 : i ≤ j) (h2 : j ≤ s.size) : PurX P (.slice t (.const (.string s)) (some (.const (.int k i))) (some (.const (.int k' j))) none) ty K () = K (.string (s.extract i.toNat j.toNat)) := (r_slice_str_both t ty s k k' i j h h0 h1 h2).pur K

@[go_sem] theorem x_slice_hi (t ty : TypeId) (a : Option Addr) (len cap : Nat) (k : IntKind) (i : Int) (K : Value → World → Prop) (w : World) (h0 : 0 ≤ i) (h1 : i ≤ cap) : OpX P (.slice t (.const (.slice a len cap)) none (some (.const (.int k i))) none) ty K w = OrK (tslice P t) (fun _ => K (.slice a i.toNat cap) w) (OpX P (.slice t (.const (.slice a len cap)) none (some (.const (.int k i))) none) ty K w) () :=
  OrK_by (fun q h => (r_slice_hi t ty a len cap q k i h h0 h1).op K w) rfl
@[go_sem] theorem p_slice_hi (t ty : TypeId) (a : Option Addr) (len cap : Nat) (k : IntKind) (i : Int) (K : Value → Prop) (h0 : 0 ≤ i) (h1 : i ≤ cap) : PurX P (.slice t (.const (.slice a len cap)) none (some (.const (.int k i))) none) ty K () = OrK (tslice P t) (fun _ => K (.slice a i.toNat cap)) (PurX P (.slice t (.const (.slice a len cap)) none (some (.const (.int k i))) none) ty K ()) () :=
  OrK_by (fun q h => (r_slice_hi t ty a len cap q k i h h0 h1).pur K) rfl
@[go_sem] theorem x_slice_lo (t ty : TypeId) (b o len cap : Nat) (k : IntKind) (i : Int) (K : Value → World → Prop) (w : World) (h0 : 0 ≤ i) (h1 : i ≤ len) : OpX P (.slice t (.const (.slice (some ⟨b, o, none⟩) len cap)) (some (.const (.int k i))) none none) ty K w = OrK (tslice P t) (fun n => K (.slice (some ⟨b, slo o cap i.toNat n, none⟩) (len - i.toNat) (cap - i.toNat)) w) (OpX P (.slice t (.const (.slice (some ⟨b, o, none⟩) len cap)) (some (.const (.int k i))) none none) ty K w) () :=
  OrK_by (fun q h => (r_slice_lo t ty b o len cap q k i h h0 h1).op K w) rfl
@[go_sem] theorem p_slice_lo (t ty : TypeId) (b o len cap : Nat) (k : IntKind) (i : Int) (K : Value → Prop) (h0 : 0 ≤ i) (h1 : i ≤ len) : PurX P (.slice t (.const (.slice (some ⟨b, o, none⟩) len cap)) (some (.const (.int k i))) none none) ty K () = OrK (tslice P t) (fun n => K (.slice (some ⟨b, slo o cap i.toNat n, none⟩) (len - i.toNat) (cap - i.toNat))) (PurX P (.slice t (.const (.slice (some ⟨b, o, none⟩) len cap)) (some (.const (.int k i))) none none) ty K ()) () :=
  OrK_by (fun q h => (r_slice_lo t ty b o len cap q k i h h0 h1).pur K) rfl
@[go_sem] theorem x_slice_both (t ty : TypeId) (b o len cap : Nat) (k k' : IntKind) (i j : Int) (K : Value → World → Prop) (w : World) (h0 : 0 ≤ i) (h1 : i ≤ j) (h2 : j ≤ cap) : OpX P (.slice t (.const (.slice (some ⟨b, o, none⟩) len cap)) (some (.const (.int k i))) (some (.const (.int k' j))) none) ty K w = OrK (tslice P t) (fun n => K (.slice (some ⟨b, slo o cap i.toNat n, none⟩) (j.toNat - i.toNat) (cap - i.toNat)) w) (OpX P (.slice t (.const (.slice (some ⟨b, o, none⟩) len cap)) (some (.const (.int k i))) (some (.const (.int k' j))) none) ty K w) () :=
  OrK_by (fun q h => (r_slice_both t ty b o len cap q k k' i j h h0 h1 h2).op K w) rfl
@[go_sem] theorem p_slice_both (t ty : TypeId) (b o len cap : Nat) (k k' : IntKind) (i j : Int) (K : Value → Prop) (h0 : 0 ≤ i) (h1 : i ≤ j) (h2 : j ≤ cap) : PurX P (.slice t (.const (.slice (some ⟨b, o, none⟩) len cap)) (some (.const (.int k i))) (some (.const (.int k' j))) none) ty K () = OrK (tslice P t) (fun n => K (.slice (some ⟨b, slo o cap i.toNat n, none⟩) (j.toNat - i.toNat) (cap - i.toNat))) (PurX P (.slice t (.const (.slice (some ⟨b, o, none⟩) len cap)) (some (.const (.int k i))) (some (.const (.int k' j))) none) ty K ()) () :=
  OrK_by (fun q h => (r_slice_both t ty b o len cap q k k' i j h h0 h1 h2).pur K) rfl
end
end Lyc
