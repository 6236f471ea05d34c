/-
  What single operations come to: places, tuples, channels, calls.
-/
import Derived.Test.YtdjdeahmhenchaaLycOps3
import Derived.Conc.LoneSelect
set_option linter.unusedSimpArgs false
set_option linter.unusedVariables false
namespace Lyc
open Go
section
variable {P : Program}

attribute [go_sem] Int.toNat_natCast and_self and_true true_and and_false false_and ne_eq not_false_eq_true not_true_eq_false eq_self Option.isNone_none Option.isNone_some Bool.not_true Bool.not_false Nat.zero_add Nat.add_zero List.getElem?_toArray List.getElem?_cons_zero List.getElem?_cons_succ List.size_toArray List.length_cons List.length_nil List.take_zero List.take_succ_cons List.drop_zero List.drop_succ_cons List.nil_append List.cons_append List.append_assoc List.extract_toArray Option.map_some Option.bind_some Option.isSome_some List.map_cons List.map_nil decide_true decide_false

@[go_sem] theorem list_extract {α : Type} (l : List α) (a b : Nat) : l.extract a b = (l.drop a).take (b - a) := rfl

def someV : Option Value → Value
  | some v => v
  | none => undef

/-! ### Places -/
theorem r_nilCheck (ty : TypeId) (a : Addr) : PureRun P (.nilCheck (.const (.pointer (some a)))) ty (.pointer (some a)) := ⟨fun ρ hg w => by simp [execOp, mkOper, hg.1]⟩
theorem r_fieldAddr (t ty : TypeId) (b o f off n : Nat) (h : tfield P t f = some (off, n)) (hn : n ≠ 0) : PureRun P (.fieldAddr t (.const (.pointer (some ⟨b, o, none⟩))) f) ty (.pointer (some ⟨b, o + off, none⟩)) := by
  have hfs : ∃ fs, P.underlying t = some (.struct fs) := by
    unfold tfield at h
    cases hu : P.underlying t with
    | none => rw [hu] at h; simp at h
    | some d => rw [hu] at h; cases d <;> first | exact ⟨_, rfl⟩ | simp at h
  obtain ⟨fs, hu⟩ := hfs
  unfold tfield at h
  rw [hu] at h
  simp only [Option.bind_some] at h
  obtain ⟨fd, hfd⟩ : ∃ fd, fs[f]? = some fd := by
    cases hfd : fs[f]? with
    | none => rw [hfd] at h; simp at h
    | some fd => exact ⟨fd, rfl⟩
  rw [hfd] at h
  simp only [Option.bind_some, Option.map_eq_some_iff] at h
  obtain ⟨j, hj, h⟩ := h
  cases h
  have hs : tsize P fd.type = some j.size := by simp [tsize, hj]
  refine ⟨fun ρ hg w => ?_⟩
  simp [execOp, mkOper, hg.1, Instr.fieldAt, run_underlying hu, hfd, Instr.sureAddr, fieldPlace, run_size hs, hn, add_mk]
theorem r_indexAddr (t ty e : TypeId) (b o len cap n : Nat) (k : IntKind) (i : Int) (hk : tkind P t = some 1) (he : telem P t = some e) (hn : tsize P e = some n) (h0 : 0 ≤ i) (h1 : i < len) :
    PureRun P (.indexAddr t (.const (.slice (some ⟨b, o, none⟩) len cap)) (.const (.int k i))) ty (.pointer (some ⟨b, o + i.toNat * n, none⟩)) := by
  obtain ⟨e', hu⟩ := tkind_1 hk
  have : e' = e := by simpa [telem, hu] using he
  subst this
  refine ⟨fun ρ hg w => ?_⟩
  simp [execOp, mkOper, hg.1, Instr.indexAt, asIntOf, run_underlying hu, run_size hn, h0, h1, add_mk]
theorem tkind_2 {t : TypeId} (h : tkind P t = some 2) : ∃ n e, P.underlying t = some (.array n e) := by
  unfold tkind at h
  cases hu : P.underlying t with
  | none => rw [hu] at h; simp at h
  | some d => rw [hu] at h; cases d <;> simp at h; exact ⟨_, _, rfl⟩
theorem r_indexAddrA (t ty e : TypeId) (b o len n : Nat) (k : IntKind) (i : Int) (hk : tkind P t = some 2) (he : telem P t = some e) (hl : tlen P t = some len) (hn : tsize P e = some n) (h0 : 0 ≤ i) (h1 : i < len) :
    PureRun P (.indexAddr t (.const (.pointer (some ⟨b, o, none⟩))) (.const (.int k i))) ty (.pointer (some ⟨b, o + i.toNat * n, none⟩)) := by
  obtain ⟨l', e', hu⟩ := tkind_2 hk
  have e1 : e' = e := by simpa [telem, hu] using he
  have e2 : l' = len := by simpa [tlen, hu] using hl
  subst e1; subst e2
  refine ⟨fun ρ hg w => ?_⟩
  simp [execOp, mkOper, hg.1, Instr.indexAt, Instr.sureAddr, asIntOf, run_underlying hu, run_size hn, h0, h1, add_mk]
theorem r_extract (ty : TypeId) (vs : Array Value) (i : Nat) (v : Value) (h : vs[i]? = some v) : PureRun P (.extract (.const (.tuple vs)) i) ty v := ⟨fun ρ hg w => by simp [execOp, mkOper, hg.1, Instr.extract, h]⟩
theorem r_not (t ty : TypeId) (b : Bool) : PureRun P (.unOp .not t (.const (.bool b))) ty (.bool (!b)) := ⟨fun ρ hg w => by simp [execOp, mkOper, hg.1, Op.unary]⟩
theorem r_neg (t ty : TypeId) (k : IntKind) (n : Int) : PureRun P (.unOp .neg t (.const (.int k n))) ty (.int k (k.wrap (-n))) := ⟨fun ρ hg w => by simp [execOp, mkOper, hg.1, Op.unary, Op.intArith]⟩
theorem r_conv (s t ty : TypeId) (k k' : IntKind) (n : Int) (hs : (tkind P s).isSome = true) (h : tint P t = some k') : PureRun P (.convert s t (.const (.int k n))) ty (.int k' (k'.wrap n)) := by
  unfold tint at h
  obtain ⟨d, hd⟩ : ∃ d, P.underlying s = some d := by
    unfold tkind at hs
    cases hu : P.underlying s with
    | none => rw [hu] at hs; simp at hs
    | some d => exact ⟨d, rfl⟩
  cases hu : P.underlying t with
  | none => rw [hu] at h; simp at h
  | some d' =>
    rw [hu] at h
    cases d' <;> simp at h
    subst h
    refine ⟨fun ρ hg w => ?_⟩
    simp [execOp, mkOper, hg.1, convert, run_underlying hu, run_underlying hd, Conv.intToInt]
theorem r_len_slice (t ty : TypeId) (a : Option Addr) (n c : Nat) (h : tkind P t = some 1) : PureRun P (.call { callee := .builtin .len, args := #[.const (.slice a n c)], argTypes := #[t] }) ty (.int .i64 n) := by
  obtain ⟨e, he⟩ := tkind_1 h
  exact ⟨fun ρ hg w => by simp [execOp, mkOper, resolve, invoke, builtin, hg.1, Builtin.len_, run_underlying he, goInt]⟩
theorem r_cap_slice (t ty : TypeId) (a : Option Addr) (n c : Nat) (h : tkind P t = some 1) : PureRun P (.call { callee := .builtin .cap, args := #[.const (.slice a n c)], argTypes := #[t] }) ty (.int .i64 c) := by
  obtain ⟨e, he⟩ := tkind_1 h
  exact ⟨fun ρ hg w => by simp [execOp, mkOper, resolve, invoke, builtin, hg.1, Builtin.cap_, run_underlying he, goInt]⟩
theorem r_len_str (t ty : TypeId) (s : ByteArray) (h : tkind P t = some 3) : PureRun P (.call { callee := .builtin .len, args := #[.const (.string s)], argTypes := #[t] }) ty (.int .i64 s.size) := by
  have he := tkind_3 h
  exact ⟨fun ρ hg w => by simp [execOp, mkOper, resolve, invoke, builtin, hg.1, Builtin.len_, run_underlying he, goInt]⟩
theorem r_min (ts : Array TypeId) (ty : TypeId) (k k' : IntKind) (x y : Int) : PureRun P (.call { callee := .builtin .min, args := #[.const (.int k x), .const (.int k' y)], argTypes := ts }) ty (.int k (min x y)) :=
  ⟨fun ρ hg w => by
    have e : (if y < x then y else x) = min x y := by omega
    simp [execOp, mkOper, resolve, invoke, builtin, hg.1, Builtin.min_, Builtin.min2, e]⟩
theorem r_max (ts : Array TypeId) (ty : TypeId) (k k' : IntKind) (x y : Int) : PureRun P (.call { callee := .builtin .max, args := #[.const (.int k x), .const (.int k' y)], argTypes := ts }) ty (.int k (max x y)) :=
  ⟨fun ρ hg w => by
    have e : (if y > x then y else x) = max x y := by omega
    simp [execOp, mkOper, resolve, invoke, builtin, hg.1, Builtin.max_, Builtin.max2, e]⟩
theorem r_makeFunc (ty : TypeId) (fn : Fn) (xs ys : List Operand) (us vs : List Value) (hx : (partV (xs.map fun x => (0, x))) = some (us.map fun v => (0, v))) (hy : (partV (ys.map fun x => (0, x))) = some (vs.map fun v => (0, v))) :
    PureRun P (.makeFunc fn xs.toArray ys.toArray) ty (.func fn us.toArray vs.toArray) := by
  refine ⟨fun ρ hg w => ?_⟩
  have h1 := partV_spec hg hx
  have h2 := partV_spec hg hy
  have e1 : xs.map ρ = us := by
    have := congrArg (List.map Prod.snd) h1
    simpa [List.map_map, Function.comp_def] using this
  have e2 : ys.map ρ = vs := by
    have := congrArg (List.map Prod.snd) h2
    simpa [List.map_map, Function.comp_def] using this
  simp [execOp, mkOper, Instr.makeFunc, e1, e2]
@[go_sem] theorem x_nilCheck (ty : TypeId) (a : Addr) (K : Value → World → Prop) (w : World)  : OpX P (.nilCheck (.const (.pointer (some a)))) ty K w = K (.pointer (some a)) w := (r_nilCheck ty a).op K w
@[go_sem] theorem p_nilCheck (ty : TypeId) (a : Addr) (K : Value → Prop)  : PurX P (.nilCheck (.const (.pointer (some a)))) ty K () = K (.pointer (some a)) := (r_nilCheck ty a).pur K
@[go_sem] theorem q_nilCheck (ty : TypeId) (a : Addr) (K : Value → Prop) (w : World)  : RdX P (.nilCheck (.const (.pointer (some a)))) ty K w = K (.pointer (some a)) := (r_nilCheck ty a).rd K w
@[go_sem] theorem y_nilCheck (ty : TypeId) (a : Addr) (u : Value) (w : World)  : Yld P (.nilCheck (.const (.pointer (some a)))) ty u w = (u = (.pointer (some a))) := (r_nilCheck ty a).yld u w
@[go_sem] theorem x_not (t ty : TypeId) (b : Bool) (K : Value → World → Prop) (w : World)  : OpX P (.unOp .not t (.const (.bool b))) ty K w = K (.bool (!b)) w := (r_not t ty b).op K w
@[go_sem] theorem p_not (t ty : TypeId) (b : Bool) (K : Value → Prop)  : PurX P (.unOp .not t (.const (.bool b))) ty K () = K (.bool (!b)) := (r_not t ty b).pur K
@[go_sem] theorem q_not (t ty : TypeId) (b : Bool) (K : Value → Prop) (w : World)  : RdX P (.unOp .not t (.const (.bool b))) ty K w = K (.bool (!b)) := (r_not t ty b).rd K w
@[go_sem] theorem y_not (t ty : TypeId) (b : Bool) (u : Value) (w : World)  : Yld P (.unOp .not t (.const (.bool b))) ty u w = (u = (.bool (!b))) := (r_not t ty b).yld u w
@[go_sem] theorem x_neg (t ty : TypeId) (k : IntKind) (n : Int) (K : Value → World → Prop) (w : World)  : OpX P (.unOp .neg t (.const (.int k n))) ty K w = K (.int k (k.wrap (-n))) w := (r_neg t ty k n).op K w
@[go_sem] theorem p_neg (t ty : TypeId) (k : IntKind) (n : Int) (K : Value → Prop)  : PurX P (.unOp .neg t (.const (.int k n))) ty K () = K (.int k (k.wrap (-n))) := (r_neg t ty k n).pur K
@[go_sem] theorem q_neg (t ty : TypeId) (k : IntKind) (n : Int) (K : Value → Prop) (w : World)  : RdX P (.unOp .neg t (.const (.int k n))) ty K w = K (.int k (k.wrap (-n))) := (r_neg t ty k n).rd K w
@[go_sem] theorem y_neg (t ty : TypeId) (k : IntKind) (n : Int) (u : Value) (w : World)  : Yld P (.unOp .neg t (.const (.int k n))) ty u w = (u = (.int k (k.wrap (-n)))) := (r_neg t ty k n).yld u w
@[go_sem] theorem x_len_slice (t ty : TypeId) (a : Option Addr) (n c : Nat) (K : Value → World → Prop) (w : World) (h : tkind P t = some 1) : OpX P (.call { callee := .builtin .len, args := #[.const (.slice a n c)], argTypes := #[t] }) ty K w = K (.int .i64 n) w := (r_len_slice t ty a n c h).op K w
@[go_sem] theorem p_len_slice (t ty : TypeId) (a : Option Addr) (n c : Nat) (K : Value → Prop) (h : tkind P t = some 1) : PurX P (.call { callee := .builtin .len, args := #[.const (.slice a n c)], argTypes := #[t] }) ty K () = K (.int .i64 n) := (r_len_slice t ty a n c h).pur K
@[go_sem] theorem q_len_slice (t ty : TypeId) (a : Option Addr) (n c : Nat) (K : Value → Prop) (w : World) (h : tkind P t = some 1) : RdX P (.call { callee := .builtin .len, args := #[.const (.slice a n c)], argTypes := #[t] }) ty K w = K (.int .i64 n) := (r_len_slice t ty a n c h).rd K w
@[go_sem] theorem y_len_slice (t ty : TypeId) (a : Option Addr) (n c : Nat) (u : Value) (w : World) (h : tkind P t = some 1) : Yld P (.call { callee := .builtin .len, args := #[.const (.slice a n c)], argTypes := #[t] }) ty u w = (u = (.int .i64 n)) := (r_len_slice t ty a n c h).yld u w
@[go_sem] theorem x_cap_slice (t ty : TypeId) (a : Option Addr) (n c : Nat) (K : Value → World → Prop) (w : World) (h : tkind P t = some 1) : OpX P (.call { callee := .builtin .cap, args := #[.const (.slice a n c)], argTypes := #[t] }) ty K w = K (.int .i64 c) w := (r_cap_slice t ty a n c h).op K w
@[go_sem] theorem p_cap_slice (t ty : TypeId) (a : Option Addr) (n c : Nat) (K : Value → Prop) (h : tkind P t = some 1) : PurX P (.call { callee := .builtin .cap, args := #[.const (.slice a n c)], argTypes := #[t] }) ty K () = K (.int .i64 c) := (r_cap_slice t ty a n c h).pur K
@[go_sem] theorem q_cap_slice (t ty : TypeId) (a : Option Addr) (n c : Nat) (K : Value → Prop) (w : World) (h : tkind P t = some 1) : RdX P (.call { callee := .builtin .cap, args := #[.const (.slice a n c)], argTypes := #[t] }) ty K w = K (.int .i64 c) := (r_cap_slice t ty a n c h).rd K w
@[go_sem] theorem y_cap_slice (t ty : TypeId) (a : Option Addr) (n c : Nat) (u : Value) (w : World) (h : tkind P t = some 1) : Yld P (.call { callee := .builtin .cap, args := #[.const (.slice a n c)], argTypes := #[t] }) ty u w = (u = (.int .i64 c)) := (r_cap_slice t ty a n c h).yld u w
@[go_sem] theorem x_len_str (t ty : TypeId) (s : ByteArray) (K : Value → World → Prop) (w : World) (h : tkind P t = some 3) : OpX P (.call { callee := .builtin .len, args := #[.const (.string s)], argTypes := #[t] }) ty K w = K (.int .i64 s.size) w := (r_len_str t ty s h).op K w
@[go_sem] theorem p_len_str (t ty : TypeId) (s : ByteArray) (K : Value → Prop) (h : tkind P t = some 3) : PurX P (.call { callee := .builtin .len, args := #[.const (.string s)], argTypes := #[t] }) ty K () = K (.int .i64 s.size) := (r_len_str t ty s h).pur K
@[go_sem] theorem q_len_str (t ty : TypeId) (s : ByteArray) (K : Value → Prop) (w : World) (h : tkind P t = some 3) : RdX P (.call { callee := .builtin .len, args := #[.const (.string s)], argTypes := #[t] }) ty K w = K (.int .i64 s.size) := (r_len_str t ty s h).rd K w
@[go_sem] theorem y_len_str (t ty : TypeId) (s : ByteArray) (u : Value) (w : World) (h : tkind P t = some 3) : Yld P (.call { callee := .builtin .len, args := #[.const (.string s)], argTypes := #[t] }) ty u w = (u = (.int .i64 s.size)) := (r_len_str t ty s h).yld u w
@[go_sem] theorem x_min (ts : Array TypeId) (ty : TypeId) (k k' : IntKind) (x y : Int) (K : Value → World → Prop) (w : World)  : OpX P (.call { callee := .builtin .min, args := #[.const (.int k x), .const (.int k' y)], argTypes := ts }) ty K w = K (.int k (min x y)) w := (r_min ts ty k k' x y).op K w
@[go_sem] theorem p_min (ts : Array TypeId) (ty : TypeId) (k k' : IntKind) (x y : Int) (K : Value → Prop)  : PurX P (.call { callee := .builtin .min, args := #[.const (.int k x), .const (.int k' y)], argTypes := ts }) ty K () = K (.int k (min x y)) := (r_min ts ty k k' x y).pur K
@[go_sem] theorem q_min (ts : Array TypeId) (ty : TypeId) (k k' : IntKind) (x y : Int) (K : Value → Prop) (w : World)  : RdX P (.call { callee := .builtin .min, args := #[.const (.int k x), .const (.int k' y)], argTypes := ts }) ty K w = K (.int k (min x y)) := (r_min ts ty k k' x y).rd K w
@[go_sem] theorem y_min (ts : Array TypeId) (ty : TypeId) (k k' : IntKind) (x y : Int) (u : Value) (w : World)  : Yld P (.call { callee := .builtin .min, args := #[.const (.int k x), .const (.int k' y)], argTypes := ts }) ty u w = (u = (.int k (min x y))) := (r_min ts ty k k' x y).yld u w
@[go_sem] theorem x_max (ts : Array TypeId) (ty : TypeId) (k k' : IntKind) (x y : Int) (K : Value → World → Prop) (w : World)  : OpX P (.call { callee := .builtin .max, args := #[.const (.int k x), .const (.int k' y)], argTypes := ts }) ty K w = K (.int k (max x y)) w := (r_max ts ty k k' x y).op K w
@[go_sem] theorem p_max (ts : Array TypeId) (ty : TypeId) (k k' : IntKind) (x y : Int) (K : Value → Prop)  : PurX P (.call { callee := .builtin .max, args := #[.const (.int k x), .const (.int k' y)], argTypes := ts }) ty K () = K (.int k (max x y)) := (r_max ts ty k k' x y).pur K
@[go_sem] theorem q_max (ts : Array TypeId) (ty : TypeId) (k k' : IntKind) (x y : Int) (K : Value → Prop) (w : World)  : RdX P (.call { callee := .builtin .max, args := #[.const (.int k x), .const (.int k' y)], argTypes := ts }) ty K w = K (.int k (max x y)) := (r_max ts ty k k' x y).rd K w
@[go_sem] theorem y_max (ts : Array TypeId) (ty : TypeId) (k k' : IntKind) (x y : Int) (u : Value) (w : World)  : Yld P (.call { callee := .builtin .max, args := #[.const (.int k x), .const (.int k' y)], argTypes := ts }) ty u w = (u = (.int k (max x y))) := (r_max ts ty k k' x y).yld u w

/-! ### Places, the types' numbers looked up -/
theorem tfo_spec {t : TypeId} {f off : Nat} (h : tfo P t f = some off) : ∃ n, tfield P t f = some (off, n) ∧ n ≠ 0 := by
  unfold tfo at h
  obtain ⟨p, hp, h⟩ := Option.bind_eq_some_iff.1 h
  split at h
  · simp at h
  · rename_i hn; cases h; exact ⟨p.2, hp, hn⟩
theorem tslice_spec {t : TypeId} {n : Nat} (h : tslice P t = some n) : ∃ e, tkind P t = some 1 ∧ telem P t = some e ∧ tsize P e = some n := by
  unfold tslice at h
  cases hu : P.underlying t with
  | none => rw [hu] at h; simp at h
  | some d =>
    rw [hu] at h
    cases d <;> simp at h
    exact ⟨_, by simp [tkind, hu], by simp [telem, hu], h⟩
theorem tarr_spec {t : TypeId} {n m : Nat} (h : tarr P t = some (n, m)) : ∃ e, tkind P t = some 2 ∧ telem P t = some e ∧ tlen P t = some n ∧ tsize P e = some m := by
  unfold tarr at h
  cases hu : P.underlying t with
  | none => rw [hu] at h; simp at h
  | some d =>
    rw [hu] at h
    cases d with
    | array k e =>
      simp only [Option.bind_some, Option.map_eq_some_iff] at h
      obtain ⟨x, hx, h⟩ := h
      cases h
      exact ⟨e, by simp [tkind, hu], by simp [telem, hu], by simp [tlen, hu], hx⟩
    | _ => simp at h
@[go_sem] theorem x_fieldAddr (t ty : TypeId) (b o f : Nat) (K : Value → World → Prop) (w : World)  : OpX P (.fieldAddr t (.const (.pointer (some ⟨b, o, none⟩))) f) ty K w = OrK (tfo P t f) (fun off => K (.pointer (some ⟨b, o + off, none⟩)) w) (OpX P (.fieldAddr t (.const (.pointer (some ⟨b, o, none⟩))) f) ty K w) () := by
  refine OrK_by (fun q h => ?_) rfl
  obtain ⟨n, h1, h2⟩ := tfo_spec h
  have hr := r_fieldAddr (P := P) t ty b o f q n h1 h2
  exact PureRun.op hr K w
@[go_sem] theorem p_fieldAddr (t ty : TypeId) (b o f : Nat) (K : Value → Prop)  : PurX P (.fieldAddr t (.const (.pointer (some ⟨b, o, none⟩))) f) ty K () = OrK (tfo P t f) (fun off => K (.pointer (some ⟨b, o + off, none⟩))) (PurX P (.fieldAddr t (.const (.pointer (some ⟨b, o, none⟩))) f) ty K ()) () := by
  refine OrK_by (fun q h => ?_) rfl
  obtain ⟨n, h1, h2⟩ := tfo_spec h
  have hr := r_fieldAddr (P := P) t ty b o f q n h1 h2
  exact PureRun.pur hr K
@[go_sem] theorem x_indexAddr (t ty : TypeId) (b o len cap : Nat) (k : IntKind) (i : Int) (K : Value → World → Prop) (w : World) (h0 : 0 ≤ i) (h1 : i < len) : OpX P (.indexAddr t (.const (.slice (some ⟨b, o, none⟩) len cap)) (.const (.int k i))) ty K w = OrK (tslice P t) (fun n => K (.pointer (some ⟨b, o + i.toNat * n, none⟩)) w) (OpX P (.indexAddr t (.const (.slice (some ⟨b, o, none⟩) len cap)) (.const (.int k i))) ty K w) () := by
  refine OrK_by (fun q h => ?_) rfl
  obtain ⟨e, h2, h3, h4⟩ := tslice_spec h
  have hr := r_indexAddr (P := P) t ty e b o len cap q k i h2 h3 h4 h0 h1
  exact PureRun.op hr K w
@[go_sem] theorem p_indexAddr (t ty : TypeId) (b o len cap : Nat) (k : IntKind) (i : Int) (K : Value → Prop) (h0 : 0 ≤ i) (h1 : i < len) : PurX P (.indexAddr t (.const (.slice (some ⟨b, o, none⟩) len cap)) (.const (.int k i))) ty K () = OrK (tslice P t) (fun n => K (.pointer (some ⟨b, o + i.toNat * n, none⟩))) (PurX P (.indexAddr t (.const (.slice (some ⟨b, o, none⟩) len cap)) (.const (.int k i))) ty K ()) () := by
  refine OrK_by (fun q h => ?_) rfl
  obtain ⟨e, h2, h3, h4⟩ := tslice_spec h
  have hr := r_indexAddr (P := P) t ty e b o len cap q k i h2 h3 h4 h0 h1
  exact PureRun.pur hr K
@[go_sem] theorem x_indexAddrA (t ty : TypeId) (b o : Nat) (k : IntKind) (i : Int) (K : Value → World → Prop) (w : World) (h0 : 0 ≤ i) (h1 : i < ((tarr P t).getD (0, 0)).1) : OpX P (.indexAddr t (.const (.pointer (some ⟨b, o, none⟩))) (.const (.int k i))) ty K w = OrK (tarr P t) (fun n => K (.pointer (some ⟨b, o + i.toNat * n.2, none⟩)) w) (OpX P (.indexAddr t (.const (.pointer (some ⟨b, o, none⟩))) (.const (.int k i))) ty K w) () := by
  refine OrK_by (fun q h => ?_) rfl
  obtain ⟨n, m⟩ := q
  rw [h] at h1
  obtain ⟨e, h2, h3, h4, h5⟩ := tarr_spec h
  have hr := r_indexAddrA (P := P) t ty e b o n m k i h2 h3 h4 h5 h0 h1
  exact PureRun.op hr K w
@[go_sem] theorem p_indexAddrA (t ty : TypeId) (b o : Nat) (k : IntKind) (i : Int) (K : Value → Prop) (h0 : 0 ≤ i) (h1 : i < ((tarr P t).getD (0, 0)).1) : PurX P (.indexAddr t (.const (.pointer (some ⟨b, o, none⟩))) (.const (.int k i))) ty K () = OrK (tarr P t) (fun n => K (.pointer (some ⟨b, o + i.toNat * n.2, none⟩))) (PurX P (.indexAddr t (.const (.pointer (some ⟨b, o, none⟩))) (.const (.int k i))) ty K ()) () := by
  refine OrK_by (fun q h => ?_) rfl
  obtain ⟨n, m⟩ := q
  rw [h] at h1
  obtain ⟨e, h2, h3, h4, h5⟩ := tarr_spec h
  have hr := r_indexAddrA (P := P) t ty e b o n m k i h2 h3 h4 h5 h0 h1
  exact PureRun.pur hr K
@[go_sem] theorem x_conv (s t ty : TypeId) (k : IntKind) (n : Int) (K : Value → World → Prop) (w : World)  : OpX P (.convert s t (.const (.int k n))) ty K w = OrK (tconv P s t) (fun k' => K (.int k' (k'.wrap n)) w) (OpX P (.convert s t (.const (.int k n))) ty K w) () := by
  refine OrK_by (fun q h => ?_) rfl
  obtain ⟨x, h1, h2⟩ := Option.bind_eq_some_iff.1 h
  have hr := r_conv (P := P) s t ty k q n (by rw [h1]; rfl) h2
  exact PureRun.op hr K w
@[go_sem] theorem p_conv (s t ty : TypeId) (k : IntKind) (n : Int) (K : Value → Prop)  : PurX P (.convert s t (.const (.int k n))) ty K () = OrK (tconv P s t) (fun k' => K (.int k' (k'.wrap n))) (PurX P (.convert s t (.const (.int k n))) ty K ()) () := by
  refine OrK_by (fun q h => ?_) rfl
  obtain ⟨x, h1, h2⟩ := Option.bind_eq_some_iff.1 h
  have hr := r_conv (P := P) s t ty k q n (by rw [h1]; rfl) h2
  exact PureRun.pur hr K
@[go_sem] theorem tconv_eq (s t : TypeId) : tconv P s t = (tkind P s).bind fun _ => tint P t := rfl
attribute [go_sem] Option.getD_some

/-! ### Tuples: the component is looked up -/
def ExX (P : Program) (ty : TypeId) (vs : Array Value) (i : Nat) (x : Option Value) (K : Value → World → Prop) (w : WK K) : Prop :=
  match x with | some v => K v w | none => OpX P (.extract (.const (.tuple vs)) i) ty K w
@[go_sem] theorem ExX_some (ty : TypeId) (vs : Array Value) (i : Nat) (v : Value) (K : Value → World → Prop) (w : World) : ExX P ty vs i (some v) K w = K v w := rfl
@[go_sem] theorem x_extract (ty : TypeId) (vs : Array Value) (i : Nat) (K : Value → World → Prop) (w : World) : OpX P (.extract (.const (.tuple vs)) i) ty K w = ExX P ty vs i vs[i]? K w := by
  cases h : vs[i]? with
  | none => rfl
  | some v => rw [ExX_some]; exact (r_extract ty vs i v h).op K w
def ExQ (P : Program) (ty : TypeId) (vs : Array Value) (i : Nat) (x : Option Value) (K : Value → Prop) (u : UK K) : Prop :=
  match x with | some v => K v | none => PurX P (.extract (.const (.tuple vs)) i) ty K u
@[go_sem] theorem ExQ_some (ty : TypeId) (vs : Array Value) (i : Nat) (v : Value) (K : Value → Prop) : ExQ P ty vs i (some v) K () = K v := rfl
@[go_sem] theorem p_extract (ty : TypeId) (vs : Array Value) (i : Nat) (K : Value → Prop) : PurX P (.extract (.const (.tuple vs)) i) ty K () = ExQ P ty vs i vs[i]? K () := by
  cases h : vs[i]? with
  | none => rfl
  | some v => rw [ExQ_some]; exact (r_extract ty vs i v h).pur K

/-! ### Functions that are made -/
def FnX (P : Program) (ty : TypeId) (fn : Fn) (xs ys : List Operand) (u v : Option (List (Nat × Value))) (K : Value → World → Prop) (w : WK K) : Prop :=
  match u, v with | some us, some vs => K (.func fn (us.map (·.2)).toArray (vs.map (·.2)).toArray) w | _, _ => OpX P (.makeFunc fn xs.toArray ys.toArray) ty K w
@[go_sem] theorem FnX_some (ty : TypeId) (fn : Fn) (xs ys : List Operand) (us vs : List (Nat × Value)) (K : Value → World → Prop) (w : World) : FnX P ty fn xs ys (some us) (some vs) K w = K (.func fn (us.map (·.2)).toArray (vs.map (·.2)).toArray) w := rfl
theorem partV_zero : ∀ (xs : List Operand) (us : List (Nat × Value)), partV (xs.map fun x => (0, x)) = some us → us = (us.map (·.2)).map fun v => (0, v)
  | [], us, h => by simp [partV] at h; subst h; rfl
  | x :: xs, us, h => by
    cases x with
    | const v =>
      simp only [List.map_cons, partV, Option.map_eq_some_iff] at h
      obtain ⟨vs, hv, rfl⟩ := h
      have := partV_zero xs vs hv
      simp only [List.map_cons]
      rw [← this]
    | _ => simp [partV] at h
@[go_sem] theorem x_makeFunc (ty : TypeId) (fn : Fn) (xs ys : List Operand) (K : Value → World → Prop) (w : World) :
    OpX P (.makeFunc fn xs.toArray ys.toArray) ty K w = FnX P ty fn xs ys (partV (xs.map fun x => (0, x))) (partV (ys.map fun x => (0, x))) K w := by
  cases h : partV (xs.map fun x => (0, x)) with
  | none => rfl
  | some us =>
    cases h2 : partV (ys.map fun x => (0, x)) with
    | none => rfl
    | some vs =>
      rw [FnX_some]
      refine (r_makeFunc ty fn xs ys (us.map (·.2)) (vs.map (·.2)) ?_ ?_).op K w
      · rw [h, ← partV_zero _ _ h]
      · rw [h2, ← partV_zero _ _ h2]

/-! ### Channels -/
theorem x_makeChan0 (t ty e : TypeId) (n : Int) (k : IntKind) (nb : Nat) (K : Value → World → Prop) (w : World) (ht : tkind P t = some 6) (he : telem P t = some e) (hb : tbytes P e = some nb) (h0 : 0 ≤ n) (h1 : n ≤ 1000000) (h2 : nb ≤ 1000000) :
    OpX P (.makeChan t (.const (.int k n))) ty K w = K (.chan (some w.heap.size)) (w.alloc (.chan n.toNat #[] false 0 0 false)) := by
  obtain ⟨d, e', hu⟩ := tkind_6 ht
  have e1 : e' = e := by simpa [telem, hu] using he
  subst e1
  obtain ⟨i, hi, hib⟩ := run_info hb w
  refine OpX_ok fun ρ hg => ?_
  have h3 : ¬ (n < 0 ∨ IntKind.i64.max < n ∨ 281474976710544 < (i.bytes : Int) * n) := by
    rw [hib]
    have h4 : IntKind.i64.max = 9223372036854775807 := by decide
    have h5 : (nb : Int) * n ≤ 1000000 * 1000000 := Int.mul_le_mul (by omega) h1 h0 (by omega)
    rw [h4]; omega
  have h4 : IntKind.i64.max = 9223372036854775807 := by decide
  rw [h4] at h3
  simp [execOp, mkOper, hg.1, Instr.makeChan, asInt, asIntOf, run_underlying hu, hi, h4, h3]

@[go_sem] theorem x_makeChan (t ty : TypeId) (n : Int) (k : IntKind) (K : Value → World → Prop) (w : World) (h0 : 0 ≤ n) (h1 : n ≤ 1000000) :
    OpX P (.makeChan t (.const (.int k n))) ty K w = OrK (tchan P t) (fun _ => K (.chan (some w.heap.size)) (w.alloc (.chan n.toNat #[] false 0 0 false))) (OpX P (.makeChan t (.const (.int k n))) ty K w) () := by
  refine OrK_by (fun q h => ?_) rfl
  unfold tchan at h
  cases hu : P.underlying t with
  | none => rw [hu] at h; simp at h
  | some d =>
    rw [hu] at h
    cases d with
    | chan d e =>
      simp only [Option.bind_some] at h
      obtain ⟨nb, hb, h⟩ := Option.bind_eq_some_iff.1 h
      split at h
      · rename_i hle
        exact x_makeChan0 t ty e n k nb K w (by simp [tkind, hu]) (by simp [telem, hu]) hb h0 h1 hle
      · simp at h
    | _ => simp at h

/-- What a select of one case over a channel, with a default, comes to. -/
theorem comm_of {cases_ : Array CommCase} {w w' : World} {K : Value → World → Prop} {v : Value} (hk : K v w')
    (h : ∀ (fr : Frame) (cs : List Frame) (es : Array Event), stepG P true (Conc.G fr cs) w = .comm (Conc.G fr cs) cases_ false .select w es → step P (Conc.solo (Conc.G fr cs) w) = .next (Conc.solo (Conc.G (fr.finish v) cs) w')) :
    CommP P cases_ false .select w K := ⟨fun fr cs es he => ⟨v, w', hk, h fr cs es he⟩⟩

theorem run_select_recv (ρ : Operand → Value) (hg : Good ρ) (ty e : TypeId) (c : Nat) (z : Value) (w : World) (hz : tzero P e = some z) :
    (execOp ρ (mkOper (.select #[{ chan := .const (.chan (some c)), send := none, elem := e }] false) ty)).run P w = .ok (.comm #[Conc.rcase c z] false .select) w := by
  simp [execOp, mkOper, hg.1, Conc.rcase, run_zero hz]
theorem run_select_send (ρ : Operand → Value) (hg : Good ρ) (ty e : TypeId) (c : Nat) (v z : Value) (w : World) (hz : tzero P e = some z) :
    (execOp ρ (mkOper (.select #[{ chan := .const (.chan (some c)), send := some (.const v), elem := e }] false) ty)).run P w = .ok (.comm #[Conc.scase c v z] false .select) w := by
  simp [execOp, mkOper, hg.1, Conc.scase, run_zero hz]

theorem sel_recv_some {ty e : TypeId} {c cap s r : Nat} {buf : Array Value} {closed tm : Bool} {z : Value} {K : Value → World → Prop} {w : World} (hz : tzero P e = some z) (hc : w.heap[c]? = some (.chan cap buf closed s r tm)) (hb : 0 < buf.size)
    (hk : K (.tuple #[.int .i64 0, .bool true, buf.getD 0 undef]) (setBlk w c (.chan cap (buf.extract 1 buf.size) closed s (r + 1) tm))) :
    OpX P (.select #[{ chan := .const (.chan (some c)), send := none, elem := e }] false) ty K w := by
  refine ⟨fun ρ hg => ?_⟩
  rw [run_select_recv ρ hg ty e c z w hz]
  exact ⟨rfl, comm_of hk fun fr cs es he => Conc.step_lone_select_recv_buf he hc hb⟩
theorem sel_recv_none {ty e : TypeId} {c cap s r : Nat} {tm : Bool} {z : Value} {K : Value → World → Prop} {w : World} (hz : tzero P e = some z) (hc : w.heap[c]? = some (.chan cap #[] false s r tm))
    (hk : K (.tuple #[.int .i64 (-1), .bool false, z]) w) :
    OpX P (.select #[{ chan := .const (.chan (some c)), send := none, elem := e }] false) ty K w := by
  refine ⟨fun ρ hg => ?_⟩
  rw [run_select_recv ρ hg ty e c z w hz]
  exact ⟨rfl, comm_of hk fun fr cs es he => Conc.step_lone_select_default he hc⟩
theorem sel_send_room {ty e : TypeId} {c cap s r : Nat} {buf : Array Value} {tm : Bool} {v z : Value} {K : Value → World → Prop} {w : World} (hz : tzero P e = some z) (hc : w.heap[c]? = some (.chan cap buf false s r tm)) (hb : buf.size < cap)
    (hk : K (.tuple #[.int .i64 0, .bool false]) (setBlk w c (.chan cap (buf.push v) false (s + 1) r tm))) :
    OpX P (.select #[{ chan := .const (.chan (some c)), send := some (.const v), elem := e }] false) ty K w := by
  refine ⟨fun ρ hg => ?_⟩
  rw [run_select_send ρ hg ty e c v z w hz]
  exact ⟨rfl, comm_of hk fun fr cs es he => Conc.step_lone_select_send_room he hc hb⟩
theorem sel_send_full {ty e : TypeId} {c cap s r : Nat} {buf : Array Value} {tm : Bool} {v z : Value} {K : Value → World → Prop} {w : World} (hz : tzero P e = some z) (hc : w.heap[c]? = some (.chan cap buf false s r tm)) (hb : cap ≤ buf.size)
    (hk : K (.tuple #[.int .i64 (-1), .bool false]) w) :
    OpX P (.select #[{ chan := .const (.chan (some c)), send := some (.const v), elem := e }] false) ty K w := by
  refine ⟨fun ρ hg => ?_⟩
  rw [run_select_send ρ hg ty e c v z w hz]
  exact ⟨rfl, comm_of hk fun fr cs es he => Conc.step_lone_select_send_full he hc hb⟩
theorem sel_recv_cons {ty e : TypeId} {c cap s r : Nat} {x : Value} {xs : List Value} {closed tm : Bool} {z : Value} {K : Value → World → Prop} {w : World} (hz : tzero P e = some z) (hc : w.heap[c]? = some (.chan cap (x :: xs).toArray closed s r tm))
    (hk : K (.tuple #[.int .i64 0, .bool true, x]) (setBlk w c (.chan cap xs.toArray closed s (r + 1) tm))) :
    OpX P (.select #[{ chan := .const (.chan (some c)), send := none, elem := e }] false) ty K w := by
  refine sel_recv_some hz hc (by simp) ?_
  have e : (x :: xs).toArray.extract 1 (x :: xs).toArray.size = xs.toArray := by simp [List.take_of_length_le]
  rw [e]; exact hk
theorem sel_send_list {ty e : TypeId} {c cap s r : Nat} {xs : List Value} {tm : Bool} {v z : Value} {K : Value → World → Prop} {w : World} (hz : tzero P e = some z) (hc : w.heap[c]? = some (.chan cap xs.toArray false s r tm)) (hb : xs.length < cap)
    (hk : K (.tuple #[.int .i64 0, .bool false]) (setBlk w c (.chan cap (xs ++ [v]).toArray false (s + 1) r tm))) :
    OpX P (.select #[{ chan := .const (.chan (some c)), send := some (.const v), elem := e }] false) ty K w := by
  refine sel_send_room hz hc (by simpa using hb) ?_
  rw [List.push_toArray]; exact hk
theorem run_getObj' {c cap s r : Nat} {buf : Array Value} {closed tm : Bool} {w : World} (hc : w.heap[c]? = some (.chan cap buf closed s r tm)) : (getObj c).run P w = .ok (.chan cap buf closed s r tm) w := by
  simp [getObj, Sem.run, hc]
theorem x_len_chan (t ty : TypeId) (c cap s r : Nat) (buf : Array Value) (closed : Bool) (K : Value → World → Prop) (w : World) (h : tkind P t = some 6) (hc : w.heap[c]? = some (.chan cap buf closed s r false)) :
    OpX P (.call { callee := .builtin .len, args := #[.const (.chan (some c))], argTypes := #[t] }) ty K w = K (.int .i64 buf.size) w := by
  obtain ⟨d, e, he⟩ := tkind_6 h
  exact OpX_ok fun ρ hg => by simp [execOp, mkOper, resolve, invoke, builtin, hg.1, Builtin.len_, run_underlying he, goInt, run_getObj' hc]

/-! ### Calls -/
/-- The arguments' values, all constants. -/
def argV : List Operand → Option (List Value)
  | [] => some []
  | .const v :: r => (argV r).map (v :: ·)
  | _ => none
theorem argV_spec {ρ : Operand → Value} (hg : Good ρ) : ∀ {l : List Operand} {vs : List Value}, argV l = some vs → l.map ρ = vs
  | [], vs, h => by simp [argV] at h; subst h; rfl
  | x :: r, vs, h => by
    cases x with
    | const v =>
      simp only [argV, Option.map_eq_some_iff] at h
      obtain ⟨us, hu, rfl⟩ := h
      simp [argV_spec hg hu, hg.1]
    | _ => simp [argV] at h
/-- A call of a function of the program: by its contract. -/
theorem OpX.call {f : FuncId} {l : List Operand} {vs : List Value} {ats : Array TypeId} {ty : TypeId} {K : Value → World → Prop} {w : World} (hb : Bodied P f) (hl : argV l = some vs) (h : Calls P f vs.toArray w (retK K)) :
    OpX P (.call { callee := .value (.func f), args := l.toArray, argTypes := ats }) ty K w := by
  refine ⟨fun ρ hg => ?_⟩
  have : (execOp ρ (mkOper (.call { callee := .value (.func f), args := l.toArray, argTypes := ats }) ty)).run P w = .ok (.enter f vs.toArray) w := by
    simp [execOp, mkOper, resolve, invoke, hg.2.2, Deferred.ofValue, argV_spec hg hl, run_callFunc hb]
  rw [this]
  exact h
/-- A call of a function value. -/
theorem OpX.callV {f : FuncId} {us cs : List Value} {l : List Operand} {vs : List Value} {ats : Array TypeId} {ty : TypeId} {K : Value → World → Prop} {w : World} (hb : Bodied P f) (hl : argV l = some vs) (h : Calls P f (us ++ vs ++ cs).toArray w (retK K)) :
    OpX P (.call { callee := .value (.const (.func (.func f) us.toArray cs.toArray)), args := l.toArray, argTypes := ats }) ty K w := by
  refine ⟨fun ρ hg => ?_⟩
  have : (execOp ρ (mkOper (.call { callee := .value (.const (.func (.func f) us.toArray cs.toArray)), args := l.toArray, argTypes := ats }) ty)).run P w = .ok (.enter f (us ++ vs ++ cs).toArray) w := by
    simp [execOp, mkOper, resolve, invoke, hg.1, Deferred.ofValue, argV_spec hg hl, run_callFunc hb]
  rw [this]
  exact h
theorem Calls.ret {f : FuncId} {args : Array Value} {w : World} {R : Value → World → Prop} {K : Value → World → Prop} (h : Calls P f args w (retK R)) (hk : ∀ v w', R v w' → K v w') : Calls P f args w (retK K) :=
  h.mono fun e w' he => by cases e <;> first | exact hk _ _ he | exact he
end
end Lyc
