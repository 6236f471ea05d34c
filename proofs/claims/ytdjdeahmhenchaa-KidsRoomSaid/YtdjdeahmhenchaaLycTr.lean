/-
  Code read as a predicate transformer ('tr'), and that it is sound for the machine of one goroutine. It names no program.
-/
import Derived.Test.YtdjdeahmhenchaaLycBase
set_option linter.unusedSimpArgs false
set_option linter.unusedVariables false
namespace Lyc
open Go

/-- What is known of a temporary: nothing; that its operation was passed over; its value; that it is this very Bool. -/
inductive Ent where
  | unk
  | und
  | val (v : Value)
  | lit (b : Bool)

abbrev Env := List (Nat × Ent)

def Env.get : List (Nat × Ent) → Nat → Ent
  | [], _ => .unk
  | (d, x) :: e, i => bif Nat.beq d i then x else Env.get e i

def Ent.ok (x : Ent) (v : Value) : Prop :=
  match x with
  | .unk => True
  | .und => v = undef
  | .val u => v = u
  | .lit b => v = .bool b

/-- The place, beside the temporaries, at which an environment tells the marks among the calls put off. -/
def DK : Nat := 1000000
def dref (d : Deferred) : Option Nat := match d.target with | .collected r => some r | _ => none
def drefs : List Deferred → Option (List Nat)
  | [] => some []
  | d :: ds => match dref d, drefs ds with | some r, some rs => some (r :: rs) | _, _ => none
/-- The marks, as a value. -/
def dval (ds : List Deferred) : Value := match drefs ds with | some rs => .tuple (rs.map fun r : Nat => Value.int .i64 (r : Int)).toArray | none => .bool false
def slot (a : Act) (d : Nat) : Value := if d = DK then dval a.defers else a.tmps.getD d undef
def dcons (r : Nat) : Value → Value
  | .tuple rs => .tuple (Value.int .i64 (r : Int) :: rs.toList).toArray
  | v => v
/-- Marks are taken up as the function returns. -/
def closeA : List Value → (World → Prop) → World → Prop
  | [], K, w => K w
  | .int _ r :: l, K, w => w.heap[r.toNat]? = some (.deferred (some [])) ∧ closeA l K (setBlk w r.toNat (.deferred none))
  | _ :: _, _, _ => False
def closeV (v : Value) (K : World → Prop) (w : World) : Prop :=
  match v with
  | .tuple rs => closeA rs.toList K w
  | _ => False

def Agree (e : Env) (a : Act) : Prop := a.tmps.size ≤ DK ∧ ∀ d, (Env.get e d).ok (slot a d)
/-- What is known of a temporary. -/
def tget (e : Env) (t : Nat) : Ent := bif Nat.beq t DK then .unk else Env.get e t

def entO (e : Env) : Operand → Ent
  | .tmp t => tget e t
  | .const (.bool b) => .lit b
  | .const v => .val v
  | .global g => .val (.pointer (some ⟨g, 0, none⟩))
  | .func f => .val (.func (.func f) #[] #[])

def subO (e : Env) : Operand → Operand
  | .tmp t => match tget e t with
    | .unk => .tmp t
    | .und => .tmp t
    | .val v => .const v
    | .lit b => .const (.bool b)
  | x => x

def mapO (f : Operand → Operand) : Op → Op
  | .move x => .move (f x)
  | .assign x => .assign (f x)
  | .pick c a b => .pick (f c) (f a) (f b)
  | .alloc t => .alloc t
  | .box t x => .box t (f x)
  | .build t ps => .build t (ps.map fun p => (p.1, f p.2))
  | .buildSlice t n ps => .buildSlice t n (ps.map fun p => (p.1, f p.2))
  | .insert t m k v => .insert t (f m) (f k) (f v)
  | .load t x => .load t (f x)
  | .store t x y => .store t (f x) (f y)
  | .ready g => .ready g
  | .waits g => .waits g
  | .nilCheck x => .nilCheck (f x)
  | .binOp o t x y u => .binOp o t (f x) (f y) u
  | .unOp o t x => .unOp o t (f x)
  | .convert s d x => .convert s d (f x)
  | .sliceToArrayPointer d x => .sliceToArrayPointer d (f x)
  | .makeInterface t x => .makeInterface t (f x)
  | .makeFunc g xs ys => .makeFunc g (xs.map f) (ys.map f)
  | .makeMap t r => .makeMap t (r.map f)
  | .makeChan t x => .makeChan t (f x)
  | .makeSlice t x y => .makeSlice t (f x) (f y)
  | .slice t x l h m => .slice t (f x) (l.map f) (h.map f) (m.map f)
  | .fieldAddr t x i => .fieldAddr t (f x) i
  | .field t x i => .field t (f x) i
  | .indexAddr t x i => .indexAddr t (f x) (f i)
  | .index t x i => .index t (f x) (f i)
  | .lookup t x i ok => .lookup t (f x) (f i) ok
  | .mapUpdate t m k v => .mapUpdate t (f m) (f k) (f v)
  | .mapEntry t m k => .mapEntry t (f m) (f k)
  | .entryStore t m s v => .entryStore t (f m) (f s) (f v)
  | .range t x => .range t (f x)
  | .next x s => .next (f x) s
  | .entry x => .entry (f x)
  | .typeAssert x t u ok => .typeAssert (f x) t u ok
  | .extract x i => .extract (f x) i
  | .call c => .call { callee := (match c.callee with | .value g => .value (f g) | .invoke r n => .invoke (f r) n | .builtin b => .builtin b), args := c.args.map f, argTypes := c.argTypes }
  | .go c => .go c
  | .defer c => .defer c
  | .panic x => .panic (f x)
  | .send c x => .send (f c) (f x)
  | .recv t c ok => .recv t (f c) ok
  | .select cs b => .select (cs.map fun c => { chan := f c.chan, send := c.send.map f, elem := c.elem }) b

/-- Operations that this library does not carry out by 'OpX'. -/
def odd : Op → Bool
  | .go _ => true
  | .defer _ => true
  | .binOp _ _ _ _ _ => true
  | .call { callee := .builtin .print, .. } => true
  | .call { callee := .builtin .println, .. } => true
  | _ => false

theorem builtin_consts (b : Builtin) (h1 : b ≠ .print) (h2 : b ≠ .println) (ats : Array TypeId) (t : TypeId) (cs cs' : Array Bool) (args : Array Value) :
    builtin b ats t cs args = builtin b ats t cs' args := by
  cases b <;> first | rfl | exact absurd rfl h1 | exact absurd rfl h2

theorem execOp_map {ρ : Operand → Value} {f : Operand → Operand} (o : Oper) (hf : ∀ x, ρ (f x) = ρ x) (hodd : odd o.op = false) :
    execOp ρ o = execOp ρ (mkOper (mapO f o.op) o.type) := by
  have hm : ∀ xs : Array Operand, (xs.map f).map ρ = xs.map ρ := fun xs => by simp [Array.map_map, Function.comp_def, hf]
  have hp : ∀ xs : Array (Nat × Operand), (xs.map fun p => (p.1, f p.2)).map (fun p => (p.1, ρ p.2)) = xs.map fun p => (p.1, ρ p.2) := fun xs => by simp [Array.map_map, Function.comp_def, hf]
  have ho : ∀ x : Option Operand, (x.map f).map ρ = x.map ρ := fun x => by cases x <;> simp [hf]
  obtain ⟨dst, op, type, pos, after, guard⟩ := o
  cases op
  case call c =>
    obtain ⟨callee, args, argTypes⟩ := c
    cases callee with
    | value g => simp [execOp, mapO, mkOper, resolve, hf, hm]
    | invoke r n => simp [execOp, mapO, mkOper, resolve, hf, hm]
    | builtin b =>
      have e1 : ∀ (o : Oper), o.op = .call { callee := .builtin b, args, argTypes } → execOp ρ o = builtin b argTypes o.type (args.map fun | .const _ => true | _ => false) (args.map ρ) := by
        intro o ho; unfold execOp; rw [ho]; rfl
      have e2 : ∀ (o : Oper), o.op = .call { callee := .builtin b, args := args.map f, argTypes } → execOp ρ o = builtin b argTypes o.type ((args.map f).map fun | .const _ => true | _ => false) ((args.map f).map ρ) := by
        intro o ho; unfold execOp; rw [ho]; rfl
      rw [e1 _ rfl, e2 (mkOper (mapO f (.call { callee := .builtin b, args, argTypes })) type) rfl, hm]
      refine builtin_consts b ?_ ?_ _ _ _ _ _ <;> (rintro rfl; simp [odd] at hodd)
  case select cs b =>
    simp [execOp, mapO, mkOper, Array.mapM_map, ho, hf, Function.comp_def]
  case binOp bo t x y u => simp [odd] at hodd
  case go c => simp [odd] at hodd
  case defer c => simp [odd] at hodd
  all_goals simp [execOp, mapO, mkOper, hf, hm, hp, ho]

/-- An operator on two values; whether an operand was a constant of the text is left open. -/
inductive BinX (P : Program) (op : BinOp) (t : TypeId) (a b : Value) (K : Value → World → Prop) (w : WK K) : Prop
  | mk (h : ∀ x y : Operand, Upon P w K ((do eqGuard op t x y a b; return Next.value (← binOp op t a b)).run P w))

/-- A value that is a Bool, and two ways on. -/
inductive BrW (v : Value) (A B : Prop) (u : UK2 A B) : Prop
  | mk (b : Bool) (hv : v = .bool b) (ht : b = true → A) (hf : b = false → B)

/-- A result variable in memory is read. -/
inductive LdR (P : Program) (t : TypeId) (v : Value) (K : Value → World → Prop) (w : WK K) : Prop
  | mk (a : Addr) (x : Value) (hv : v = .pointer (some a)) (h : (loadVar t a).run P w = .ok x w) (hk : K x w)

inductive Join0 (M : (World → Prop) → World → Prop) (K : World → Prop) (w : WK2 M K) : Prop
  | mk (R : World → Prop) (h : M R w) (hk : ∀ w', R w' → K w')
inductive Join1 (M : (Value → World → Prop) → World → Prop) (K : Value → World → Prop) (w : WK2 M K) : Prop
  | mk (R : Value → World → Prop) (h : M R w) (hk : ∀ v0 w', R v0 w' → K v0 w')
inductive Join2 (M : (Value → Value → World → Prop) → World → Prop) (K : Value → Value → World → Prop) (w : WK2 M K) : Prop
  | mk (R : Value → Value → World → Prop) (h : M R w) (hk : ∀ v0 v1 w', R v0 v1 w' → K v0 v1 w')
inductive Join3 (M : (Value → Value → Value → World → Prop) → World → Prop) (K : Value → Value → Value → World → Prop) (w : WK2 M K) : Prop
  | mk (R : Value → Value → Value → World → Prop) (h : M R w) (hk : ∀ v0 v1 v2 w', R v0 v1 v2 w' → K v0 v1 v2 w')
inductive Join4 (M : (Value → Value → Value → Value → World → Prop) → World → Prop) (K : Value → Value → Value → Value → World → Prop) (w : WK2 M K) : Prop
  | mk (R : Value → Value → Value → Value → World → Prop) (h : M R w) (hk : ∀ v0 v1 v2 v3 w', R v0 v1 v2 v3 w' → K v0 v1 v2 v3 w')
inductive Join5 (M : (Value → Value → Value → Value → Value → World → Prop) → World → Prop) (K : Value → Value → Value → Value → Value → World → Prop) (w : WK2 M K) : Prop
  | mk (R : Value → Value → Value → Value → Value → World → Prop) (h : M R w) (hk : ∀ v0 v1 v2 v3 v4 w', R v0 v1 v2 v3 v4 w' → K v0 v1 v2 v3 v4 w')
inductive Join6 (M : (Value → Value → Value → Value → Value → Value → World → Prop) → World → Prop) (K : Value → Value → Value → Value → Value → Value → World → Prop) (w : WK2 M K) : Prop
  | mk (R : Value → Value → Value → Value → Value → Value → World → Prop) (h : M R w) (hk : ∀ v0 v1 v2 v3 v4 v5 w', R v0 v1 v2 v3 v4 v5 w' → K v0 v1 v2 v3 v4 v5 w')
inductive Join7 (M : (Value → Value → Value → Value → Value → Value → Value → World → Prop) → World → Prop) (K : Value → Value → Value → Value → Value → Value → Value → World → Prop) (w : WK2 M K) : Prop
  | mk (R : Value → Value → Value → Value → Value → Value → Value → World → Prop) (h : M R w) (hk : ∀ v0 v1 v2 v3 v4 v5 v6 w', R v0 v1 v2 v3 v4 v5 v6 w' → K v0 v1 v2 v3 v4 v5 v6 w')
inductive Join8 (M : (Value → Value → Value → Value → Value → Value → Value → Value → World → Prop) → World → Prop) (K : Value → Value → Value → Value → Value → Value → Value → Value → World → Prop) (w : WK2 M K) : Prop
  | mk (R : Value → Value → Value → Value → Value → Value → Value → Value → World → Prop) (h : M R w) (hk : ∀ v0 v1 v2 v3 v4 v5 v6 v7 w', R v0 v1 v2 v3 v4 v5 v6 v7 w' → K v0 v1 v2 v3 v4 v5 v6 v7 w')
inductive Loop0 (body : (World → Prop) → World → Prop) (w : WK body) : Prop
  | mk (I : World → Prop) (μ : World → Nat) (h0 : I w) (round : ∀ w, I w → body (fun w' => I w' ∧ μ w' < μ w) w)
inductive Loop1 (s0 : Value) (body : Value → (Value → World → Prop) → World → Prop) (w : WK body) : Prop
  | mk (I : Value → World → Prop) (μ : Value → World → Nat) (h0 : I s0 w) (round : ∀ v0 w, I v0 w → body v0 (fun u0 w' => I u0 w' ∧ μ u0 w' < μ v0 w) w)
inductive Loop2 (s0 s1 : Value) (body : Value → Value → (Value → Value → World → Prop) → World → Prop) (w : WK body) : Prop
  | mk (I : Value → Value → World → Prop) (μ : Value → Value → World → Nat) (h0 : I s0 s1 w) (round : ∀ v0 v1 w, I v0 v1 w → body v0 v1 (fun u0 u1 w' => I u0 u1 w' ∧ μ u0 u1 w' < μ v0 v1 w) w)
inductive Loop3 (s0 s1 s2 : Value) (body : Value → Value → Value → (Value → Value → Value → World → Prop) → World → Prop) (w : WK body) : Prop
  | mk (I : Value → Value → Value → World → Prop) (μ : Value → Value → Value → World → Nat) (h0 : I s0 s1 s2 w) (round : ∀ v0 v1 v2 w, I v0 v1 v2 w → body v0 v1 v2 (fun u0 u1 u2 w' => I u0 u1 u2 w' ∧ μ u0 u1 u2 w' < μ v0 v1 v2 w) w)
inductive Loop4 (s0 s1 s2 s3 : Value) (body : Value → Value → Value → Value → (Value → Value → Value → Value → World → Prop) → World → Prop) (w : WK body) : Prop
  | mk (I : Value → Value → Value → Value → World → Prop) (μ : Value → Value → Value → Value → World → Nat) (h0 : I s0 s1 s2 s3 w) (round : ∀ v0 v1 v2 v3 w, I v0 v1 v2 v3 w → body v0 v1 v2 v3 (fun u0 u1 u2 u3 w' => I u0 u1 u2 u3 w' ∧ μ u0 u1 u2 u3 w' < μ v0 v1 v2 v3 w) w)
inductive Loop5 (s0 s1 s2 s3 s4 : Value) (body : Value → Value → Value → Value → Value → (Value → Value → Value → Value → Value → World → Prop) → World → Prop) (w : WK body) : Prop
  | mk (I : Value → Value → Value → Value → Value → World → Prop) (μ : Value → Value → Value → Value → Value → World → Nat) (h0 : I s0 s1 s2 s3 s4 w) (round : ∀ v0 v1 v2 v3 v4 w, I v0 v1 v2 v3 v4 w → body v0 v1 v2 v3 v4 (fun u0 u1 u2 u3 u4 w' => I u0 u1 u2 u3 u4 w' ∧ μ u0 u1 u2 u3 u4 w' < μ v0 v1 v2 v3 v4 w) w)
inductive Loop6 (s0 s1 s2 s3 s4 s5 : Value) (body : Value → Value → Value → Value → Value → Value → (Value → Value → Value → Value → Value → Value → World → Prop) → World → Prop) (w : WK body) : Prop
  | mk (I : Value → Value → Value → Value → Value → Value → World → Prop) (μ : Value → Value → Value → Value → Value → Value → World → Nat) (h0 : I s0 s1 s2 s3 s4 s5 w) (round : ∀ v0 v1 v2 v3 v4 v5 w, I v0 v1 v2 v3 v4 v5 w → body v0 v1 v2 v3 v4 v5 (fun u0 u1 u2 u3 u4 u5 w' => I u0 u1 u2 u3 u4 u5 w' ∧ μ u0 u1 u2 u3 u4 u5 w' < μ v0 v1 v2 v3 v4 v5 w) w)
inductive Loop7 (s0 s1 s2 s3 s4 s5 s6 : Value) (body : Value → Value → Value → Value → Value → Value → Value → (Value → Value → Value → Value → Value → Value → Value → World → Prop) → World → Prop) (w : WK body) : Prop
  | mk (I : Value → Value → Value → Value → Value → Value → Value → World → Prop) (μ : Value → Value → Value → Value → Value → Value → Value → World → Nat) (h0 : I s0 s1 s2 s3 s4 s5 s6 w) (round : ∀ v0 v1 v2 v3 v4 v5 v6 w, I v0 v1 v2 v3 v4 v5 v6 w → body v0 v1 v2 v3 v4 v5 v6 (fun u0 u1 u2 u3 u4 u5 u6 w' => I u0 u1 u2 u3 u4 u5 u6 w' ∧ μ u0 u1 u2 u3 u4 u5 u6 w' < μ v0 v1 v2 v3 v4 v5 v6 w) w)
inductive Loop8 (s0 s1 s2 s3 s4 s5 s6 s7 : Value) (body : Value → Value → Value → Value → Value → Value → Value → Value → (Value → Value → Value → Value → Value → Value → Value → Value → World → Prop) → World → Prop) (w : WK body) : Prop
  | mk (I : Value → Value → Value → Value → Value → Value → Value → Value → World → Prop) (μ : Value → Value → Value → Value → Value → Value → Value → Value → World → Nat) (h0 : I s0 s1 s2 s3 s4 s5 s6 s7 w) (round : ∀ v0 v1 v2 v3 v4 v5 v6 v7 w, I v0 v1 v2 v3 v4 v5 v6 v7 w → body v0 v1 v2 v3 v4 v5 v6 v7 (fun u0 u1 u2 u3 u4 u5 u6 u7 w' => I u0 u1 u2 u3 u4 u5 u6 u7 w' ∧ μ u0 u1 u2 u3 u4 u5 u6 u7 w' < μ v0 v1 v2 v3 v4 v5 v6 v7 w) w)
inductive Loop9 (s0 s1 s2 s3 s4 s5 s6 s7 s8 : Value) (body : Value → Value → Value → Value → Value → Value → Value → Value → Value → (Value → Value → Value → Value → Value → Value → Value → Value → Value → World → Prop) → World → Prop) (w : WK body) : Prop
  | mk (I : Value → Value → Value → Value → Value → Value → Value → Value → Value → World → Prop) (μ : Value → Value → Value → Value → Value → Value → Value → Value → Value → World → Nat) (h0 : I s0 s1 s2 s3 s4 s5 s6 s7 s8 w) (round : ∀ v0 v1 v2 v3 v4 v5 v6 v7 v8 w, I v0 v1 v2 v3 v4 v5 v6 v7 v8 w → body v0 v1 v2 v3 v4 v5 v6 v7 v8 (fun u0 u1 u2 u3 u4 u5 u6 u7 u8 w' => I u0 u1 u2 u3 u4 u5 u6 u7 u8 w' ∧ μ u0 u1 u2 u3 u4 u5 u6 u7 u8 w' < μ v0 v1 v2 v3 v4 v5 v6 v7 v8 w) w)
inductive Loop10 (s0 s1 s2 s3 s4 s5 s6 s7 s8 s9 : Value) (body : Value → Value → Value → Value → Value → Value → Value → Value → Value → Value → (Value → Value → Value → Value → Value → Value → Value → Value → Value → Value → World → Prop) → World → Prop) (w : WK body) : Prop
  | mk (I : Value → Value → Value → Value → Value → Value → Value → Value → Value → Value → World → Prop) (μ : Value → Value → Value → Value → Value → Value → Value → Value → Value → Value → World → Nat) (h0 : I s0 s1 s2 s3 s4 s5 s6 s7 s8 s9 w) (round : ∀ v0 v1 v2 v3 v4 v5 v6 v7 v8 v9 w, I v0 v1 v2 v3 v4 v5 v6 v7 v8 v9 w → body v0 v1 v2 v3 v4 v5 v6 v7 v8 v9 (fun u0 u1 u2 u3 u4 u5 u6 u7 u8 u9 w' => I u0 u1 u2 u3 u4 u5 u6 u7 u8 u9 w' ∧ μ u0 u1 u2 u3 u4 u5 u6 u7 u8 u9 w' < μ v0 v1 v2 v3 v4 v5 v6 v7 v8 v9 w) w)

def vget (e : Env) (s : Nat) (k : Value → Prop) : Prop :=
  match Env.get e s with
  | .unk => False
  | .und => False
  | .val v => k v
  | .lit b => k (.bool b)

def tvget (e : Env) (s : Nat) (k : Value → Prop) : Prop := bif Nat.beq s DK then False else vget e s k

def putE (e : Env) (dst : Option Nat) (x : Ent) : Env :=
  match dst with
  | some d => (d, x) :: e
  | none => e

def killAll : List Nat → Env → Env
  | [], e => e
  | d :: ds, e => (d, .unk) :: killAll ds e

def Ent.value? : Ent → Option Value
  | .unk => none
  | .und => none
  | .val v => some v
  | .lit b => some (.bool b)

/-- One operation, its guard decided. -/
def stepO (P : Program) (o : Oper) (e : Env) (k : Env → World → Prop) (w : World) : Prop :=
  match o.op with
  | .move x => k (putE e o.dst (entO e x)) w
  | .assign x => k (putE e o.dst (entO e x)) w
  | .pick c x y => match entO e c with
    | .lit b => bif b then k (putE e o.dst (entO e x)) w else k (putE e o.dst (entO e y)) w
    | .val v => BrW v (k (putE e o.dst (entO e x)) w) (k (putE e o.dst (entO e y)) w) ()
    | _ => False
  | .binOp op t x y _ => match (entO e x).value?, (entO e y).value? with
    | some a, some b => BinX P op t a b (fun v w => k (putE e o.dst (.val v)) w) w
    | _, _ => False
  | .go _ => False
  | .defer _ => False
  | .call { callee := .builtin .print, .. } => False
  | .call { callee := .builtin .println, .. } => False
  | op => OpX P (mapO (subO e) op) o.type (fun v w => k (putE e o.dst (.val v)) w) w

def dstOf (ops : List Oper) (j : Nat) : Option Nat :=
  match ops, j with
  | [], _ => none
  | o :: _, 0 => o.dst
  | _ :: os, j + 1 => dstOf os j

/-- One operation: its guard first. -/
def guardO (P : Program) (ops : List Oper) (o : Oper) (e : Env) (k : Env → World → Prop) (w : World) : Prop :=
  match o.guard with
  | none => stepO P o e k w
  | some (j, want) => match dstOf ops j with
    | none => False
    | some d => match tget e d with
      | .unk => False
      | .lit b => bif (bif b then want else !want) then stepO P o e k w else k (putE e o.dst .und) w
      | .und => k (putE e o.dst .und) w
      | .val v => BrW v
          (bif want then stepO P o ((d, .lit true) :: e) k w else k (putE ((d, .lit true) :: e) o.dst .und) w)
          (bif want then k (putE ((d, .lit false) :: e) o.dst .und) w else stepO P o ((d, .lit false) :: e) k w) ()

/-- The operations of a region one by one, in the text's order. -/
def trOps (P : Program) (ops : List Oper) : List Oper → Env → (Env → World → Prop) → World → Prop
  | [], e, K, w => K e w
  | o :: rest, e, K, w => guardO P ops o e (fun e w => trOps P ops rest e K w) w

/-- An operation that yields one value in every world, and changes none. -/
inductive PurX (P : Program) (op : Op) (type : TypeId) (K : Value → Prop) (u : UK K) : Prop
  | mk (v : Value) (h : ∀ ρ, Good ρ → ∀ w, (execOp ρ (mkOper op type)).run P w = .ok (.value v) w) (hk : K v)
/-- In world w the operation yields v, and leaves w. -/
inductive Yld (P : Program) (op : Op) (type : TypeId) (v : Value) (w : World) : Prop
  | mk (h : ∀ ρ, Good ρ → (execOp ρ (mkOper op type)).run P w = .ok (.value v) w)
inductive RdX (P : Program) (op : Op) (type : TypeId) (K : Value → Prop) (w : WK K) : Prop
  | mk (v : Value) (h : Yld P op type v w) (hk : K v)
def binS (op : BinOp) (t : TypeId) (a b : Value) (x y : Operand) : Sem Next := do eqGuard op t x y a b; return Next.value (← binOp op t a b)
inductive PurB (P : Program) (op : BinOp) (t : TypeId) (a b : Value) (K : Value → Prop) (u : UK K) : Prop
  | mk (v : Value) (h : ∀ x y w, (binS op t a b x y).run P w = .ok (.value v) w) (hk : K v)
inductive YldB (P : Program) (op : BinOp) (t : TypeId) (a b : Value) (v : Value) (w : World) : Prop
  | mk (h : ∀ x y, (binS op t a b x y).run P w = .ok (.value v) w)
inductive RdB (P : Program) (op : BinOp) (t : TypeId) (a b : Value) (K : Value → Prop) (w : WK K) : Prop
  | mk (v : Value) (h : YldB P op t a b v w) (hk : K v)

/-- 0: it acts; 1: a copy; 2: it yields the same in every world; 3: it reads. -/
def quietK : Op → Nat
  | .move _ => 1
  | .assign _ => 1
  | .pick _ _ _ => 1
  | .nilCheck _ => 2
  | .unOp _ _ _ => 2
  | .convert _ _ _ => 2
  | .fieldAddr _ _ _ => 2
  | .field _ _ _ => 2
  | .indexAddr _ _ _ => 2
  | .index _ _ _ => 2
  | .slice _ _ _ _ _ => 2
  | .extract _ _ => 2
  | .load _ _ => 3
  | .lookup _ _ _ _ => 3
  | .binOp .eql _ _ _ _ => 3
  | .binOp .neq _ _ _ _ => 3
  | .binOp _ _ _ _ _ => 2
  | .call { callee := .builtin .min, .. } => 2
  | .call { callee := .builtin .max, .. } => 2
  | .call { callee := .builtin .len, .. } => 3
  | .call { callee := .builtin .cap, .. } => 3
  | _ => 0


/-- One operation that does not act. 'k' gets what must still hold if an operation that acts comes between. -/
def stepQ (P : Program) (o : Oper) (e : Env) (k : Env → Option (World → Prop) → Prop) (w : World) : Prop :=
  match o.op with
  | .move x => k (putE e o.dst (entO e x)) none
  | .assign x => k (putE e o.dst (entO e x)) none
  | .pick c x y => match entO e c with
    | .lit b => bif b then k (putE e o.dst (entO e x)) none else k (putE e o.dst (entO e y)) none
    | .val v => BrW v (k (putE e o.dst (entO e x)) none) (k (putE e o.dst (entO e y)) none) ()
    | _ => False
  | .binOp op t x y _ => match (entO e x).value?, (entO e y).value? with
    | some a, some b => bif Nat.beq (quietK o.op) 2 then PurB P op t a b (fun v => k (putE e o.dst (.val v)) none) ()
        else RdB P op t a b (fun v => k (putE e o.dst (.val v)) (some (YldB P op t a b v))) w
    | _, _ => False
  | op => match quietK op with
    | 2 => PurX P (mapO (subO e) op) o.type (fun v => k (putE e o.dst (.val v)) none) ()
    | 3 => RdX P (mapO (subO e) op) o.type (fun v => k (putE e o.dst (.val v)) (some (Yld P (mapO (subO e) op) o.type v))) w
    | _ => False

def guardQ (ops : List Oper) (o : Oper) (e : Env) (run skip : Env → Prop) : Prop :=
  match o.guard with
  | none => run e
  | some (j, want) => match dstOf ops j with
    | none => False
    | some d => match tget e d with
      | .unk => False
      | .lit b => bif (bif b then want else !want) then run e else skip e
      | .und => skip e
      | .val v => BrW v (bif want then run ((d, .lit true) :: e) else skip ((d, .lit true) :: e)) (bif want then skip ((d, .lit false) :: e) else run ((d, .lit false) :: e)) ()

abbrev Held := List (Nat × (World → Prop))

def oblW : List (Nat × (World → Prop)) → World → Prop → Prop
  | [], _, X => X
  | p :: l, w, X => p.2 w ∧ oblW l w X

/-- All that an operation waits for, as the bits of a number. -/
def maskE (acc : List Nat) : List Edge → Nat → Nat
  | [], s => s
  | e :: es, s => maskE acc es (bif Region.binds .any e then s ||| 2 ^ e.on ||| acc.getD e.on 0 else s)
def masks : List Oper → List Nat → List Nat
  | [], acc => acc
  | o :: os, acc => masks os (acc ++ [maskE acc o.after.toList 0])

def twB (ms : List Nat) (j i : Nat) : Bool := (ms.getD j 0).testBit i

def keepH (ms : List Nat) (j : Nat) : List (Nat × (World → Prop)) → List (Nat × (World → Prop))
  | [] => []
  | p :: l => bif twB ms j p.1 then keepH ms j l else p :: keepH ms j l

def okE (m : Nat) : List Edge → Bool
  | [] => true
  | e :: es => (bif Region.binds .any e then m.testBit e.on else true) && okE m es

/-- What may come up next, 'm' being done. -/
def readyL : List Oper → Nat → Nat → List Nat
  | [], _, _ => []
  | o :: os, i, m => bif (!m.testBit i && okE m o.after.toList) then i :: readyL os (i + 1) m else readyL os (i + 1) m

def quietAt (ops : List Oper) (i : Nat) : Bool :=
  match ops, i with
  | [], _ => false
  | o :: _, 0 => !(Nat.beq (quietK o.op) 0)
  | _ :: os, j + 1 => quietAt os j

def firstQ (ops : List Oper) : List Nat → Option Nat
  | [] => none
  | i :: is => bif quietAt ops i then some i else firstQ ops is

def allL : List Nat → (Nat → Prop) → Prop
  | [], _ => True
  | [j], f => f j
  | j :: js, f => f j ∧ allL js f

def nthO : List Oper → Nat → Option Oper
  | [], _ => none
  | o :: _, 0 => some o
  | _ :: os, j + 1 => nthO os j

/-- A region that draws its order: reads and reckonings first, what acts in whatever order is left. -/
def trD (P : Program) (ops : List Oper) (ms : List Nat) : Nat → Nat → List (Nat × (World → Prop)) → Env → (Env → World → Prop) → World → Prop
  | 0, m, _, e, K, w => match readyL ops 0 m with
    | [] => K e w
    | _ => False
  | n + 1, m, held, e, K, w => match readyL ops 0 m with
    | [] => K e w
    | rs => match firstQ ops rs with
      | some i => match nthO ops i with
        | none => False
        | some o => guardQ ops o e
            (fun e => stepQ P o e (fun e S => trD P ops ms n (m ||| 2 ^ i) (match S with | some S => (i, S) :: held | none => held) e K w) w)
            (fun e => trD P ops ms n (m ||| 2 ^ i) held (putE e o.dst .und) K w)
      | none => allL rs fun j => match nthO ops j with
        | none => False
        | some o => guardQ ops o e
            (fun e => stepO P o e (fun e w => oblW (keepH ms j held) w (trD P ops ms n (m ||| 2 ^ j) (keepH ms j held) e K w)) w)
            (fun e => trD P ops ms n (m ||| 2 ^ j) (keepH ms j held) (putE e o.dst .und) K w)

def waitsOn (o : Oper) (i : Nat) : Bool := o.after.toList.any fun e => Region.binds .any e && Nat.beq e.on i

/-- Any two operations of which neither waits for the other are apart; none is a select. -/
def apartOK (ops : Array Oper) (ms : List Nat) : Bool :=
  Region.noSelect ops && ops.toList.zipIdx.all fun (oi, i) => ops.toList.zipIdx.all fun (oj, j) => Nat.beq i j || waitsOn oj i || twB ms i j || oi.apart ops oj

def joinL (J : List Nat) (base : Env) (M : (Env → World → Prop) → World → Prop) (K : Env → World → Prop) (w : World) : Prop :=
  match J with
  | [] => Join0 (fun k w => M (fun e' w => k w) w) (fun w => K base w) w
  | [s0] => Join1 (fun k w => M (fun e' w => vget e' s0 fun v0 => k v0 w) w) (fun v0 w => K ((s0, .val v0) :: base) w) w
  | [s0, s1] => Join2 (fun k w => M (fun e' w => vget e' s0 fun v0 => vget e' s1 fun v1 => k v0 v1 w) w) (fun v0 v1 w => K ((s0, .val v0) :: (s1, .val v1) :: base) w) w
  | [s0, s1, s2] => Join3 (fun k w => M (fun e' w => vget e' s0 fun v0 => vget e' s1 fun v1 => vget e' s2 fun v2 => k v0 v1 v2 w) w) (fun v0 v1 v2 w => K ((s0, .val v0) :: (s1, .val v1) :: (s2, .val v2) :: base) w) w
  | [s0, s1, s2, s3] => Join4 (fun k w => M (fun e' w => vget e' s0 fun v0 => vget e' s1 fun v1 => vget e' s2 fun v2 => vget e' s3 fun v3 => k v0 v1 v2 v3 w) w) (fun v0 v1 v2 v3 w => K ((s0, .val v0) :: (s1, .val v1) :: (s2, .val v2) :: (s3, .val v3) :: base) w) w
  | [s0, s1, s2, s3, s4] => Join5 (fun k w => M (fun e' w => vget e' s0 fun v0 => vget e' s1 fun v1 => vget e' s2 fun v2 => vget e' s3 fun v3 => vget e' s4 fun v4 => k v0 v1 v2 v3 v4 w) w) (fun v0 v1 v2 v3 v4 w => K ((s0, .val v0) :: (s1, .val v1) :: (s2, .val v2) :: (s3, .val v3) :: (s4, .val v4) :: base) w) w
  | [s0, s1, s2, s3, s4, s5] => Join6 (fun k w => M (fun e' w => vget e' s0 fun v0 => vget e' s1 fun v1 => vget e' s2 fun v2 => vget e' s3 fun v3 => vget e' s4 fun v4 => vget e' s5 fun v5 => k v0 v1 v2 v3 v4 v5 w) w) (fun v0 v1 v2 v3 v4 v5 w => K ((s0, .val v0) :: (s1, .val v1) :: (s2, .val v2) :: (s3, .val v3) :: (s4, .val v4) :: (s5, .val v5) :: base) w) w
  | [s0, s1, s2, s3, s4, s5, s6] => Join7 (fun k w => M (fun e' w => vget e' s0 fun v0 => vget e' s1 fun v1 => vget e' s2 fun v2 => vget e' s3 fun v3 => vget e' s4 fun v4 => vget e' s5 fun v5 => vget e' s6 fun v6 => k v0 v1 v2 v3 v4 v5 v6 w) w) (fun v0 v1 v2 v3 v4 v5 v6 w => K ((s0, .val v0) :: (s1, .val v1) :: (s2, .val v2) :: (s3, .val v3) :: (s4, .val v4) :: (s5, .val v5) :: (s6, .val v6) :: base) w) w
  | [s0, s1, s2, s3, s4, s5, s6, s7] => Join8 (fun k w => M (fun e' w => vget e' s0 fun v0 => vget e' s1 fun v1 => vget e' s2 fun v2 => vget e' s3 fun v3 => vget e' s4 fun v4 => vget e' s5 fun v5 => vget e' s6 fun v6 => vget e' s7 fun v7 => k v0 v1 v2 v3 v4 v5 v6 v7 w) w) (fun v0 v1 v2 v3 v4 v5 v6 v7 w => K ((s0, .val v0) :: (s1, .val v1) :: (s2, .val v2) :: (s3, .val v3) :: (s4, .val v4) :: (s5, .val v5) :: (s6, .val v6) :: (s7, .val v7) :: base) w) w
  | _ => False

def loopL (L : List Nat) (e : Env) (base : Env) (body : Env → (Env → World → Prop) → World → Prop) (w : World) : Prop :=
  match L with
  | [] => Loop0 (fun next w => body (base) (fun e' w => next w) w) w
  | [s0] => vget e s0 fun u0 => Loop1 u0 (fun v0 next w => body ((s0, .val v0) :: base) (fun e' w => vget e' s0 fun v0 => next v0 w) w) w
  | [s0, s1] => vget e s0 fun u0 => vget e s1 fun u1 => Loop2 u0 u1 (fun v0 v1 next w => body ((s0, .val v0) :: (s1, .val v1) :: base) (fun e' w => vget e' s0 fun v0 => vget e' s1 fun v1 => next v0 v1 w) w) w
  | [s0, s1, s2] => vget e s0 fun u0 => vget e s1 fun u1 => vget e s2 fun u2 => Loop3 u0 u1 u2 (fun v0 v1 v2 next w => body ((s0, .val v0) :: (s1, .val v1) :: (s2, .val v2) :: base) (fun e' w => vget e' s0 fun v0 => vget e' s1 fun v1 => vget e' s2 fun v2 => next v0 v1 v2 w) w) w
  | [s0, s1, s2, s3] => vget e s0 fun u0 => vget e s1 fun u1 => vget e s2 fun u2 => vget e s3 fun u3 => Loop4 u0 u1 u2 u3 (fun v0 v1 v2 v3 next w => body ((s0, .val v0) :: (s1, .val v1) :: (s2, .val v2) :: (s3, .val v3) :: base) (fun e' w => vget e' s0 fun v0 => vget e' s1 fun v1 => vget e' s2 fun v2 => vget e' s3 fun v3 => next v0 v1 v2 v3 w) w) w
  | [s0, s1, s2, s3, s4] => vget e s0 fun u0 => vget e s1 fun u1 => vget e s2 fun u2 => vget e s3 fun u3 => vget e s4 fun u4 => Loop5 u0 u1 u2 u3 u4 (fun v0 v1 v2 v3 v4 next w => body ((s0, .val v0) :: (s1, .val v1) :: (s2, .val v2) :: (s3, .val v3) :: (s4, .val v4) :: base) (fun e' w => vget e' s0 fun v0 => vget e' s1 fun v1 => vget e' s2 fun v2 => vget e' s3 fun v3 => vget e' s4 fun v4 => next v0 v1 v2 v3 v4 w) w) w
  | [s0, s1, s2, s3, s4, s5] => vget e s0 fun u0 => vget e s1 fun u1 => vget e s2 fun u2 => vget e s3 fun u3 => vget e s4 fun u4 => vget e s5 fun u5 => Loop6 u0 u1 u2 u3 u4 u5 (fun v0 v1 v2 v3 v4 v5 next w => body ((s0, .val v0) :: (s1, .val v1) :: (s2, .val v2) :: (s3, .val v3) :: (s4, .val v4) :: (s5, .val v5) :: base) (fun e' w => vget e' s0 fun v0 => vget e' s1 fun v1 => vget e' s2 fun v2 => vget e' s3 fun v3 => vget e' s4 fun v4 => vget e' s5 fun v5 => next v0 v1 v2 v3 v4 v5 w) w) w
  | [s0, s1, s2, s3, s4, s5, s6] => vget e s0 fun u0 => vget e s1 fun u1 => vget e s2 fun u2 => vget e s3 fun u3 => vget e s4 fun u4 => vget e s5 fun u5 => vget e s6 fun u6 => Loop7 u0 u1 u2 u3 u4 u5 u6 (fun v0 v1 v2 v3 v4 v5 v6 next w => body ((s0, .val v0) :: (s1, .val v1) :: (s2, .val v2) :: (s3, .val v3) :: (s4, .val v4) :: (s5, .val v5) :: (s6, .val v6) :: base) (fun e' w => vget e' s0 fun v0 => vget e' s1 fun v1 => vget e' s2 fun v2 => vget e' s3 fun v3 => vget e' s4 fun v4 => vget e' s5 fun v5 => vget e' s6 fun v6 => next v0 v1 v2 v3 v4 v5 v6 w) w) w
  | [s0, s1, s2, s3, s4, s5, s6, s7] => vget e s0 fun u0 => vget e s1 fun u1 => vget e s2 fun u2 => vget e s3 fun u3 => vget e s4 fun u4 => vget e s5 fun u5 => vget e s6 fun u6 => vget e s7 fun u7 => Loop8 u0 u1 u2 u3 u4 u5 u6 u7 (fun v0 v1 v2 v3 v4 v5 v6 v7 next w => body ((s0, .val v0) :: (s1, .val v1) :: (s2, .val v2) :: (s3, .val v3) :: (s4, .val v4) :: (s5, .val v5) :: (s6, .val v6) :: (s7, .val v7) :: base) (fun e' w => vget e' s0 fun v0 => vget e' s1 fun v1 => vget e' s2 fun v2 => vget e' s3 fun v3 => vget e' s4 fun v4 => vget e' s5 fun v5 => vget e' s6 fun v6 => vget e' s7 fun v7 => next v0 v1 v2 v3 v4 v5 v6 v7 w) w) w
  | [s0, s1, s2, s3, s4, s5, s6, s7, s8] => vget e s0 fun u0 => vget e s1 fun u1 => vget e s2 fun u2 => vget e s3 fun u3 => vget e s4 fun u4 => vget e s5 fun u5 => vget e s6 fun u6 => vget e s7 fun u7 => vget e s8 fun u8 => Loop9 u0 u1 u2 u3 u4 u5 u6 u7 u8 (fun v0 v1 v2 v3 v4 v5 v6 v7 v8 next w => body ((s0, .val v0) :: (s1, .val v1) :: (s2, .val v2) :: (s3, .val v3) :: (s4, .val v4) :: (s5, .val v5) :: (s6, .val v6) :: (s7, .val v7) :: (s8, .val v8) :: base) (fun e' w => vget e' s0 fun v0 => vget e' s1 fun v1 => vget e' s2 fun v2 => vget e' s3 fun v3 => vget e' s4 fun v4 => vget e' s5 fun v5 => vget e' s6 fun v6 => vget e' s7 fun v7 => vget e' s8 fun v8 => next v0 v1 v2 v3 v4 v5 v6 v7 v8 w) w) w
  | [s0, s1, s2, s3, s4, s5, s6, s7, s8, s9] => vget e s0 fun u0 => vget e s1 fun u1 => vget e s2 fun u2 => vget e s3 fun u3 => vget e s4 fun u4 => vget e s5 fun u5 => vget e s6 fun u6 => vget e s7 fun u7 => vget e s8 fun u8 => vget e s9 fun u9 => Loop10 u0 u1 u2 u3 u4 u5 u6 u7 u8 u9 (fun v0 v1 v2 v3 v4 v5 v6 v7 v8 v9 next w => body ((s0, .val v0) :: (s1, .val v1) :: (s2, .val v2) :: (s3, .val v3) :: (s4, .val v4) :: (s5, .val v5) :: (s6, .val v6) :: (s7, .val v7) :: (s8, .val v8) :: (s9, .val v9) :: base) (fun e' w => vget e' s0 fun v0 => vget e' s1 fun v1 => vget e' s2 fun v2 => vget e' s3 fun v3 => vget e' s4 fun v4 => vget e' s5 fun v5 => vget e' s6 fun v6 => vget e' s7 fun v7 => vget e' s8 fun v8 => vget e' s9 fun v9 => next v0 v1 v2 v3 v4 v5 v6 v7 v8 v9 w) w) w
  | _ => False

/-- How a loop over a function stands. -/
inductive LSt where
  | ready
  | busy
  | gone (ex : Ex)
  | over (ex : Ex)
def nthV : List Value → Nat → Value
  | [], _ => undef
  | v :: _, 0 => v
  | _ :: l, n + 1 => nthV l n
/-- A value that is called. -/
def YCall (P : Program) (yv : Value) (vs : List Value) (K : Value → World → Prop) (w : World) : Prop :=
  ∀ (ats : Array TypeId) (ty : TypeId), OpX P (.call { callee := .value (.const yv), args := (vs.map Operand.const).toArray, argTypes := ats }) ty K w
inductive CallV (P : Program) (fv : Value) (vs : List Value) (w : World) (R : World → Prop) : Prop
  | mk (f : FuncId) (us cs : List Value) (hf : fv = .func (.func f) us.toArray cs.toArray) (hb : Bodied P f) (h : Calls P f (us ++ vs ++ cs).toArray w (retK fun _ w' => R w'))
/-- A loop over a function: its rounds (M), and what holds behind it: behind its end, a return, an exit out of a round. -/
inductive RngX (P : Program) (fv : Value) (np : Nat) (M : List Value → ((World → Prop) → World → Prop) → (World → Prop) → (World → Prop) → (Nat → World → Prop) → World → Prop)
    (QN QR : Nat → World → Prop) (QE : List (Nat × (Nat → World → Prop))) (w : World) : Prop
  | mk (h : ∀ (Lp : LSt → Obj) (yv : Value),
      (∀ vs w2 K, vs.length = np → w2.heap[w.heap.size + 1]? = some (Lp .ready) →
        M vs (fun K w1 => w1.heap[w.heap.size + 1]? = some (Lp .ready) ∧ K (setBlk w1 (w.heap.size + 1) (Lp .busy)))
          (fun w3 => w3.heap[w.heap.size + 1]? = some (Lp .busy) ∧ K (.bool true) (setBlk w3 (w.heap.size + 1) (Lp .ready)))
          (fun w3 => w3.heap[w.heap.size + 1]? = some (Lp .busy) ∧ K (.bool false) (setBlk w3 (w.heap.size + 1) (Lp (.gone .ret))))
          (fun id w3 => w3.heap[w.heap.size + 1]? = some (Lp .busy) ∧ K (.bool false) (setBlk w3 (w.heap.size + 1) (Lp (.gone (.exit id)))))
          w2 → YCall P yv vs K w2) →
      CallV P fv [yv] ((w.alloc (.deferred (some []))).alloc (Lp .ready)) fun w3 =>
        (w3.heap[w.heap.size + 1]? = some (Lp .ready) ∧ QN w.heap.size (setBlk w3 (w.heap.size + 1) (Lp (.over .normal)))) ∨
        (w3.heap[w.heap.size + 1]? = some (Lp (.gone .ret)) ∧ QR w.heap.size (setBlk w3 (w.heap.size + 1) (Lp (.over .ret)))) ∨
        (∃ id q, (id, q) ∈ QE ∧ w3.heap[w.heap.size + 1]? = some (Lp (.gone (.exit id))) ∧ q w.heap.size (setBlk w3 (w.heap.size + 1) (Lp (.over (.exit id))))))

abbrev Hints := List (Nat × List Nat)
def hint : Hints → Nat → Option (List Nat)
  | [], _ => none
  | (m, l) :: hs, n => bif Nat.beq m n then some l else hint hs n

def dsts : List Oper → List Nat
  | [] => []
  | o :: os => match o.dst with
    | some d => d :: dsts os
    | none => dsts os

/-- The temporaries that code writes. -/
def writes : Code → List Nat
  | .region _ ops _ => dsts ops.toList
  | .seq x y => writes x ++ writes y
  | .cond _ x y => writes x ++ writes y
  | .block _ c => writes c
  | .loop c => writes c
  | .scope c => writes c
  | .rangeFunc _ _ _ _ => [DK]
  | _ => []

def csize : Code → Nat
  | .seq x y => csize x + csize y + 1
  | .cond _ x y => csize x + csize y + 1
  | .block _ c => csize c + 1
  | .loop c => csize c + 1
  | .scope c => csize c + 1
  | .rangeFunc _ _ x y => csize x + csize y + 1
  | _ => 1

def thnE (next : Env → World → Prop) (Q : Ex → Env → World → Prop) : Ex → Env → World → Prop
  | .normal, e, w => next e w
  | .exit id, e, w => Q (.exit id) e w
  | .ret, e, w => Q .ret e w

def inBlkE (id : Nat) (next : Env → World → Prop) (Q : Ex → Env → World → Prop) : Ex → Env → World → Prop
  | .normal, e, w => next e w
  | .exit id', e, w => bif Nat.beq id' id then next e w else Q (.exit id') e w
  | .ret, e, w => Q .ret e w

def memB : List Nat → Nat → Bool
  | [], _ => false
  | d :: ds, n => Nat.beq d n || memB ds n
/-- The exits out of a round, each once. -/
def exIds : Code → List Nat → List Nat → List Nat
  | .exit id, bound, acc => bif memB bound id || memB acc id then acc else acc ++ [id]
  | .seq x y, bound, acc => exIds y bound (exIds x bound acc)
  | .cond _ x y, bound, acc => exIds y bound (exIds x bound acc)
  | .block id c, bound, acc => exIds c (id :: bound) acc
  | .loop c, bound, acc => exIds c bound acc
  | .scope c, bound, acc => exIds c bound acc
  | _, _, acc => acc
def hasRet : Code → Bool
  | .ret => true
  | .seq x y => hasRet x || hasRet y
  | .cond _ x y => hasRet x || hasRet y
  | .block _ c => hasRet c
  | .loop c => hasRet c
  | .scope c => hasRet c
  | _ => false
def bindR : List Tmp → Nat → List Value → Env → Env
  | [], _, _, e => e
  | p :: ps, i, vs, e => bindR ps (i + 1) vs ((p, .val (nthV vs i)) :: e)
def rndQ (kn kr : World → Prop) (kx : Nat → World → Prop) : Ex → Env → World → Prop
  | .normal, _, w => kn w
  | .ret, _, w => kr w
  | .exit id, _, w => kx id w
def qret (b : Bool) (q : Nat → World → Prop) : Nat → World → Prop := bif b then q else fun _ _ => False

def refine1 (e : Env) (c : Operand) (b : Bool) : Env :=
  match c with
  | .tmp t => (t, .lit b) :: e
  | _ => e

def tr (P : Program) (top : Bool) (hs : Hints) : Code → Nat → (Ex → Env → World → Prop) → Env → World → Prop
  | .skip, _, Q, e, w => Q .normal e w
  | .region _ ops false, n, Q, e, w => match hint hs n with
    | none => trOps P ops.toList ops.toList e (fun e w => Q .normal e w) w
    | some J => joinL J (killAll (dsts ops.toList) e) (fun k w => trOps P ops.toList ops.toList e k w) (fun e w => Q .normal e w) w
  | .region _ ops true, n, Q, e, w => match apartOK ops (masks ops.toList []) with
    | false => False
    | true => match hint hs n with
      | none => trD P ops.toList (masks ops.toList []) ops.size 0 [] e (fun e w => Q .normal e w) w.drew
      | some J => joinL J (killAll (dsts ops.toList) e) (fun k w => trD P ops.toList (masks ops.toList []) ops.size 0 [] e k w) (fun e w => Q .normal e w) w.drew
  | .seq x y, n, Q, e, w => match hint hs n with
    | none => tr P top hs x (n + 1) (thnE (fun e w => tr P top hs y (n + 1 + csize x) Q e w) Q) e w
    | some J => joinL J (killAll (writes x) e) (fun k w => tr P top hs x (n + 1) (thnE k Q) e w) (fun e w => tr P top hs y (n + 1 + csize x) Q e w) w
  | .cond c x y, n, Q, e, w => match entO e c with
    | .unk => False
    | .und => False
    | .lit b => bif b then tr P top hs x (n + 1) Q e w else tr P top hs y (n + 1 + csize x) Q e w
    | .val v => BrW v (tr P top hs x (n + 1) Q (refine1 e c true) w) (tr P top hs y (n + 1 + csize x) Q (refine1 e c false) w) ()
  | .block id c, n, Q, e, w => match hint hs n with
    | none => tr P top hs c (n + 1) (inBlkE id (fun e w => Q .normal e w) Q) e w
    | some J => joinL J (killAll (writes c) e) (fun k w => tr P top hs c (n + 1) (inBlkE id k Q) e w) (fun e w => Q .normal e w) w
  | .loop c, n, Q, e, w => match hint hs n with
    | none => False
    | some L => loopL L e (killAll (writes c) e) (fun e next w => tr P top hs c (n + 1) (thnE next Q) e w) w
  | .rangeFunc f params x y, n, Q, e, w => match top, entO e f, Env.get e DK with
    | true, .val fv, .val dv => RngX P fv params.size
        (fun vs bg kn kr kx w => tr P false hs x (n + 1) (thnE (fun e w => bg (fun w => tr P false hs y (n + 1 + csize x) (rndQ kn kr kx) e w) w) (fun _ _ _ => False)) (bindR params.toList 0 vs ((DK, .unk) :: e)) w)
        (fun r w => Q .normal ((DK, .val (dcons r dv)) :: e) w)
        (qret (hasRet y) fun r w => Q .ret ((DK, .val (dcons r dv)) :: e) w)
        ((exIds y [] []).map fun id => (id, fun r w => Q (.exit id) ((DK, .val (dcons r dv)) :: e) w)) w
    | _, _, _ => False
  | .exit id, _, Q, e, w => Q (.exit id) e w
  | .ret, _, Q, e, w => Q .ret e w
  | _, _, _, _, _ => False

/-- What a function hands back. -/
def pack : List Value → Value
  | [v] => v
  | vs => .tuple vs.toArray

def trRes (P : Program) : List ResultVar → List Value → (Value → World → Prop) → Env → World → Prop
  | [], acc, K, _, w => K (pack acc.reverse) w
  | .tmp t :: rs, acc, K, e, w => tvget e t fun v => trRes P rs (v :: acc) K e w
  | .cell a t :: rs, acc, K, e, w => tvget e a fun v => LdR P t v (fun x w => trRes P rs (x :: acc) K e w) w

def retQ (P : Program) (rs : List ResultVar) (K : Value → World → Prop) : Ex → Env → World → Prop
  | .normal, e, w => vget e DK fun v => closeV v (fun w => trRes P rs [] K e w) w
  | .ret, e, w => vget e DK fun v => closeV v (fun w => trRes P rs [] K e w) w
  | .exit _, _, _ => False

def enterE : Nat → List Value → Env
  | _, [] => []
  | i, v :: vs => (i, .val v) :: enterE (i + 1) vs
/-- .. and no call is put off. -/
def enterD (vs : List Value) : Env := (DK, .val (.tuple #[])) :: enterE 0 vs

/-- Every temporary that is written is one of the frame's N; nothing is deferred. -/
def okOps (N : Nat) : List Oper → Bool
  | [] => true
  | o :: os => (match o.dst with | some d => Nat.blt d N | none => true) && okOps N os

def wfc (N : Nat) : Code → Bool
  | .region _ ops _ => okOps N ops.toList
  | .seq x y => wfc N x && wfc N y
  | .cond _ x y => wfc N x && wfc N y
  | .block _ c => wfc N c
  | .loop c => wfc N c
  | .scope c => wfc N c
  | .rangeFunc _ ps x y => ps.toList.all (fun p => Nat.blt p N) && wfc N x && wfc N y
  | _ => true

end Lyc
