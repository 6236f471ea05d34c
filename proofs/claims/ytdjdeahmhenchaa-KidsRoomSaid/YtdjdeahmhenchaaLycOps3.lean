/-
  What single operations come to: memory, slices, calls.
-/
import Derived.Test.YtdjdeahmhenchaaLycOps2
set_option linter.unusedSimpArgs false
set_option linter.unusedVariables false
namespace Lyc
open Go
section
variable {P : Program}

@[go_sem] theorem add_mk (b o n : Nat) : (⟨b, o, none⟩ : Addr).add n = ⟨b, o + n, none⟩ := by
  unfold Addr.add
  by_cases h : n = 0
  · subst h; simp
  · simp [h]

/-! ### Loads -/
def LdX (P : Program) (t ty : TypeId) (a : Addr) (o : Option Value) (K : Value → World → Prop) (w : WK K) : Prop :=
  match o with | some v => K v w | none => OpX P (.load t (.const (.pointer (some a)))) ty K w
@[go_sem] theorem LdX_some (t ty : TypeId) (a : Addr) (v : Value) (K : Value → World → Prop) (w : World) : LdX P t ty a (some v) K w = K v w := rfl
def LdA (P : Program) (t ty : TypeId) (a : Addr) (o : Option (Array Value)) (K : Value → World → Prop) (w : WK K) : Prop :=
  match o with | some v => K (.agg v) w | none => OpX P (.load t (.const (.pointer (some a)))) ty K w
@[go_sem] theorem LdA_some (t ty : TypeId) (a : Addr) (v : Array Value) (K : Value → World → Prop) (w : World) : LdA P t ty a (some v) K w = K (.agg v) w := rfl

theorem run_load1 {t : TypeId} (ht : tagg P t = some false) {b o : Nat} {v : Value} {w : World} (h : cellAt w.heap[b]? o = some v) : (loadVar t ⟨b, o, none⟩).run P w = .ok v w := by
  rw [← cell?_at] at h
  unfold loadVar
  simp [run_isAgg ht, h]
theorem run_loadA {t : TypeId} (ht : tagg P t = some true) {n : Nat} (hn : tsize P t = some n) {b o : Nat} {c : Array Value} {w : World} (h : aggAt w.heap[b]? o n = some c) : (loadVar t ⟨b, o, none⟩).run P w = .ok (.agg c) w := by
  unfold loadVar
  have hc : c.toList.length = n ∧ ∀ j v, c.toList[j]? = some v → w.cell? ((⟨b, o, none⟩ : Addr).add j) = some v := by
    unfold aggAt at h
    split at h
    · rename_i x cs e fr hb
      split at h
      · rename_i hle
        cases h
        refine ⟨by simp; omega, fun j v hj => ?_⟩
        rw [add_mk, cell?_at, hb, cellAt_cells]
        have hj' : j < n := by
          have := (List.getElem?_eq_some_iff.1 hj).1
          simp at this; omega
        have := hj
        simp only [Array.getElem?_toList] at this
        rw [Array.getElem?_extract_of_lt (by omega)] at this
        rw [← this]
        have hlt : o + j < cs.size := by omega
        simp [hlt]
      · simp at h
    · simp at h
  obtain ⟨hl, hc⟩ := hc
  have := run_loadCells_list (P := P) w ⟨b, o, none⟩ c.toList hc
  rw [hl] at this
  simp [run_isAgg ht, run_size hn, this]

theorem exec_load (ρ : Operand → Value) (t ty : TypeId) (x : Operand) (a : Addr) (v : Value) (w : World) (hx : ρ x = .pointer (some a)) (h : (loadVar t a).run P w = .ok v w) :
    (execOp ρ (mkOper (.load t x) ty)).run P w = .ok (.value v) w := by
  simp [execOp, mkOper, hx, Instr.loadAt, Instr.sureAddr, h]

@[go_sem] theorem x_load (t ty : TypeId) (b o : Nat) (K : Value → World → Prop) (w : World) (ht : tagg P t = some false) :
    OpX P (.load t (.const (.pointer (some ⟨b, o, none⟩)))) ty K w = LdX P t ty ⟨b, o, none⟩ (cellAt w.heap[b]? o) K w := by
  cases h : cellAt w.heap[b]? o with
  | none => rfl
  | some v => rw [LdX_some]; exact OpX_ok fun ρ hg => exec_load ρ t ty _ _ v w (hg.1 _) (run_load1 ht h)
theorem tsizeA_spec {t : TypeId} {n : Nat} (h : tsizeA P t = some n) : tagg P t = some true ∧ tsize P t = some n := by
  unfold tsizeA at h
  cases ht : tagg P t with
  | none => rw [ht] at h; simp at h
  | some b => rw [ht] at h; cases b <;> simp at h; exact ⟨rfl, h⟩
@[go_sem] theorem x_loadA (t ty : TypeId) (b o : Nat) (K : Value → World → Prop) (w : World) (_ht : tagg P t = some true) :
    OpX P (.load t (.const (.pointer (some ⟨b, o, none⟩)))) ty K w = OrK ((tsizeA P t).bind (aggAt w.heap[b]? o)) (fun c => K (.agg c) w) (OpX P (.load t (.const (.pointer (some ⟨b, o, none⟩)))) ty K w) () := by
  refine OrK_by (fun c h => ?_) rfl
  obtain ⟨n, hn, h⟩ := Option.bind_eq_some_iff.1 h
  exact OpX_ok fun ρ hg => exec_load ρ t ty _ _ _ w (hg.1 _) (run_loadA (tsizeA_spec hn).1 (tsizeA_spec hn).2 h)

/-- A load that is taken first, and what must hold of it later. -/
def LdQ (P : Program) (t ty : TypeId) (a : Addr) (o : Option Value) (K : Value → Prop) (w : WK K) : Prop :=
  match o with | some v => K v | none => RdX P (.load t (.const (.pointer (some a)))) ty K w
@[go_sem] theorem LdQ_some (t ty : TypeId) (a : Addr) (v : Value) (K : Value → Prop) (w : World) : LdQ P t ty a (some v) K w = K v := rfl
@[go_sem] theorem q_load (t ty : TypeId) (b o : Nat) (K : Value → Prop) (w : World) (ht : tagg P t = some false) :
    RdX P (.load t (.const (.pointer (some ⟨b, o, none⟩)))) ty K w = LdQ P t ty ⟨b, o, none⟩ (cellAt w.heap[b]? o) K w := by
  cases h : cellAt w.heap[b]? o with
  | none => rfl
  | some v => rw [LdQ_some]; exact RdX_ok fun ρ hg => exec_load ρ t ty _ _ v w (hg.1 _) (run_load1 ht h)
@[go_sem] theorem q_loadA (t ty : TypeId) (b o : Nat) (K : Value → Prop) (w : World) (_ht : tagg P t = some true) :
    RdX P (.load t (.const (.pointer (some ⟨b, o, none⟩)))) ty K w = OrK ((tsizeA P t).bind (aggAt w.heap[b]? o)) (fun c => K (.agg c)) (RdX P (.load t (.const (.pointer (some ⟨b, o, none⟩)))) ty K w) () := by
  refine OrK_by (fun c h => ?_) rfl
  obtain ⟨n, hn, h⟩ := Option.bind_eq_some_iff.1 h
  exact RdX_ok fun ρ hg => exec_load ρ t ty _ _ _ w (hg.1 _) (run_loadA (tsizeA_spec hn).1 (tsizeA_spec hn).2 h)
/-- What a load yields, asked again. -/
def YdX (P : Program) (t ty : TypeId) (a : Addr) (o : Option Value) (u : Value) (w : World) : Prop :=
  match o with | some v => u = v | none => Yld P (.load t (.const (.pointer (some a)))) ty u w
@[go_sem] theorem YdX_some (t ty : TypeId) (a : Addr) (v u : Value) (w : World) : YdX P t ty a (some v) u w = (u = v) := rfl
@[go_sem] theorem y_load (t ty : TypeId) (b o : Nat) (u : Value) (w : World) (ht : tagg P t = some false) :
    Yld P (.load t (.const (.pointer (some ⟨b, o, none⟩)))) ty u w = YdX P t ty ⟨b, o, none⟩ (cellAt w.heap[b]? o) u w := by
  cases h : cellAt w.heap[b]? o with
  | none => rfl
  | some v => rw [YdX_some]; exact Yld_ok fun ρ hg => exec_load ρ t ty _ _ v w (hg.1 _) (run_load1 ht h)
@[go_sem] theorem y_loadA (t ty : TypeId) (b o : Nat) (u : Value) (w : World) (_ht : tagg P t = some true) :
    Yld P (.load t (.const (.pointer (some ⟨b, o, none⟩)))) ty u w = OrK ((tsizeA P t).bind (aggAt w.heap[b]? o)) (fun c => u = .agg c) (Yld P (.load t (.const (.pointer (some ⟨b, o, none⟩)))) ty u w) () := by
  refine OrK_by (fun c h => ?_) rfl
  obtain ⟨n, hn, h⟩ := Option.bind_eq_some_iff.1 h
  exact Yld_ok fun ρ hg => exec_load ρ t ty _ _ _ w (hg.1 _) (run_loadA (tsizeA_spec hn).1 (tsizeA_spec hn).2 h)

/-- A result in memory. -/
theorem LdR_1 (t : TypeId) (b o : Nat) (K : Value → World → Prop) (w : World) (ht : tagg P t = some false) (v : Value) (h : cellAt w.heap[b]? o = some v) : LdR P t (.pointer (some ⟨b, o, none⟩)) K w = K v w := by
  have hr := run_load1 ht h
  apply propext
  constructor
  · rintro ⟨a, x, ha, hx, hk⟩
    cases ha
    rw [hr] at hx; cases hx; exact hk
  · exact fun hk => ⟨_, v, rfl, hr, hk⟩
def RsX (P : Program) (t : TypeId) (a : Addr) (o : Option Value) (K : Value → World → Prop) (w : WK K) : Prop :=
  match o with | some v => K v w | none => LdR P t (.pointer (some a)) K w
@[go_sem] theorem RsX_some (t : TypeId) (a : Addr) (v : Value) (K : Value → World → Prop) (w : World) : RsX P t a (some v) K w = K v w := rfl
@[go_sem] theorem LdR_one (t : TypeId) (b o : Nat) (K : Value → World → Prop) (w : World) (ht : tagg P t = some false) : LdR P t (.pointer (some ⟨b, o, none⟩)) K w = RsX P t ⟨b, o, none⟩ (cellAt w.heap[b]? o) K w := by
  cases h : cellAt w.heap[b]? o with
  | none => rfl
  | some v => rw [RsX_some, LdR_1 t b o K w ht v h]
@[go_sem] theorem LdR_agg (t : TypeId) (b o : Nat) (K : Value → World → Prop) (w : World) (_ht : tagg P t = some true) :
    LdR P t (.pointer (some ⟨b, o, none⟩)) K w = OrK ((tsizeA P t).bind (aggAt w.heap[b]? o)) (fun c => K (.agg c) w) (LdR P t (.pointer (some ⟨b, o, none⟩)) K w) () := by
  refine OrK_by (fun c h => ?_) rfl
  obtain ⟨n, hn, h⟩ := Option.bind_eq_some_iff.1 h
  have hr := run_loadA (tsizeA_spec hn).1 (tsizeA_spec hn).2 h
  apply propext
  constructor
  · rintro ⟨a, x, ha, hx, hk⟩
    cases ha
    rw [hr] at hx; cases hx; exact hk
  · exact fun hk => ⟨_, _, rfl, hr, hk⟩

/-! ### Stores -/
def okCells (vs : List Value) : Bool := vs.all Value.oneCell'
def StX (P : Program) (t ty : TypeId) (b o : Nat) (v : Value) (x : Option Obj) (K : Value → World → Prop) (w : WK K) : Prop :=
  match x with | some x' => K undef (setBlk w b x') | none => OpX P (.store t (.const (.pointer (some ⟨b, o, none⟩))) (.const v)) ty K w
@[go_sem] theorem StX_some (t ty : TypeId) (b o : Nat) (v : Value) (x : Obj) (K : Value → World → Prop) (w : World) : StX P t ty b o v (some x) K w = K undef (setBlk w b x) := rfl

theorem setRow_setBlk {w : World} {b : Nat} {c c' : Array Value} {e : TypeId} (h : w.heap[b]? = some (.cells c e (0, 0))) : w.setRow b c' = setBlk w b (.cells c' e) := by
  unfold World.setRow setBlk
  congr 1
  apply Array.ext_getElem?
  intro i
  simp only [Array.getElem?_modify, Array.getElem?_setIfInBounds]
  by_cases hi : b = i
  · subst hi; rw [h]; simp [lt_of_heap h]
  · simp [hi]

theorem run_storeV {b o : Nat} {vs : List Value} {x' : Obj} {w : World} (h : putAt w.heap[b]? o vs = some x') (hv : okCells vs = true) : (storeCells ⟨b, o, none⟩ vs).run P w = .ok () (setBlk w b x') := by
  unfold putAt at h
  split at h
  · rename_i c e hb
    split at h
    · rename_i hle
      cases h
      have := run_storeCells_at P b o e vs 0 c w hb (by omega) (by simpa [okCells] using hv)
      rw [this]
      simp only [Nat.add_zero]
      rw [setRow_setBlk hb]
      rfl
    · simp at h
  · simp at h

@[go_sem] theorem x_store (t ty : TypeId) (b o : Nat) (v : Value) (K : Value → World → Prop) (w : World) (hn : tsize P t = some v.cells.size) (hv : okCells v.cells.toList = true) :
    OpX P (.store t (.const (.pointer (some ⟨b, o, none⟩))) (.const v)) ty K w = StX P t ty b o v (putAt w.heap[b]? o v.cells.toList) K w := by
  cases h : putAt w.heap[b]? o v.cells.toList with
  | none => rfl
  | some x' =>
    rw [StX_some]
    refine OpX_skip fun ρ hg => ?_
    simp [execOp, mkOper, hg.1, Instr.storeAt, Instr.sureAddr, storeVar, run_size hn, run_storeV h hv]

/-! ### New memory -/
@[go_sem] theorem x_box (t ty : TypeId) (v : Value) (K : Value → World → Prop) (w : World) : OpX P (.box t (.const v)) ty K w = K (.pointer (some ⟨w.heap.size, 0, none⟩)) (w.alloc (.cells v.cells t)) :=
  OpX_ok fun ρ hg => by simp [execOp, mkOper, hg.1, Instr.box, newVar, newRow]
@[go_sem] theorem x_alloc (t ty : TypeId) (K : Value → World → Prop) (w : World) :
    OpX P (.alloc t) ty K w = OrK (tzero P t) (fun z => K (.pointer (some ⟨w.heap.size, 0, none⟩)) (w.alloc (.cells z.cells t))) (OpX P (.alloc t) ty K w) () := by
  refine OrK_by (fun z h => ?_) rfl
  exact OpX_ok fun ρ hg => by simp [execOp, mkOper, Instr.alloc, newVar, newRow, run_zero h]

/-- Parts laid into a row of cells. -/
def fillL (pl : List (Nat × Nat)) (c : Array Value) : List (Nat × Value) → Option (Array Value)
  | [] => some c
  | (i, v) :: r => match pl[i]? with
    | none => none
    | some (off, n) => if v.cells.size = n ∧ off + n ≤ c.size then fillL pl (spl c off v.cells.toList) r else none
@[go_sem] theorem fillL_nil (pl : List (Nat × Nat)) (c : Array Value) : fillL pl c [] = some c := rfl
@[go_sem] theorem fillL_cons (pl : List (Nat × Nat)) (c : Array Value) (i : Nat) (v : Value) (r : List (Nat × Value)) :
    fillL pl c ((i, v) :: r) = match pl[i]? with | none => none | some (off, n) => if v.cells.size = n ∧ off + n ≤ c.size then fillL pl (spl c off v.cells.toList) r else none := rfl

theorem foldl_spl : ∀ (l : List Value) (off k : Nat) (c : Array Value), off + k + l.length ≤ c.size → (l.zipIdx k).foldl (fun cs (p : Value × Nat) => cs.setIfInBounds (off + p.2) p.1) c = spl c (off + k) l
  | [], off, k, c, _ => by simp [spl]
  | v :: l, off, k, c, h => by
    simp only [List.zipIdx_cons, List.foldl_cons]
    simp only [List.length_cons] at h
    rw [show off + k = off + k from rfl, foldl_spl l off (k + 1) _ (by simp; omega)]
    unfold spl
    simp only [Array.toList_setIfInBounds]
    congr 1
    have := list_seg_step c.toList (off + k) v l (by simp; omega)
    simpa [Nat.add_assoc] using this

theorem fill_eq (place : Nat → Option (Nat × Nat)) (pl : List (Nat × Nat)) (hpl : ∀ i x, pl[i]? = some x → place i = some x) : ∀ (l : List (Nat × Value)) (c c' : Array Value), fillL pl c l = some c' → Instr.fill place c l = some c'
  | [], c, c', h => h
  | (i, v) :: r, c, c', h => by
    rw [fillL_cons] at h
    unfold Instr.fill
    cases hp : pl[i]? with
    | none => rw [hp] at h; simp at h
    | some x =>
      obtain ⟨off, n⟩ := x
      rw [hp] at h
      simp only at h
      split at h
      · rename_i hc
        rw [hpl i _ hp]
        have h1 : ¬ (v.cells.size ≠ n || decide (off + v.cells.size > c.size)) = true := by
          simp only [Bool.or_eq_true, decide_eq_true_eq, not_or]; omega
        simp only [h1]
        have e : v.cells.zipIdx.foldl (fun cs (p : Value × Nat) => cs.setIfInBounds (off + p.2) p.1) c = spl c off v.cells.toList := by
          have := foldl_spl v.cells.toList off 0 c (by simp; omega)
          simp only [Nat.add_zero] at this
          rw [← this, ← Array.foldl_toList]
          simp
        have := fill_eq place pl hpl r _ c' h
        rw [← e] at this
        exact this
      · simp at h

def BdX (P : Program) (t ty : TypeId) (parts : Array (Nat × Operand)) (x : Option (Array Value)) (K : Value → World → Prop) (w : WK K) : Prop :=
  match x with | some c => K (.agg c) w | none => OpX P (.build t parts) ty K w
@[go_sem] theorem BdX_some (t ty : TypeId) (parts : Array (Nat × Operand)) (c : Array Value) (K : Value → World → Prop) (w : World) : BdX P t ty parts (some c) K w = K (.agg c) w := rfl
/-- The parts' values, all constants. -/
def partV : List (Nat × Operand) → Option (List (Nat × Value))
  | [] => some []
  | (i, .const v) :: r => (partV r).map ((i, v) :: ·)
  | _ => none
@[go_sem] theorem partV_nil : partV [] = some [] := rfl
@[go_sem] theorem partV_cons (i : Nat) (v : Value) (r : List (Nat × Operand)) : partV ((i, .const v) :: r) = (partV r).map ((i, v) :: ·) := rfl
theorem partV_spec {ρ : Operand → Value} (hg : Good ρ) : ∀ {l : List (Nat × Operand)} {vs : List (Nat × Value)}, partV l = some vs → l.map (fun p => (p.1, ρ p.2)) = vs
  | [], vs, h => by simp [partV] at h; subst h; rfl
  | (i, x) :: r, vs, h => by
    cases x with
    | const v =>
      simp only [partV, Option.map_eq_some_iff] at h
      obtain ⟨us, hu, rfl⟩ := h
      simp [partV_spec hg hu, hg.1]
    | _ => simp [partV] at h

theorem run_fields {fs : Array Field} {l : List (Nat × Nat)} (h : fs.toList.mapM (fun f => (P.info? f.type).map fun j => (f.offset, j.size)) = some l) (w : World) :
    (fs.mapM fun f => (do pure (f.offset, ← Go.sizeOf f.type) : Sem (Nat × Nat))).run P w = .ok l.toArray w := by
  rw [Array.mapM_eq_mapM_toList]
  suffices ∀ (fl : List Field) (l : List (Nat × Nat)), fl.mapM (fun f => (P.info? f.type).map fun j => (f.offset, j.size)) = some l →
      (fl.mapM fun f => (do pure (f.offset, ← Go.sizeOf f.type) : Sem (Nat × Nat))).run P w = .ok l w by
    rw [Sem.run_map, this _ _ h]; rfl
  intro fl
  induction fl with
  | nil => intro l h; simp at h; subst h; rfl
  | cons f fl ih =>
    intro l h
    simp only [List.mapM_cons, bind, Option.bind_eq_some_iff, Option.map_eq_some_iff, pure, Option.some.injEq] at h
    obtain ⟨p, ⟨j, hj, rfl⟩, r, hr, rfl⟩ := h
    rw [List.mapM_cons]
    have hs : tsize P f.type = some j.size := by simp [tsize, hj]
    rw [Sem.run_bind, Sem.run_bind, run_size hs]
    simp only [Result.andThen_ok, Sem.run_pure]
    rw [Sem.run_bind, ih r hr]; rfl

@[go_sem] theorem x_build (t ty : TypeId) (parts : List (Nat × Operand)) (K : Value → World → Prop) (w : World) :
    OpX P (.build t parts.toArray) ty K w = OrK ((tzero P t).bind fun z => (tfields P t).bind fun pl => (partV parts).bind (fillL pl z.cells)) (fun c => K (.agg c) w) (OpX P (.build t parts.toArray) ty K w) () := by
  refine OrK_by (fun c h => ?_) rfl
  obtain ⟨z, hz, h⟩ := Option.bind_eq_some_iff.1 h
  obtain ⟨pl, hpl, h⟩ := Option.bind_eq_some_iff.1 h
  obtain ⟨vs, hv, hf⟩ := Option.bind_eq_some_iff.1 h
  refine OpX_ok fun ρ hg => ?_
  unfold tfields at hpl
  cases hu : P.underlying t with
  | none => rw [hu] at hpl; simp at hpl
  | some d =>
    rw [hu] at hpl
    cases d <;> simp at hpl
    rename_i fs
    have hfill := fill_eq (fun i => pl[i]?) pl (fun i x hx => hx) vs z.cells c hf
    have hf := run_fields hpl w
    have hp := partV_spec hg hv
    simp only [execOp, mkOper, Instr.build, Sem.run_bind, run_zero hz, Result.andThen_ok, run_underlying hu]
    rw [hf]
    simp only [Result.andThen_ok, List.getElem?_toArray, List.map_toArray, hp, hfill]
    rfl

@[go_sem] theorem cells_agg (c : Array Value) : (Value.agg c).cells = c := rfl
@[go_sem] theorem cells_int (k : IntKind) (n : Int) : (Value.int k n).cells = #[.int k n] := rfl
@[go_sem] theorem cells_bool (b : Bool) : (Value.bool b).cells = #[.bool b] := rfl
@[go_sem] theorem cells_string (s : ByteArray) : (Value.string s).cells = #[.string s] := rfl
@[go_sem] theorem cells_pointer (a : Option Addr) : (Value.pointer a).cells = #[.pointer a] := rfl
@[go_sem] theorem cells_slice (a : Option Addr) (n c : Nat) : (Value.slice a n c).cells = #[.slice a n c] := rfl
@[go_sem] theorem cells_map (r : Option Nat) : (Value.map r).cells = #[.map r] := rfl
@[go_sem] theorem cells_chan (r : Option Nat) : (Value.chan r).cells = #[.chan r] := rfl
@[go_sem] theorem cells_func (f : Fn) (x y : Array Value) : (Value.func f x y).cells = #[.func f x y] := rfl
@[go_sem] theorem cells_nilFunc : Value.nilFunc.cells = #[.nilFunc] := rfl
@[go_sem] theorem cells_iface (t : TypeId) (v : Value) : (Value.iface t v).cells = #[.iface t v] := rfl
@[go_sem] theorem cells_nilIface : Value.nilIface.cells = #[.nilIface] := rfl
@[go_sem] theorem okCells_nil : okCells [] = true := rfl
@[go_sem] theorem okCells_cons (v : Value) (l : List Value) : okCells (v :: l) = (v.oneCell' && okCells l) := rfl
end
attribute [go_sem] Value.oneCell' Bool.and_true Bool.true_and if_true if_false Nat.le_refl
end Lyc
