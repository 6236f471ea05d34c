/-
  What single operations come to: maps whose keys are integers, kept as a list of entries.
-/
import Derived.Test.YtdjdeahmhenchaaLycOps5
set_option linter.unusedSimpArgs false
set_option linter.unusedVariables false
namespace Lyc
open Go
section
variable {P : Program}

/-- Entries: key, value, clock. -/
abbrev Ents := List (Int × Value × Nat)
def ents (kk : IntKind) (l : Ents) : Array MapEntry := (l.map fun x => (⟨.int kk x.1, x.2.1, x.2.2⟩ : MapEntry)).toArray
def lpos : Ents → Int → Nat → Option (Nat × Value)
  | [], _, _ => none
  | x :: l, k, i => if k = x.1 then some (i, x.2.1) else lpos l k (i + 1)
def lfind : Ents → Int → Option Value
  | [], _ => none
  | x :: l, k => if k = x.1 then some x.2.1 else lfind l k
def lput : Ents → Int → Value → Nat → Ents
  | [], k, v, c => [(k, v, c)]
  | x :: l, k, v, c => if k = x.1 then (k, v, x.2.2) :: l else x :: lput l k v c
def ldel : Ents → Int → Ents
  | [], _ => []
  | x :: l, k => if k = x.1 then l else x :: ldel l k

theorem lpos_find (l : Ents) (k : Int) (i : Nat) : (lpos l k i).map (·.2) = lfind l k := by
  induction l generalizing i with
  | nil => rfl
  | cons x l ih => unfold lpos lfind; split <;> simp [ih]
theorem findNow_ents (kk k2 : IntKind) (l : Ents) (k : Int) (i : Nat) : Instr.findNow (.int k2) (.int kk k) (l.map fun x => (⟨.int kk x.1, x.2.1, x.2.2⟩ : MapEntry)) i = some (lpos l k i) := by
  induction l generalizing i with
  | nil => rfl
  | cons x l ih =>
    simp only [List.map_cons, Instr.findNow, Instr.sameNow, lpos, if_true]
    by_cases h : k = x.1
    · simp [h]
    · have hb : (k == x.1) = false := by simpa using h
      simp [h, hb, ih]
theorem lpos_put {l : Ents} {k : Int} {j n : Nat} {u : Value} (h : lpos l k j = some (n, u)) (v : Value) (c : Nat) : j ≤ n ∧ n - j < l.length ∧ lput l k v c = l.modify (n - j) fun x => (k, v, x.2.2) := by
  induction l generalizing j with
  | nil => simp [lpos] at h
  | cons x l ih =>
    unfold lpos at h
    split at h
    · rename_i hk
      simp at h
      obtain ⟨rfl, -⟩ := h
      simp [lput, hk]
    · rename_i hk
      obtain ⟨h1, h2, h3⟩ := ih h
      refine ⟨by omega, by simp; omega, ?_⟩
      have : n - j = (n - (j + 1)) + 1 := by omega
      rw [this]
      simp [lput, hk, h3]
theorem lpos_del {l : Ents} {k : Int} {j n : Nat} {u : Value} (h : lpos l k j = some (n, u)) : j ≤ n ∧ n - j < l.length ∧ ldel l k = l.eraseIdx (n - j) := by
  induction l generalizing j with
  | nil => simp [lpos] at h
  | cons x l ih =>
    unfold lpos at h
    split at h
    · rename_i hk
      simp at h
      obtain ⟨rfl, -⟩ := h
      simp [ldel, hk]
    · rename_i hk
      obtain ⟨h1, h2, h3⟩ := ih h
      refine ⟨by omega, by simp; omega, ?_⟩
      have : n - j = (n - (j + 1)) + 1 := by omega
      rw [this]
      simp [ldel, hk, h3]
theorem lpos_none {l : Ents} {k : Int} {j : Nat} (h : lpos l k j = none) (v : Value) (c : Nat) : lput l k v c = l ++ [(k, v, c)] ∧ ldel l k = l := by
  induction l generalizing j with
  | nil => simp [lput, ldel]
  | cons x l ih =>
    unfold lpos at h
    split at h
    · simp at h
    · rename_i hk
      simp [lput, ldel, hk, ih h]
theorem lpos_key {l : Ents} {k : Int} {j n : Nat} {u : Value} (h : lpos l k j = some (n, u)) : ∃ c, l[n - j]? = some (k, u, c) := by
  induction l generalizing j with
  | nil => simp [lpos] at h
  | cons x l ih =>
    unfold lpos at h
    split at h
    · rename_i hk
      simp at h
      obtain ⟨rfl, rfl⟩ := h
      exact ⟨x.2.2, by simp [hk]⟩
    · obtain ⟨c, hc⟩ := ih h
      obtain ⟨h1, -, -⟩ := lpos_del h
      have : n - j = (n - (j + 1)) + 1 := by omega
      exact ⟨c, by rw [this]; simpa using hc⟩

theorem map_eraseIdx' {α β : Type} (f : α → β) (l : List α) (n : Nat) : (l.map f).eraseIdx n = (l.eraseIdx n).map f := by
  induction l generalizing n with
  | nil => rfl
  | cons x l ih => cases n <;> simp [ih]

/-- A map's type whose keys are integers: their kind; what a missing value reads as. -/
def tmap (P : Program) (t : TypeId) : Option (IntKind × Value) := (P.underlying t).bind fun | .map k e => (tint P k).bind fun kk => (tzero P e).map fun z => (kk, z) | _ => none
theorem tmap_spec {t : TypeId} {kk : IntKind} {z : Value} (h : tmap P t = some (kk, z)) : ∃ k e, P.underlying t = some (.map k e) ∧ P.underlying k = some (.int kk) ∧ tzero P e = some z := by
  unfold tmap at h
  cases hu : P.underlying t with
  | none => rw [hu] at h; simp at h
  | some d =>
    rw [hu] at h
    cases d <;> first | (rename_i k e; dsimp only at h) | skip
    all_goals first | (simp at h; done) | skip
    rename_i k e
    cases hk : tint P k with
    | none => simp [hk] at h
    | some kk' =>
    cases hz : tzero P e with
    | none => simp [hk, hz] at h
    | some z' =>
    simp [hk, hz] at h
    obtain ⟨rfl, rfl⟩ := h
    unfold tint at hk
    cases hku : P.underlying k with
    | none => rw [hku] at hk; simp at hk
    | some d =>
      rw [hku] at hk
      cases d <;> simp at hk
      subst hk
      exact ⟨k, e, rfl, hku, hz⟩
theorem run_checkKey {k : TypeId} {kk : IntKind} (h : P.underlying k = some (.int kk)) (b : Bool) (n : Int) (w : World) : (Instr.checkKey b 10000 k (.int kk n)).run P w = .ok () w := by
  show (Instr.checkKey b (9999 + 1) k (.int kk n)).run P w = .ok () w
  unfold Instr.checkKey
  simp [run_underlying h]
theorem run_findKey {k : TypeId} {kk : IntKind} (h : P.underlying k = some (.int kk)) (l : Ents) (n : Int) (w : World) : (Instr.findKey k (.int kk n) (ents kk l).toList).run P w = .ok (lpos l n 0) w := by
  unfold Instr.findKey ents
  simp [run_underlying h, findNow_ents]
theorem run_getMap {r c : Nat} {es : Array MapEntry} {w : World} (hc : w.heap[r]? = some (.map es c)) : (getObj r).run P w = .ok (.map es c) w := by
  simp [getObj, Sem.run, hc]
theorem run_setMap {r c : Nat} {es : Array MapEntry} {o : Obj} {w : World} (hc : w.heap[r]? = some (.map es c)) : (setObj r o).run P w = .ok () (setBlk w r o) := by
  simp [setObj, Sem.run, setBlk, hc]
theorem r_makeMap {t ty : TypeId} (K : Value → World → Prop) (w : World) : OpX P (.makeMap t none) ty K w = K (.map (some w.heap.size)) (w.alloc (.map #[] 0)) := by
  exact OpX_ok fun ρ hg => by simp [execOp, mkOper, Instr.makeMap, newObj, Sem.run]
attribute [go_sem] r_makeMap

theorem look_ok {t ty : TypeId} {kk : IntKind} {z : Value} {r c : Nat} {l : Ents} {k : Int} {K : Value → World → Prop} {w : World} (ht : tmap P t = some (kk, z)) (hh : w.heap[r]? = some (.map (ents kk l) c)) :
    OpX P (.lookup t (.const (.map (some r))) (.const (.int kk k)) true) ty K w = K (.tuple #[(lfind l k).getD z, .bool (lfind l k).isSome]) w := by
  obtain ⟨kt, e, h1, h2, h3⟩ := tmap_spec ht
  refine OpX_ok fun ρ hg => ?_
  simp only [execOp, mkOper, hg.1, Instr.lookup]
  simp [run_underlying h1, run_getMap hh, run_checkKey h2, run_findKey h2, run_zero h3]
  rw [← lpos_find l k 0]
  cases hp : lpos l k 0 <;> simp [run_zero h3]
theorem look1_ok {t ty : TypeId} {kk : IntKind} {z : Value} {r c : Nat} {l : Ents} {k : Int} {K : Value → World → Prop} {w : World} (ht : tmap P t = some (kk, z)) (hh : w.heap[r]? = some (.map (ents kk l) c)) :
    OpX P (.lookup t (.const (.map (some r))) (.const (.int kk k)) false) ty K w = K ((lfind l k).getD z) w := by
  obtain ⟨kt, e, h1, h2, h3⟩ := tmap_spec ht
  refine OpX_ok fun ρ hg => ?_
  simp only [execOp, mkOper, hg.1, Instr.lookup]
  simp [run_underlying h1, run_getMap hh, run_checkKey h2, run_findKey h2, run_zero h3]
  rw [← lpos_find l k 0]
  cases hp : lpos l k 0 <;> simp [run_zero h3]
/-- What stands in the block behind a put. -/
def putC (l : Ents) (k : Int) (c : Nat) : Nat := if (lfind l k).isSome then c else c + 1
theorem put_ok {t ty : TypeId} {kk : IntKind} {z : Value} {r c : Nat} {l : Ents} {k : Int} {v : Value} {K : Value → World → Prop} {w : World} (ht : tmap P t = some (kk, z)) (hh : w.heap[r]? = some (.map (ents kk l) c)) :
    OpX P (.mapUpdate t (.const (.map (some r))) (.const (.int kk k)) (.const v)) ty K w = K undef (setBlk w r (.map (ents kk (lput l k v c)) (putC l k c))) := by
  obtain ⟨kt, e, h1, h2, h3⟩ := tmap_spec ht
  refine OpX_skip fun ρ hg => ?_
  simp only [execOp, mkOper, hg.1, Instr.mapUpdate]
  simp [run_underlying h1, run_getMap hh, run_checkKey h2, run_findKey h2]
  have hf := lpos_find l k 0
  cases hp : lpos l k 0 with
  | none =>
    rw [hp] at hf
    obtain ⟨e1, -⟩ := lpos_none hp v c
    simp [run_setMap hh, putC, ← hf, e1, ents]
  | some x =>
    obtain ⟨n, u⟩ := x
    rw [hp] at hf
    obtain ⟨-, hn, e1⟩ := lpos_put hp v c
    obtain ⟨c0, hk⟩ := lpos_key hp
    have hkey : ((Option.map (fun x => x.key) (ents kk l)[n]?).getD (.int kk k)) = .int kk k := by
      simp [ents] at hk ⊢
      simp [hk]
    have hm : (ents kk l).modify n (fun e => { key := .int kk k, val := v, born := e.born }) = ents kk (lput l k v c) := by
      rw [e1]
      unfold ents
      apply Array.ext'
      simp only [Array.toList_modify, Nat.sub_zero]
      apply List.ext_getElem?
      intro i
      simp only [List.getElem?_modify, List.getElem?_map]
      by_cases hi : n = i <;> simp [hi] <;> cases l[i]? <;> rfl
    simp [hkey, Instr.keyThatStays, Instr.sameBits]
    rw [hm, run_setMap hh]
    simp [putC, ← hf]
theorem del_ok {t ty : TypeId} {ts : Array TypeId} {kk : IntKind} {z : Value} {r c : Nat} {l : Ents} {k : Int} {K : Value → World → Prop} {w : World} (ht : tmap P t = some (kk, z)) (hts : ts[0]? = some t) (hh : w.heap[r]? = some (.map (ents kk l) c)) :
    OpX P (.call { callee := .builtin .delete, args := #[.const (.map (some r)), .const (.int kk k)], argTypes := ts }) ty K w = K (.tuple #[]) (setBlk w r (.map (ents kk (ldel l k)) c)) := by
  obtain ⟨kt, e, h1, h2, h3⟩ := tmap_spec ht
  refine OpX_ok fun ρ hg => ?_
  simp only [execOp, mkOper]
  simp [resolve, invoke, builtin, Builtin.delete_, hg.1, hts, run_underlying h1, run_getMap hh, run_checkKey h2, run_findKey h2]
  cases hp : lpos l k 0 with
  | none =>
    obtain ⟨-, e1⟩ := lpos_none hp .nilIface 0
    simp [run_setMap hh, e1]
  | some x =>
    obtain ⟨n, u⟩ := x
    obtain ⟨-, hn, e1⟩ := lpos_del hp
    have hm : (ents kk l).eraseIdxIfInBounds n = ents kk (ldel l k) := by
      rw [e1]
      unfold ents
      simp only [Nat.sub_zero] at hn ⊢
      have hn' : n < ((l.map fun x => (⟨.int kk x.1, x.2.1, x.2.2⟩ : MapEntry)).toArray).size := by simpa using hn
      simp only [Array.eraseIdxIfInBounds, hn', dite_true]
      apply Array.ext'
      simp [map_eraseIdx']
    simp [hm, run_setMap hh]
theorem len_map_ok {t ty : TypeId} {ts : Array TypeId} {kk : IntKind} {z : Value} {r c : Nat} {l : Ents} {K : Value → World → Prop} {w : World} (ht : tmap P t = some (kk, z)) (hts : ts[0]? = some t) (hh : w.heap[r]? = some (.map (ents kk l) c)) :
    OpX P (.call { callee := .builtin .len, args := #[.const (.map (some r))], argTypes := ts }) ty K w = K (.int .i64 l.length) w := by
  obtain ⟨kt, e, h1, h2, h3⟩ := tmap_spec ht
  refine OpX_ok fun ρ hg => ?_
  simp only [execOp, mkOper]
  simp [resolve, invoke, builtin, Builtin.len_, hg.1, hts, run_underlying h1, run_getMap hh, goInt, ents]
theorem clear_ok {t ty : TypeId} {ts : Array TypeId} {kk : IntKind} {z : Value} {r c : Nat} {l : Ents} {K : Value → World → Prop} {w : World} (ht : tmap P t = some (kk, z)) (hts : ts[0]? = some t) (hh : w.heap[r]? = some (.map (ents kk l) c)) :
    OpX P (.call { callee := .builtin .clear, args := #[.const (.map (some r))], argTypes := ts }) ty K w = K (.tuple #[]) (setBlk w r (.map (ents kk []) c)) := by
  obtain ⟨kt, e, h1, h2, h3⟩ := tmap_spec ht
  refine OpX_ok fun ρ hg => ?_
  simp only [execOp, mkOper]
  simp [resolve, invoke, builtin, Builtin.clear_, hg.1, hts, run_underlying h1, run_getMap hh, run_setMap hh, ents]
theorem ents_inj {kk : IntKind} {l l' : Ents} (h : ents kk l = ents kk l') : l = l' := by
  unfold ents at h
  have h := List.toArray_inj h
  induction l generalizing l' with
  | nil => cases l' <;> simp at h ⊢
  | cons x l ih =>
    cases l' with
    | nil => simp at h
    | cons y l' =>
      simp only [List.map_cons, List.cons.injEq] at h
      obtain ⟨h1, h2⟩ := h
      obtain ⟨x1, x2, x3⟩ := x
      obtain ⟨y1, y2, y3⟩ := y
      simp at h1
      obtain ⟨rfl, rfl, rfl⟩ := h1
      rw [ih (by rw [h2]) h2]
noncomputable def unents (kk : IntKind) (x : Option Obj) : Option (Ents × Nat) := open Classical in if h : ∃ p : Ents × Nat, x = some (.map (ents kk p.1) p.2) then some h.choose else none
@[go_sem] theorem unents_some (kk : IntKind) (l : Ents) (c : Nat) : unents kk (some (.map (ents kk l) c)) = some (l, c) := by
  unfold unents
  have h : ∃ p : Ents × Nat, some (Obj.map (ents kk l) c) = some (.map (ents kk p.1) p.2) := ⟨(l, c), rfl⟩
  rw [dif_pos h]
  have := h.choose_spec
  generalize h.choose = p at this
  simp at this
  obtain ⟨h1, h2⟩ := this
  rw [ents_inj h1, h2]
attribute [go_sem] Option.isSome_none Option.getD_some Option.getD_none
@[go_sem] theorem unents_new (kk : IntKind) (c : Nat) : unents kk (some (.map #[] c)) = some ([], c) := unents_some kk [] c
theorem unents_spec {kk : IntKind} {x : Option Obj} {p : Ents × Nat} (h : unents kk x = some p) : x = some (.map (ents kk p.1) p.2) := by
  unfold unents at h
  split at h
  · rename_i hh
    simp at h
    rw [← h]
    exact hh.choose_spec
  · simp at h
/-- The kind fits. -/
def tmapZ (P : Program) (t : TypeId) (kk : IntKind) : Option Value := (tmap P t).bind fun p => if p.1 = kk then some p.2 else none
theorem tmapZ_spec {t : TypeId} {kk : IntKind} {z : Value} (h : tmapZ P t kk = some z) : tmap P t = some (kk, z) := by
  unfold tmapZ at h
  cases ht : tmap P t with
  | none => rw [ht] at h; simp at h
  | some p =>
    obtain ⟨a, b⟩ := p
    rw [ht] at h
    simp at h
    rw [h.1, h.2]
@[go_sem] theorem x_lookup (t ty : TypeId) (kk : IntKind) (r : Nat) (k : Int) (K : Value → World → Prop) (w : World) :
    OpX P (.lookup t (.const (.map (some r))) (.const (.int kk k)) true) ty K w =
      OrK (tmapZ P t kk) (fun z => OrK (unents kk w.heap[r]?) (fun p => K (.tuple #[(lfind p.1 k).getD z, .bool (lfind p.1 k).isSome]) w) (OpX P (.lookup t (.const (.map (some r))) (.const (.int kk k)) true) ty K w) ()) (OpX P (.lookup t (.const (.map (some r))) (.const (.int kk k)) true) ty K w) () :=
  OrK_by (fun z hz => OrK_by (fun p hp => look_ok (tmapZ_spec hz) (unents_spec hp)) rfl) rfl
@[go_sem] theorem x_lookup1 (t ty : TypeId) (kk : IntKind) (r : Nat) (k : Int) (K : Value → World → Prop) (w : World) :
    OpX P (.lookup t (.const (.map (some r))) (.const (.int kk k)) false) ty K w =
      OrK (tmapZ P t kk) (fun z => OrK (unents kk w.heap[r]?) (fun p => K ((lfind p.1 k).getD z) w) (OpX P (.lookup t (.const (.map (some r))) (.const (.int kk k)) false) ty K w) ()) (OpX P (.lookup t (.const (.map (some r))) (.const (.int kk k)) false) ty K w) () :=
  OrK_by (fun z hz => OrK_by (fun p hp => look1_ok (tmapZ_spec hz) (unents_spec hp)) rfl) rfl
@[go_sem] theorem x_mapUpdate (t ty : TypeId) (kk : IntKind) (r : Nat) (k : Int) (v : Value) (K : Value → World → Prop) (w : World) :
    OpX P (.mapUpdate t (.const (.map (some r))) (.const (.int kk k)) (.const v)) ty K w =
      OrK (tmapZ P t kk) (fun _ => OrK (unents kk w.heap[r]?) (fun p => K undef (setBlk w r (.map (ents kk (lput p.1 k v p.2)) (putC p.1 k p.2)))) (OpX P (.mapUpdate t (.const (.map (some r))) (.const (.int kk k)) (.const v)) ty K w) ()) (OpX P (.mapUpdate t (.const (.map (some r))) (.const (.int kk k)) (.const v)) ty K w) () :=
  OrK_by (fun z hz => OrK_by (fun p hp => put_ok (tmapZ_spec hz) (unents_spec hp)) rfl) rfl
@[go_sem] theorem x_delete' (t t' ty : TypeId) (kk : IntKind) (r : Nat) (k : Int) (K : Value → World → Prop) (w : World) :
    OpX P (.call { callee := .builtin .delete, args := #[.const (.map (some r)), .const (.int kk k)], argTypes := #[t, t'] }) ty K w =
      OrK (tmapZ P t kk) (fun _ => OrK (unents kk w.heap[r]?) (fun p => K (.tuple #[]) (setBlk w r (.map (ents kk (ldel p.1 k)) p.2))) (OpX P (.call { callee := .builtin .delete, args := #[.const (.map (some r)), .const (.int kk k)], argTypes := #[t, t'] }) ty K w) ()) (OpX P (.call { callee := .builtin .delete, args := #[.const (.map (some r)), .const (.int kk k)], argTypes := #[t, t'] }) ty K w) () :=
  OrK_by (fun z hz => OrK_by (fun p hp => del_ok (tmapZ_spec hz) rfl (unents_spec hp)) rfl) rfl
/-- The kind that a map's keys have. -/
def tmapK (P : Program) (t : TypeId) : Option IntKind := (tmap P t).map (·.1)
theorem tmapK_spec {t : TypeId} {kk : IntKind} (h : tmapK P t = some kk) : ∃ z, tmap P t = some (kk, z) := by
  unfold tmapK at h
  simp at h
  exact h
@[go_sem] theorem x_len_map (t ty : TypeId) (r : Nat) (K : Value → World → Prop) (w : World) :
    OpX P (.call { callee := .builtin .len, args := #[.const (.map (some r))], argTypes := #[t] }) ty K w =
      OrK (tmapK P t) (fun kk => OrK (unents kk w.heap[r]?) (fun p => K (.int .i64 p.1.length) w) (OpX P (.call { callee := .builtin .len, args := #[.const (.map (some r))], argTypes := #[t] }) ty K w) ()) (OpX P (.call { callee := .builtin .len, args := #[.const (.map (some r))], argTypes := #[t] }) ty K w) () :=
  OrK_by (fun kk hk => OrK_by (fun p hp => by obtain ⟨z, hz⟩ := tmapK_spec hk; exact len_map_ok hz rfl (unents_spec hp)) rfl) rfl
@[go_sem] theorem rd_len_map (t ty : TypeId) (r : Nat) (K : Value → Prop) (w : World) :
    RdX P (.call { callee := .builtin .len, args := #[.const (.map (some r))], argTypes := #[t] }) ty K w =
      OrK (tmapK P t) (fun kk => OrK (unents kk w.heap[r]?) (fun p => K (.int .i64 p.1.length)) (RdX P (.call { callee := .builtin .len, args := #[.const (.map (some r))], argTypes := #[t] }) ty K w) ()) (RdX P (.call { callee := .builtin .len, args := #[.const (.map (some r))], argTypes := #[t] }) ty K w) () := by
  refine OrK_by (fun kk hk => OrK_by (fun p hp => ?_) rfl) rfl
  obtain ⟨z, hz⟩ := tmapK_spec hk
  have hh := unents_spec hp
  obtain ⟨kt, e, h1, h2, h3⟩ := tmap_spec hz
  refine RdX_ok fun ρ hg => ?_
  simp only [execOp, mkOper]
  simp [resolve, invoke, builtin, Builtin.len_, hg.1, run_underlying h1, run_getMap hh, goInt, ents]
@[go_sem] theorem x_clear_map (t ty : TypeId) (r : Nat) (K : Value → World → Prop) (w : World) :
    OpX P (.call { callee := .builtin .clear, args := #[.const (.map (some r))], argTypes := #[t] }) ty K w =
      OrK (tmapK P t) (fun kk => OrK (unents kk w.heap[r]?) (fun p => K (.tuple #[]) (setBlk w r (.map (ents kk []) p.2))) (OpX P (.call { callee := .builtin .clear, args := #[.const (.map (some r))], argTypes := #[t] }) ty K w) ()) (OpX P (.call { callee := .builtin .clear, args := #[.const (.map (some r))], argTypes := #[t] }) ty K w) () :=
  OrK_by (fun kk hk => OrK_by (fun p hp => by obtain ⟨z, hz⟩ := tmapK_spec hk; exact clear_ok hz rfl (unents_spec hp)) rfl) rfl
end
end Lyc
