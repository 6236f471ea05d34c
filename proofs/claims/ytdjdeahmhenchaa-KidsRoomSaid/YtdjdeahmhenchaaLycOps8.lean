/-
  What single operations come to: arrays as values, parts of strings, slices with a bound, structs compared. It names no program.
-/
import Derived.Test.YtdjdeahmhenchaaMem
import Derived.Test.YtdjdeahmhenchaaLycTy
import Derived.Laws.StructEq
set_option linter.unusedSimpArgs false
set_option linter.unusedVariables false
namespace Lyc
open Go
section
variable {P : Program}

/-! ### Arrays as values -/
@[go_sem] theorem x_buildA (t ty : TypeId) (parts : List (Nat × Operand)) (K : Value → World → Prop) (w : World) (_ht : tkind P t = some 2) :
    OpX P (.build t parts.toArray) ty K w = OrK ((tzero P t).bind fun z => (tarr P t).bind fun nm => (partV parts).bind (fillL (bplaces nm.2 nm.1 0) z.cells)) (fun c => K (.agg c) w) (OpX P (.build t parts.toArray) ty K w) () := by
  refine OrK_by (fun c h => ?_) rfl
  obtain ⟨z, hz, h⟩ := Option.bind_eq_some_iff.1 h
  obtain ⟨⟨n, m⟩, hnm, h⟩ := Option.bind_eq_some_iff.1 h
  obtain ⟨vs, hv, hf⟩ := Option.bind_eq_some_iff.1 h
  refine OpX_ok fun ρ hg => ?_
  unfold tarr at hnm
  cases hu : P.underlying t with
  | none => rw [hu] at hnm; simp at hnm
  | some d =>
    rw [hu] at hnm
    cases d <;> simp at hnm
    rename_i len e
    obtain ⟨hs, rfl⟩ := hnm
    have hfill := fill_eq (fun j => some (j * m, m)) (bplaces m len 0) (fun j x hx => by simpa using bplaces_get _ _ _ _ _ hx) vs z.cells c hf
    have hp := partV_spec hg hv
    simp only [execOp, mkOper, Instr.build, Sem.run_bind, run_zero hz, Result.andThen_ok, run_underlying hu, run_size hs, List.map_toArray, hp, hfill]
    rfl

/-- A value that is built out of constants, in one step. -/
def buildK (P : Program) (t : TypeId) (parts : List (Nat × Operand)) : Option (Array Value) :=
  match tkind P t with
  | some 2 => (tzero P t).bind fun z => (tarr P t).bind fun nm => (partV parts).bind (fillL (bplaces nm.2 nm.1 0) z.cells)
  | _ => (tzero P t).bind fun z => (tfields P t).bind fun pl => (partV parts).bind (fillL pl z.cells)
theorem OpX.build {t ty : TypeId} {parts : List (Nat × Operand)} {K : Value → World → Prop} {w : World} {c : Array Value} (h : buildK P t parts = some c) (hk : K (.agg c) w) : OpX P (.build t parts.toArray) ty K w := by
  unfold buildK at h
  split at h
  · rename_i ht
    rw [x_buildA t ty parts K w ht, h]; exact hk
  · rw [x_build, h]; exact hk

/-- A variable that is made and laid at once. -/
theorem putAt_whole (c : Array Value) (e : TypeId) (vs : List Value) (h : vs.length = c.size) : putAt (some (.cells c e (0, 0))) 0 vs = some (.cells vs.toArray e) := by
  rw [putAt_cells, if_pos (by omega)]
  unfold spl
  simp [h]
theorem OpX.fresh {t ty ty' : TypeId} {v z : Value} {M : Value → Value → World → Prop} {w : World} (hz : tzero P t = some z) (hn : tsize P t = some v.cells.size) (hs : z.cells.size = v.cells.size) (hok : okCells v.cells.toList = true)
    (h : M (.pointer (some ⟨w.heap.size, 0, none⟩)) undef (w.alloc (.cells v.cells t))) :
    OpX P (.alloc t) ty (fun p w => OpX P (.store t (.const p) (.const v)) ty' (M p) w) w := by
  rw [x_alloc, hz, OrK_some, x_store _ _ _ _ _ _ _ hn hok, heap_alloc_new _ _ _ rfl, putAt_whole _ _ _ (by simp [hs]), StX_some, setBlk_alloc_new _ _ _ _ rfl]
  exact h

/-- A part of a row of cells, as a value of a type. -/
def partL (P : Program) (e : TypeId) (cs : Array Value) (off : Nat) : Option Value :=
  (tagg P e).bind fun b => bif b then (tsize P e).map fun n => .agg (cs.extract off (off + n)) else cs[off]?
theorem run_part {e : TypeId} {cs : Array Value} {off : Nat} {v : Value} (h : partL P e cs off = some v) (w : World) : (part e cs off).run P w = .ok v w := by
  unfold partL at h
  obtain ⟨b, hb, h⟩ := Option.bind_eq_some_iff.1 h
  unfold part
  cases b with
  | true =>
    simp only [cond_true] at h
    obtain ⟨n, hn, rfl⟩ := Option.map_eq_some_iff.1 h
    simp [run_isAgg hb, run_size hn]
  | false =>
    simp only [cond_false] at h
    simp [run_isAgg hb, h]
/-- An element of an array, as a value. -/
def idxL (P : Program) (t : TypeId) (cs : Array Value) (i : Int) : Option Value :=
  (telem P t).bind fun e => (tarr P t).bind fun nm => if 0 ≤ i ∧ i < nm.1 then partL P e cs (i.toNat * nm.2) else none
theorem r_index (t ty : TypeId) (cs : Array Value) (k : IntKind) (i : Int) (v : Value) (h : idxL P t cs i = some v) : PureRun P (.index t (.const (.agg cs)) (.const (.int k i))) ty v := by
  unfold idxL at h
  obtain ⟨e, he, h⟩ := Option.bind_eq_some_iff.1 h
  obtain ⟨⟨n, m⟩, hnm, h⟩ := Option.bind_eq_some_iff.1 h
  dsimp only at h
  split at h
  · rename_i hi
    unfold tarr at hnm
    unfold telem at he
    cases hu : P.underlying t with
    | none => rw [hu] at hnm; simp at hnm
    | some d =>
      rw [hu] at hnm he
      cases d <;> simp at hnm he
      rename_i len e'
      subst he
      obtain ⟨hs, rfl⟩ := hnm
      exact ⟨fun ρ hg w => by
        have hp := run_part h w
        simp [execOp, mkOper, hg.1, Instr.index, asIntOf, run_underlying hu, run_size hs, hi.1, hi.2, hp]⟩
  · simp at h
@[go_sem] theorem x_indexA (t ty : TypeId) (cs : Array Value) (k : IntKind) (i : Int) (K : Value → World → Prop) (w : World) : OpX P (.index t (.const (.agg cs)) (.const (.int k i))) ty K w = OrK (idxL P t cs i) (fun v => K v w) (OpX P (.index t (.const (.agg cs)) (.const (.int k i))) ty K w) () :=
  OrK_by (fun v h => (r_index t ty cs k i v h).op K w) rfl
@[go_sem] theorem p_indexA (t ty : TypeId) (cs : Array Value) (k : IntKind) (i : Int) (K : Value → Prop) : PurX P (.index t (.const (.agg cs)) (.const (.int k i))) ty K () = OrK (idxL P t cs i) K (PurX P (.index t (.const (.agg cs)) (.const (.int k i))) ty K ()) () :=
  OrK_by (fun v h => (r_index t ty cs k i v h).pur K) rfl

/-! ### Parts of strings -/
def chL (s : ByteArray) (i : Int) : Option Value := if 0 ≤ i then (s[i.toNat]?).map fun b => .int .u8 b.toNat else none
theorem r_indexS (t ty : TypeId) (s : ByteArray) (k : IntKind) (i : Int) (v : Value) (ht : tkind P t = some 3) (h : chL s i = some v) : PureRun P (.index t (.const (.string s)) (.const (.int k i))) ty v := by
  unfold chL at h
  split at h
  · rename_i hi
    obtain ⟨b, hb, rfl⟩ := Option.map_eq_some_iff.1 h
    exact ⟨fun ρ hg w => by simp [execOp, mkOper, hg.1, Instr.index, asIntOf, run_underlying (tkind_3 ht), hi, hb]⟩
  · simp at h
@[go_sem] theorem x_indexS (t ty : TypeId) (s : ByteArray) (k : IntKind) (i : Int) (K : Value → World → Prop) (w : World) (ht : tkind P t = some 3) : OpX P (.index t (.const (.string s)) (.const (.int k i))) ty K w = OrK (chL s i) (fun v => K v w) (OpX P (.index t (.const (.string s)) (.const (.int k i))) ty K w) () :=
  OrK_by (fun v h => (r_indexS t ty s k i v ht h).op K w) rfl
@[go_sem] theorem p_indexS (t ty : TypeId) (s : ByteArray) (k : IntKind) (i : Int) (K : Value → Prop) (ht : tkind P t = some 3) : PurX P (.index t (.const (.string s)) (.const (.int k i))) ty K () = OrK (chL s i) K (PurX P (.index t (.const (.string s)) (.const (.int k i))) ty K ()) () :=
  OrK_by (fun v h => (r_indexS t ty s k i v ht h).pur K) rfl

/-! ### Slices with a bound -/
theorem r_slice3 (t ty : TypeId) (b o len cap n : Nat) (k k' k'' : IntKind) (i j q : Int) (h : tslice P t = some n) (h0 : 0 ≤ i) (h1 : i ≤ j) (h2 : j ≤ q) (h3 : q ≤ cap) : PureRun P (.slice t (.const (.slice (some ⟨b, o, none⟩) len cap)) (some (.const (.int k i))) (some (.const (.int k' j))) (some (.const (.int k'' q)))) ty (.slice (some ⟨b, slo o q.toNat i.toNat n, none⟩) (j.toNat - i.toNat) (q.toNat - i.toNat)) := by
  obtain ⟨e, hu, hs⟩ := tslice_u h
  refine ⟨fun ρ hg w => ?_⟩
  have h4 : 0 ≤ q := by omega
  have h5 : 0 ≤ j := by omega
  have h6 : j ≤ max q 0 := by omega
  have h7 : i ≤ max j 0 := by omega
  simp [execOp, mkOper, hg.1, Instr.sliceAt, Instr.slice, Instr.sliceBounds, Instr.sliceBound, asIntOf, run_underlying hu, run_size hs, h0, h3, h4, h5, slo_add]
  rw [if_pos h6]
  simp [h7, slo_add]
@[go_sem] theorem x_slice3 (t ty : TypeId) (b o len cap : Nat) (k k' k'' : IntKind) (i j q : Int) (K : Value → World → Prop) (w : World) (h0 : 0 ≤ i) (h1 : i ≤ j) (h2 : j ≤ q) (h3 : q ≤ cap) : OpX P (.slice t (.const (.slice (some ⟨b, o, none⟩) len cap)) (some (.const (.int k i))) (some (.const (.int k' j))) (some (.const (.int k'' q)))) ty K w = OrK (tslice P t) (fun n => K (.slice (some ⟨b, slo o q.toNat i.toNat n, none⟩) (j.toNat - i.toNat) (q.toNat - i.toNat)) w) (OpX P (.slice t (.const (.slice (some ⟨b, o, none⟩) len cap)) (some (.const (.int k i))) (some (.const (.int k' j))) (some (.const (.int k'' q)))) ty K w) () :=
  OrK_by (fun n h => (r_slice3 t ty b o len cap n k k' k'' i j q h h0 h1 h2 h3).op K w) rfl
@[go_sem] theorem p_slice3 (t ty : TypeId) (b o len cap : Nat) (k k' k'' : IntKind) (i j q : Int) (K : Value → Prop) (h0 : 0 ≤ i) (h1 : i ≤ j) (h2 : j ≤ q) (h3 : q ≤ cap) : PurX P (.slice t (.const (.slice (some ⟨b, o, none⟩) len cap)) (some (.const (.int k i))) (some (.const (.int k' j))) (some (.const (.int k'' q)))) ty K () = OrK (tslice P t) (fun n => K (.slice (some ⟨b, slo o q.toNat i.toNat n, none⟩) (j.toNat - i.toNat) (q.toNat - i.toNat))) (PurX P (.slice t (.const (.slice (some ⟨b, o, none⟩) len cap)) (some (.const (.int k i))) (some (.const (.int k' j))) (some (.const (.int k'' q)))) ty K ()) () :=
  OrK_by (fun n h => (r_slice3 t ty b o len cap n k k' k'' i j q h h0 h1 h2 h3).pur K) rfl

/-! ### Structs compared, whose fields are numbers, bools, texts -/
def eqI : Option Value → Option Value → Option Bool
  | some (.int k a), some (.int k' b) => if k = k' then some (decide (a = b)) else none
  | _, _ => none
def eqB : Option Value → Option Value → Option Bool
  | some (.bool a), some (.bool b) => some (a == b)
  | _, _ => none
def eqS : Option Value → Option Value → Option Bool
  | some (.string a), some (.string b) => some (a.toList == b.toList)
  | _, _ => none
def eq1 (k : Nat) (u v : Option Value) : Option Bool := if k = 8 then eqI u v else if k = 9 then eqB u v else eqS u v
theorem eqI_spec {u v : Option Value} {b : Bool} (h : eqI u v = some b) : ∃ k x y, u = some (.int k x) ∧ v = some (.int k y) ∧ b = decide (x = y) := by
  unfold eqI at h
  split at h
  · split at h
    · rename_i hk; subst hk; simp at h; exact ⟨_, _, _, rfl, rfl, h.symm⟩
    · simp at h
  · simp at h
theorem eqB_spec {u v : Option Value} {b : Bool} (h : eqB u v = some b) : ∃ x y, u = some (.bool x) ∧ v = some (.bool y) ∧ b = (x == y) := by
  unfold eqB at h
  split at h
  · simp at h; exact ⟨_, _, rfl, rfl, h.symm⟩
  · simp at h
theorem eqS_spec {u v : Option Value} {b : Bool} (h : eqS u v = some b) : ∃ x y, u = some (.string x) ∧ v = some (.string y) ∧ b = (x.toList == y.toList) := by
  unfold eqS at h
  split at h
  · simp at h; exact ⟨_, _, rfl, rfl, h.symm⟩
  · simp at h
def eqFlat (xs ys : Array Value) : List (Nat × Nat) → Option Bool
  | [] => some true
  | p :: l => (eq1 p.2 xs[p.1]? ys[p.1]?).bind fun b => (eqFlat xs ys l).map fun r => b && r
@[go_sem] theorem eqFlat_nil (xs ys : Array Value) : eqFlat xs ys [] = some true := rfl
@[go_sem] theorem eqFlat_cons (xs ys : Array Value) (p : Nat × Nat) (l : List (Nat × Nat)) : eqFlat xs ys (p :: l) = (eq1 p.2 xs[p.1]? ys[p.1]?).bind fun b => (eqFlat xs ys l).map fun r => b && r := rfl
@[go_sem] theorem eq1_int (k : IntKind) (a b : Int) : eq1 8 (some (.int k a)) (some (.int k b)) = some (decide (a = b)) := by simp [eq1, eqI]
@[go_sem] theorem eq1_bool (a b : Bool) : eq1 9 (some (.bool a)) (some (.bool b)) = some (a == b) := rfl
@[go_sem] theorem eq1_str (a b : ByteArray) : eq1 3 (some (.string a)) (some (.string b)) = some (a.toList == b.toList) := rfl
theorem tkind_8 {t : TypeId} (h : tkind P t = some 8) : ∃ k, P.underlying t = some (.int k) := by
  unfold tkind at h
  cases hu : P.underlying t with
  | none => rw [hu] at h; simp at h
  | some d => rw [hu] at h; cases d <;> simp at h; exact ⟨_, rfl⟩
theorem run_eqFields (d : Nat) (xs ys : Array Value) (w : World) : ∀ (fs : List Field) (l : List (Nat × Nat)) (r : Bool), tflatF P fs = some l → eqFlat xs ys l = some r → (Op.eqFields (d + 1) xs ys fs).run P w = .ok r w
  | [], l, r, h, h2 => by
    simp [tflatF] at h; subst h
    simp [eqFlat] at h2; subst h2
    simp [Op.eqFields]
  | f :: fs, l, r, h, h2 => by
    unfold tflatF at h
    split at h
    · simp at h
    · rename_i hn
      obtain ⟨k, hk, h⟩ := Option.bind_eq_some_iff.1 h
      obtain ⟨b, hb, h⟩ := Option.bind_eq_some_iff.1 h
      cases b with
      | true => simp at h
      | false =>
        simp only [cond_false] at h
        split at h
        · rename_i hk3
          obtain ⟨l', hl', rfl⟩ := Option.map_eq_some_iff.1 h
          rw [eqFlat_cons] at h2
          obtain ⟨b, h3, h2⟩ := Option.bind_eq_some_iff.1 h2
          obtain ⟨r', h4, rfl⟩ := Option.map_eq_some_iff.1 h2
          have ih := run_eqFields d xs ys w fs l' r' hl' h4
          dsimp only at h3
          have key : ∃ u v, xs[f.offset]? = some u ∧ ys[f.offset]? = some v ∧ (Op.equalIn (d + 1) f.type u v).run P w = .ok b w := by
            rcases hk3 with rfl | rfl | rfl
            · obtain ⟨kk, hu⟩ := tkind_8 hk
              obtain ⟨k, x, y, e1, e2, rfl⟩ := eqI_spec h3
              refine ⟨_, _, e1, e2, ?_⟩
              simp [Op.equalIn, run_underlying hu]
              rfl
            · have hu := tkind_9 hk
              obtain ⟨x, y, e1, e2, rfl⟩ := eqB_spec h3
              exact ⟨_, _, e1, e2, by simp [Op.equalIn, run_underlying hu]⟩
            · have hu := tkind_3 hk
              obtain ⟨x, y, e1, e2, rfl⟩ := eqS_spec h3
              refine ⟨_, _, e1, e2, ?_⟩
              simp [Op.equalIn, run_underlying hu, beq_toListBytes]
          obtain ⟨u, v, hu, hv, hr⟩ := key
          have hpu : (part f.type xs f.offset).run P w = .ok u w := run_part (by simp [partL, hb, hu]) w
          have hpv : (part f.type ys f.offset).run P w = .ok v w := run_part (by simp [partL, hb, hv]) w
          simp only [Op.eqFields, hn, ne_eq, not_false_eq_true, if_true, Sem.run_bind, hpu, hpv, Result.andThen_ok, hr]
          cases b <;> simp [ih]
        · simp at h
theorem eq_flat {t : TypeId} {xs ys : Array Value} {l : List (Nat × Nat)} {r : Bool} (h : tflat P t = some l) (h2 : eqFlat xs ys l = some r) :
    (∀ op x y w, (eqGuard op t x y (.agg xs) (.agg ys)).run P w = .ok () w) ∧ ∀ w, (Op.equal t (.agg xs) (.agg ys)).run P w = .ok r w := by
  unfold tflat at h
  cases hu : P.underlying t with
  | none => rw [hu] at h; simp at h
  | some d =>
    rw [hu] at h
    cases d <;> first | (simp at h; done) | skip
    rename_i fs
    simp only [Option.bind_some] at h
    split at h
    · simp at h
    · rename_i hs
      simp only [Bool.or_eq_true, not_or, Bool.not_eq_true] at hs
      constructor
      · intro op x y w
        unfold eqGuard
        cases op <;> simp [hs.2]
      · intro w
        have hff : P.fieldsOf t = fs := by simp [Program.fieldsOf, hu]
        have := run_equalIn_struct (P := P) w 9999 t xs ys (by rw [hff]; exact hu) hs.1
        unfold Op.equal Op.maxDepth
        rw [this, hff]
        exact run_eqFields 9998 xs ys w fs.toList l r h h2
theorem r_flat {t : TypeId} {xs ys : Array Value} {r : Bool} (h : (tflat P t).bind (eqFlat xs ys) = some r) : PureBin P .eql t (.agg xs) (.agg ys) (.bool r) := by
  obtain ⟨l, h1, h2⟩ := Option.bind_eq_some_iff.1 h
  obtain ⟨h3, h4⟩ := eq_flat h1 h2
  refine ⟨fun x y w => ?_⟩
  unfold binS
  simp [h3, binOp, h4]
theorem r_nflat {t : TypeId} {xs ys : Array Value} {r : Bool} (h : (tflat P t).bind (eqFlat xs ys) = some r) : PureBin P .neq t (.agg xs) (.agg ys) (.bool (!r)) := by
  obtain ⟨l, h1, h2⟩ := Option.bind_eq_some_iff.1 h
  obtain ⟨h3, h4⟩ := eq_flat h1 h2
  refine ⟨fun x y w => ?_⟩
  unfold binS
  simp [h3, binOp, h4]
@[go_sem] theorem x_eql_agg (t : TypeId) (xs ys : Array Value) (K : Value → World → Prop) (w : World) : BinX P .eql t (.agg xs) (.agg ys) K w = OrK ((tflat P t).bind (eqFlat xs ys)) (fun r => K (.bool r) w) (BinX P .eql t (.agg xs) (.agg ys) K w) () := OrK_by (fun r h => (r_flat h).op K w) rfl
@[go_sem] theorem x_neq_agg (t : TypeId) (xs ys : Array Value) (K : Value → World → Prop) (w : World) : BinX P .neq t (.agg xs) (.agg ys) K w = OrK ((tflat P t).bind (eqFlat xs ys)) (fun r => K (.bool (!r)) w) (BinX P .neq t (.agg xs) (.agg ys) K w) () := OrK_by (fun r h => (r_nflat h).op K w) rfl
@[go_sem] theorem q_eql_agg (t : TypeId) (xs ys : Array Value) (K : Value → Prop) (w : World) : RdB P .eql t (.agg xs) (.agg ys) K w = OrK ((tflat P t).bind (eqFlat xs ys)) (fun r => K (.bool r)) (RdB P .eql t (.agg xs) (.agg ys) K w) () := OrK_by (fun r h => (r_flat h).rd K w) rfl
@[go_sem] theorem q_neq_agg (t : TypeId) (xs ys : Array Value) (K : Value → Prop) (w : World) : RdB P .neq t (.agg xs) (.agg ys) K w = OrK ((tflat P t).bind (eqFlat xs ys)) (fun r => K (.bool (!r))) (RdB P .neq t (.agg xs) (.agg ys) K w) () := OrK_by (fun r h => (r_nflat h).rd K w) rfl
@[go_sem] theorem y_eql_agg (t : TypeId) (xs ys : Array Value) (u : Value) (w : World) : YldB P .eql t (.agg xs) (.agg ys) u w = OrK ((tflat P t).bind (eqFlat xs ys)) (fun r => u = .bool r) (YldB P .eql t (.agg xs) (.agg ys) u w) () := OrK_by (fun r h => (r_flat h).yld u w) rfl
@[go_sem] theorem y_neq_agg (t : TypeId) (xs ys : Array Value) (u : Value) (w : World) : YldB P .neq t (.agg xs) (.agg ys) u w = OrK ((tflat P t).bind (eqFlat xs ys)) (fun r => u = .bool (!r)) (YldB P .neq t (.agg xs) (.agg ys) u w) () := OrK_by (fun r h => (r_nflat h).yld u w) rfl

/-! ### Texts -/
theorem r_cat (t : TypeId) (a b : ByteArray) (h : (a.size : Int) + (b.size : Int) ≤ 9223372036854775807) : PureBin P .add t (.string a) (.string b) (.string (a ++ b)) := ⟨fun x y w => by simp [binS, eqGuard, binOp, Op.stringOp, h]⟩
@[go_sem] theorem x_cat (t : TypeId) (a b : ByteArray) (K : Value → World → Prop) (w : World) (h : (a.size : Int) + (b.size : Int) ≤ 9223372036854775807) : BinX P .add t (.string a) (.string b) K w = K (.string (a ++ b)) w := (r_cat t a b h).op K w
@[go_sem] theorem p_cat (t : TypeId) (a b : ByteArray) (K : Value → Prop) (h : (a.size : Int) + (b.size : Int) ≤ 9223372036854775807) : PurB P .add t (.string a) (.string b) K () = K (.string (a ++ b)) := (r_cat t a b h).pur K
end
end Lyc
