/-
  From a contract (true comes back; whatever lay below is as it was) to a row 'true for every input; the arguments read as they did'. It names no program.
  Began from the kit's own laws on rows (post_of_same, returnsInHanded_of_change).
-/
import Derived.ProofKit
import Derived.Deep.Slices
import Derived.Deep.Fields
import Derived.ChangeSame
import Derived.Test.YtdjdeahmhenchaaLycFrame
set_option linter.unusedSimpArgs false
set_option linter.unusedVariables false
namespace Lyc
open Go Go.ChangeShapes Go.WideShapes Go.ChangeAt Go.RowKit Go.Deep
section
variable {H : Type} {enc : TypeId × Value → H} {P : Program}

theorem trodAll_below (hl : laidOutB P = true) {W W' : World} (hb : Below W.heap.size W W') {sp : Nat → Bool} : ∀ {ts : List TypeId} {vs : List Value} {ds : List (DataW H)} {p : List MemPlace},
    ts.all (fun t => P.readableRec t && decide (t < P.types.size)) = true → DataW.TrodAll enc P W 0 (fun _ => true) true ts vs ds p → (∀ x ∈ p, x.block < W.heap.size) → (∀ x ∈ p, sp x.block = true) →
    DataW.TrodAll enc P W' 0 sp true ts vs ds p
  | [], [], [], _, _, h, _, _ => h
  | [], _ :: _, _, _, _, h, _, _ => h.elim
  | [], [], _ :: _, _, _, h, _, _ => h.elim
  | _ :: _, [], _, _, _, h, _, _ => h.elim
  | _ :: _, _ :: _, [], _, _, h, _, _ => h.elim
  | t :: ts, v :: vs, d :: ds, _, ht, h, hlt, hs => by
    obtain ⟨p, q, h1, h2, rfl⟩ := h
    simp only [List.all_cons, Bool.and_eq_true, decide_eq_true_eq] at ht
    exact ⟨p, q, WideElems.Trod_stays hl ht.1.1 ht.1.2 h1 (fun x hx => hb.same (hlt x (by simp [hx]))) (fun x hx => hs x (by simp [hx])),
      trodAll_below hl hb ht.2 h2 (fun x hx => hlt x (by simp [hx])) (fun x hx => hs x (by simp [hx])), rfl⟩

theorem post_true {f : Func} {s : ChangeSpec} {apart fresh handsOn again : Bool} {W W' : World} {args : Array Value} {ds gs : List (DataW H)} {before : List MemPlace} {tb : TypeId}
    (hl : laidOutB P = true) (hrt : f.resultTypes = #[tb]) (htb : P.underlying tb = some .bool)
    (hts : f.params.toList.all (fun t => P.readableRec t && decide (t < P.types.size)) = true)
    (hv : s.vars = []) (hW : DataW.Whole enc P f.params.toList s.vars apart W args.toList ds gs before)
    (hspec : s.fn H (ds ++ gs) = { results := [.lit (.bool true)], args := ds }) (hb : Below W.heap.size W W') :
    s.post enc P f apart fresh handsOn again W args (.bool true) W' := by
  have hlt : ∀ x ∈ before, x.block < W.heap.size := fun x hx => by simpa using hW.lt x hx
  have hW' := hW
  obtain ⟨p, q, hA, hV, rfl, hz, hn⟩ := hW
  rw [hv] at hV
  obtain ⟨rfl, rfl⟩ := trodVars_none hV
  simp only [List.append_nil] at hlt hz hn hW'
  have hres : ∀ (b : Nat) (sp : Nat → Bool) (hd : Bool), DataW.TrodAll enc P W' b sp hd f.resultTypes.toList ((Value.bool true).resultList f.resultTypes.size) [.lit (.bool true)] [] := by
    intro b sp hd
    rw [hrt]
    exact trodAll_mk1 ⟨1, by simp [DataW.trod, Value.cells, htb]⟩
  have hargs : ∀ sp : Nat → Bool, (∀ x ∈ p, sp x.block = true) → DataW.TrodAll enc P W' 0 sp true f.params.toList args.toList ds p := fun sp hs => trodAll_below hl hb hts hA hlt hs
  refine ⟨ds, [], p, [], p, [], hW', ?_, ?_, ?_, hb.frame _, fun _ => ?_⟩
  · rw [hspec]; exact hres _ _ _
  · rw [hspec]; exact hargs _ (by simpa using hlt)
  · rw [hspec, hv]; exact rfl
  · refine ⟨ok_one hrt rfl (okWide_bool_mk htb true), [.lit (.bool true)] ++ ds, [], p, ⟨[] ++ p, [], trodAll_append (hargs _ (fun _ _ => rfl)) (hres _ _ _), ?_, by simp, ?_, ?_⟩, ?_⟩
    · rw [hv]; exact rfl
    · intro b off hp
      rw [hb.frozen (hlt _ hp)]
      exact hz b off hp
    · intro ha
      simpa using hn ha
    · intro x hx _
      exact hx

theorem lifted_true {C : Checked} {a : Assume} {os : Os} {f : FuncId} {fn : Func} {s : ChangeSpec} {conds : List PathCond} {apart fresh handsOn again : Bool} {tb : TypeId}
    (own : ownKnob C.prog.godebug = none) (started : os.Started) (noInit : C.prog.inits.idxOf? f = none) (hfn : C.prog.funcs[f]? = some fn)
    (witness : ∃ (w : World) (tape : Tape) (i : Input), w.os = os ∧ (w.forCall tape i).Shaped C.prog ∧ i.vars = [] ∧ Input.okWide C.prog (w.forCall tape i) .any w.heap.size f i ∧
      s.pre6 enc C.prog fn conds apart (w.forCall tape i).memory i.args ∧ a.holds C.prog (lone (Frame.enter C.prog f i.args .normal) [] (w.forCall tape i)))
    (hl : laidOutB C.prog = true) (hrt : fn.resultTypes = #[tb]) (htb : C.prog.underlying tb = some .bool)
    (hts : fn.params.toList.all (fun t => C.prog.readableRec t && decide (t < C.prog.types.size)) = true)
    (hv : s.vars = []) (hspec : ∀ ds : List (DataW H), ds.length = fn.params.toList.length → s.fn H ds = { results := [.lit (.bool true)], args := ds })
    (contract : ∀ (W : World) (base : Nat) (args : Array Value) (ds : List (DataW H)) (p : List MemPlace),
      (∀ (j : Nat) t v, fn.params[j]? = some t → args[j]? = some v → Value.okWide C.prog W .any base t v) →
      DataW.TrodAll enc C.prog W 0 (fun _ => true) true fn.params.toList args.toList ds p →
      Calls C.prog f args W (retK fun v w' => v = .bool true ∧ Chg [] W w')) :
    ReturnsInHanded a C os f .any (s.pre6 enc C.prog fn conds apart) (s.post enc C.prog fn apart fresh handsOn again) := by
  refine returnsInHanded_of_change own started noInit hfn witness ?_
  intro W base args ds gs before hval hW hcnd _
  have hW' := hW
  obtain ⟨p, q, hA, hV, hp, hfz, hnd⟩ := hW
  have hV' := hV
  rw [hv] at hV'
  obtain ⟨rfl, rfl⟩ := trodVars_none hV'
  have hlen : ds.length = fn.params.toList.length := by
    clear hval hW' hV hV' hp hfz hnd hcnd
    generalize fn.params.toList = ts at hA
    generalize args.toList = vs at hA
    induction ts generalizing vs ds p with
    | nil => cases vs <;> cases ds <;> first | rfl | exact hA.elim
    | cons t ts ih =>
      cases vs with
      | nil => exact hA.elim
      | cons v vs =>
        cases ds with
        | nil => exact hA.elim
        | cons d ds =>
          obtain ⟨p, q, _, h2, _⟩ := hA
          simp [ih _ _ _ h2]
  refine (contract W base args ds p hval hA).mono fun e W' he => ?_
  cases e <;> first | exact he.elim | skip
  obtain ⟨rfl, hc⟩ := he
  exact ⟨_, rfl, post_true hl hrt htb hts hv hW' (by rw [List.append_nil]; exact hspec ds hlen) hc.below⟩

/-! An argument that is a slice of structs of one-cell fields (after the kit's page on more structs). -/
theorem open_slice_rows {w : World} {base : Nat} {spare : Nat → Bool} {held : Bool} {t e : TypeId} {fs : Array Field} {fuel : Nat} {cs : List Value} {x : DataW H × List MemPlace} (ht : P.underlying t = some (.slice e)) (he : P.underlying e = some (.struct fs))
    (hone : oneCellFields P fs = true) (hC : P.cellsOf e = fs.size) (h : DataW.trod enc P w base spare held fuel t cs = some x) :
    (cs = [.slice none 0 0]) ∨
    ∃ (a : Addr) (len cap : Nat), cs = [.slice (some a) len cap] ∧ len ≤ cap ∧ cap ≤ maxLen ∧
      ∀ i, i < len → ∀ (j : Nat) (f : Field), fs[j]? = some f → ∃ (v : Value) (n : Nat) (y : DataW H × List MemPlace), w.cell? (a.add (i * fs.size + j)) = some v ∧ DataW.trod enc P w base spare held n f.type [v] = some y := by
  rcases open_slice ht h with h0 | ⟨a, len, cap, m, n, D, Pl, hcs, hb, hl, hm, hmm, hx, hi⟩
  · exact .inl h0.1
  · have hlm : len ≤ m := by rw [hmm]; split <;> omega
    refine .inr ⟨a, len, cap, hcs, hl, hm, fun i hil j f hj => ?_⟩
    obtain ⟨cs', hc, ht'⟩ := hi i (by omega)
    rw [hC] at hc
    obtain ⟨ys, n', hn', hy, hlen, hyl, hf⟩ := DataW.trod_struct he ht'
    obtain ⟨_, hcl, hat⟩ := World.cells?_some hc
    obtain ⟨ho, hk⟩ := hone_of hone j f hj
    have hjl : j < fs.size := (Array.getElem?_eq_some_iff.1 hj).1
    have hcell := hat j hjl
    have hv : cs'[j]? = some (cs'[j]'(by omega)) := List.getElem?_eq_getElem (by omega)
    have h1 := hf j f hj
    rw [ho, hk] at h1
    have hone' : (cs'.drop j).take 1 = [cs'[j]'(by omega)] := by
      rw [List.drop_eq_getElem_cons (by omega)]
      rfl
    rw [hone'] at h1
    have hys : ys[j]? = some (ys[j]'(by omega)) := List.getElem?_eq_getElem (by omega)
    refine ⟨_, n', _, ?_, h1.trans hys⟩
    rw [← Go.Deep.add_add, hcell, hv]
theorem sla_nil (w : World) (len cap m : Nat) (g : Nat → List Value) (h : len = 0) : SlA w (.slice none len cap) len m g := ⟨none, cap, rfl, fun i hi => by omega⟩
theorem sla_of {α : Type} [Inhabited α] (cs : α → List Value) {w : World} {a : Addr} {len cap m : Nat} (hm : 0 < m) (hl : ∀ x, (cs x).length = m)
    (h : ∀ i, i < len → ∃ x, ∀ j, j < m → w.cell? (a.add (i * m + j)) = (cs x)[j]?) : ∃ g : Nat → α, SlA w (.slice (some a) len cap) len m fun i => cs (g i) := by
  have h' : ∀ i, ∃ x, i < len → ∀ j, j < m → w.cell? (a.add (i * m + j)) = (cs x)[j]? := fun i => by
    by_cases hi : i < len
    · obtain ⟨x, hx⟩ := h i hi; exact ⟨x, fun _ => hx⟩
    · exact ⟨default, fun h => absurd h hi⟩
  obtain ⟨g, hg⟩ : ∃ g : Nat → α, ∀ i, i < len → ∀ j, j < m → w.cell? (a.add (i * m + j)) = (cs (g i))[j]? := ⟨fun i => Classical.choose (h' i), fun i => Classical.choose_spec (h' i)⟩
  refine ⟨g, some a, cap, rfl, fun i hi => ?_⟩
  have hx := hg i hi
  show ∃ b o, some a = some ⟨b, o, none⟩ ∧ b < w.heap.size ∧ aggAt w.heap[b]? (o + i * m) m = some (cs (g i)).toArray
  generalize g i = x at hx
  have key : ∀ k v, w.cell? (a.add k) = some v → a.block < w.heap.size ∧ ∀ b o, a = ⟨b, o, none⟩ → cellAt w.heap[b]? (o + k) = some v := by
    intro k v hk
    unfold World.cell? at hk
    have hb : (a.add k).block = a.block := by unfold Addr.add; split <;> rfl
    rw [hb] at hk
    cases hh : w.heap[a.block]? with
    | none => rw [hh] at hk; simp at hk
    | some o =>
      refine ⟨lt_of_heap hh, ?_⟩
      rintro b o' rfl
      rw [hh] at hk
      dsimp only at hk hh ⊢
      rw [hh]
      have ha : (⟨b, o', none⟩ : Addr).add k = ⟨b, o' + k, none⟩ := by unfold Addr.add; split <;> simp_all
      rw [ha] at hk
      cases o <;> first | (simp at hk; done) | skip
      simpa [cellAt] using hk
  have hlen := hl x
  have h0 := hx 0 hm
  have hx0 : (cs x)[0]? = some ((cs x)[0]'(by omega)) := List.getElem?_eq_getElem (by omega)
  rw [hx0] at h0
  obtain ⟨ab, ao, sp⟩ := a
  have hsp : sp = none := by
    cases sp with
    | none => rfl
    | some y =>
      exfalso
      -- the first element of all tells it
      by_cases hi0 : i * m = 0
      · rw [hi0] at h0
        simp [Addr.add, World.cell?] at h0
        split at h0 <;> simp at h0
      · have h00 := h 0 (by omega)
        obtain ⟨x0, h00⟩ := h00
        have h00 := h00 0 hm
        have hl0 := hl x0
        have hx00 : (cs x0)[0]? = some ((cs x0)[0]'(by omega)) := List.getElem?_eq_getElem (by omega)
        rw [hx00] at h00
        simp [Addr.add, World.cell?] at h00
        split at h00 <;> simp at h00
  subst hsp
  refine ⟨ab, ao, rfl, (key _ _ h0).1, aggAt_of hlen hm fun j hj => ?_⟩
  have h1 := hx j hj
  have hxj : (cs x)[j]? = some ((cs x)[j]'(by omega)) := List.getElem?_eq_getElem (by omega)
  rw [hxj] at h1 ⊢
  have := (key _ _ h1).2 _ _ rfl
  rw [Nat.add_assoc]
  exact this
end
end Lyc
