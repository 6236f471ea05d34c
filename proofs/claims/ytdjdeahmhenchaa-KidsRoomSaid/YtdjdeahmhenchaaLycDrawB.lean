/-
  A region that draws its order, read by 'trD', is sound. It names no program.
-/
import Derived.Test.YtdjdeahmhenchaaLycDraw
set_option linter.unusedSimpArgs false
set_option linter.unusedVariables false
namespace Lyc
open Go
section
variable {P : Program}

def unS (S : Option (World → Prop)) : World → Prop := S.getD fun _ => True

theorem stepQ_sound {o : Oper} {e : Env} {k : Env → Option (World → Prop) → Prop} {a : Act} {w : World} (h : Agree e a) (hd : ∀ d, o.dst = some d → d < a.tmps.size) (ht : stepQ P o e k w) :
    ∃ (v : Value) (e' : Env) (S : Option (World → Prop)), Agree e' (a.put o.dst v) ∧ k e' S ∧ (∀ c, o.op ≠ .defer c) ∧ unS S w ∧ ∀ w', unS S w' → (execOp a.eval o).run P w' = .ok (.value v) w' := by
  have bin : ∀ (op : BinOp) (t : TypeId) (x y : Operand) (u : TypeId), o.op = .binOp op t x y u → execOp a.eval o = binS op t (a.eval x) (a.eval y) x y := by
    intro op t x y u ho
    unfold execOp binS; rw [ho]
    simp only [bind, pure, sem_assoc]
  unfold stepQ at ht
  split at ht
  · rename_i x ho
    refine ⟨a.eval x, _, none, agree_put h (ent_ok h x) hd, ht, fun c hc => by rw [ho] at hc; simp at hc, trivial, fun w' _ => ?_⟩
    unfold execOp; rw [ho]; rfl
  · rename_i x ho
    refine ⟨a.eval x, _, none, agree_put h (ent_ok h x) hd, ht, fun c hc => by rw [ho] at hc; simp at hc, trivial, fun w' _ => ?_⟩
    unfold execOp; rw [ho]; rfl
  · rename_i c x y ho
    have hc := ent_ok h c
    have key : ∀ b, a.eval c = .bool b → (b = true → k (putE e o.dst (entO e x)) none) → (b = false → k (putE e o.dst (entO e y)) none) →
        ∃ (v : Value) (e' : Env) (S : Option (World → Prop)), Agree e' (a.put o.dst v) ∧ k e' S ∧ (∀ c, o.op ≠ .defer c) ∧ unS S w ∧ ∀ w', unS S w' → (execOp a.eval o).run P w' = .ok (.value v) w' := by
      intro b hb h1 h2
      cases b
      · refine ⟨a.eval y, _, none, agree_put h (ent_ok h y) hd, h2 rfl, fun c hc => by rw [ho] at hc; simp at hc, trivial, fun w' _ => ?_⟩
        unfold execOp; rw [ho]; simp only [hb]; rfl
      · refine ⟨a.eval x, _, none, agree_put h (ent_ok h x) hd, h1 rfl, fun c hc => by rw [ho] at hc; simp at hc, trivial, fun w' _ => ?_⟩
        unfold execOp; rw [ho]; simp only [hb]; rfl
    split at ht <;> rename_i hce <;> simp only [hce, Ent.ok] at hc
    · refine key _ hc ?_ ?_ <;> (rintro rfl; exact ht)
    · obtain ⟨b, hb, h1, h2⟩ := ht
      exact key b (hc.trans hb) h1 h2
    · exact ht.elim
  · rename_i op t x y u ho
    have hnd : ∀ c, o.op ≠ .defer c := fun c hc => by rw [ho] at hc; simp at hc
    split at ht
    · rename_i va vb ha hb
      have hx := value?_ok (ent_ok h x) ha
      have hy := value?_ok (ent_ok h y) hb
      cases hq : Nat.beq (quietK o.op) 2 <;> rw [hq] at ht
      · obtain ⟨v, ⟨hv⟩, hk⟩ := ht
        refine ⟨v, _, some (YldB P op t va vb v), agree_put h (by simp [Ent.ok]) hd, hk, hnd, ⟨hv⟩, fun w' ⟨hw⟩ => ?_⟩
        rw [bin op t x y u ho, hx, hy]; exact hw x y
      · obtain ⟨v, hv, hk⟩ := ht
        refine ⟨v, _, none, agree_put h (by simp [Ent.ok]) hd, hk, hnd, trivial, fun w' _ => ?_⟩
        rw [bin op t x y u ho, hx, hy]; exact hv x y w'
    · exact ht.elim
  · rename_i n1 n2 n3 n4
    have gen : quietK o.op = 2 ∨ quietK o.op = 3 → odd o.op = false ∧ ∀ c, o.op ≠ .defer c := by
      intro hq
      refine ⟨?_, fun c hc => by rw [hc] at hq; simp [quietK] at hq⟩
      unfold odd
      split
      · rename_i c hc; rw [hc] at hq; simp [quietK] at hq
      · rename_i c hc; rw [hc] at hq; simp [quietK] at hq
      · rename_i _ _ _ _ _ hc; exact absurd hc (n4 _ _ _ _ _)
      · rename_i _ _ hc; rw [hc] at hq; simp [quietK] at hq
      · rename_i _ _ hc; rw [hc] at hq; simp [quietK] at hq
      · rfl
    split at ht
    · rename_i hq
      obtain ⟨ho, hnd⟩ := gen (.inl hq)
      obtain ⟨v, hv, hk⟩ := ht
      refine ⟨v, _, none, agree_put h (by simp [Ent.ok]) hd, hk, hnd, trivial, fun w' _ => ?_⟩
      rw [execOp_map o (sub_eval h) ho]
      exact hv _ (Act_good a) w'
    · rename_i hq
      obtain ⟨ho, hnd⟩ := gen (.inr hq)
      obtain ⟨v, ⟨hv⟩, hk⟩ := ht
      refine ⟨v, _, some (Yld P (mapO (subO e) o.op) o.type v), agree_put h (by simp [Ent.ok]) hd, hk, hnd, ⟨hv⟩, fun w' ⟨hw⟩ => ?_⟩
      rw [execOp_map o (sub_eval h) ho]
      exact hw _ (Act_good a)
    · exact ht.elim

theorem guardQ_sound {ops : Array Oper} {o : Oper} {e : Env} {run skip : Env → Prop} {a : Act} (h : Agree e a) (ht : guardQ ops.toList o e run skip) :
    (∃ e', Agree e' a ∧ Region.wanted o (yielded ops a.tmps) = true ∧ run e') ∨ (∃ e', Agree e' a ∧ Region.wanted o (yielded ops a.tmps) = false ∧ skip e') := by
  unfold guardQ at ht
  split at ht
  · rename_i hg
    exact .inl ⟨e, h, by simp [Region.wanted, hg], ht⟩
  · rename_i j want hg
    split at ht
    · exact ht.elim
    · rename_i d hdj
      have hv := tget_ok h d
      split at ht <;> rename_i hx <;> simp only [hx, Ent.ok] at hv
      · exact ht.elim
      · rename_i b
        have hw := wanted_of hg hdj hv
        cases b <;> cases want <;> simp at ht hw
        · exact .inl ⟨e, h, hw, ht⟩
        · exact .inr ⟨e, h, hw, ht⟩
        · exact .inr ⟨e, h, hw, ht⟩
        · exact .inl ⟨e, h, hw, ht⟩
      · exact .inr ⟨e, h, wanted_und hg hdj hv, ht⟩
      · obtain ⟨b, hb, h1, h2⟩ := ht
        have hv' := hv.trans hb
        have hw := wanted_of hg hdj hv'
        cases b <;> cases want <;> simp at h1 h2 hw
        · exact .inl ⟨_, agree_refineT h (by rw [hx]; simp) (x := .lit false) hv', hw, h2⟩
        · exact .inr ⟨_, agree_refineT h (by rw [hx]; simp) (x := .lit false) hv', hw, h2⟩
        · exact .inr ⟨_, agree_refineT h (by rw [hx]; simp) (x := .lit true) hv', hw, h1⟩
        · exact .inl ⟨_, agree_refineT h (by rw [hx]; simp) (x := .lit true) hv', hw, h1⟩

theorem okE_iff {m : Nat} {es : List Edge} : okE m es = true ↔ ∀ e ∈ es, Region.binds .any e = true → m.testBit e.on = true := by
  induction es with
  | nil => simp [okE]
  | cons e es ih =>
    simp only [okE, Bool.and_eq_true, ih, List.mem_cons, forall_eq_or_imp]
    cases Region.binds .any e <;> simp

theorem mem_readyL {m : Nat} : ∀ (l : List Oper) (i j : Nat), j ∈ readyL l i m ↔ ∃ o, i ≤ j ∧ l[j - i]? = some o ∧ m.testBit j = false ∧ okE m o.after.toList = true
  | [], i, j => by simp [readyL]
  | o :: l, i, j => by
    have ih := mem_readyL (m := m) l (i + 1) j
    have split : (∃ o', i ≤ j ∧ (o :: l)[j - i]? = some o' ∧ m.testBit j = false ∧ okE m o'.after.toList = true) ↔
        (j = i ∧ m.testBit i = false ∧ okE m o.after.toList = true) ∨ j ∈ readyL l (i + 1) m := by
      rw [ih]
      constructor
      · rintro ⟨o', hij, ho, hb, hk⟩
        rcases Nat.eq_or_lt_of_le hij with rfl | hlt
        · simp at ho; subst ho; exact .inl ⟨rfl, hb, hk⟩
        · obtain ⟨d, rfl⟩ : ∃ d, j = i + 1 + d := ⟨j - (i + 1), by omega⟩
          have e1 : i + 1 + d - i = d + 1 := by omega
          have e2 : i + 1 + d - (i + 1) = d := by omega
          rw [e1] at ho
          exact .inr ⟨o', by omega, by rw [e2]; simpa using ho, hb, hk⟩
      · rintro (⟨rfl, hb, hk⟩ | ⟨o', hij, ho, hb, hk⟩)
        · exact ⟨o, Nat.le_refl _, by simp, hb, hk⟩
        · obtain ⟨d, rfl⟩ : ∃ d, j = i + 1 + d := ⟨j - (i + 1), by omega⟩
          have e1 : i + 1 + d - i = d + 1 := by omega
          have e2 : i + 1 + d - (i + 1) = d := by omega
          rw [e2] at ho
          exact ⟨o', by omega, by rw [e1]; simpa using ho, hb, hk⟩
    rw [split]
    have e : readyL (o :: l) i m = bif (!m.testBit i && okE m o.after.toList) then i :: readyL l (i + 1) m else readyL l (i + 1) m := rfl
    rw [e]
    cases hb : m.testBit i <;> cases hk : okE m o.after.toList <;> simp

theorem readyL_iff {ops : Array Oper} {m j : Nat} : j ∈ readyL ops.toList 0 m ↔ Rdy ops m j := by
  rw [mem_readyL]
  unfold Rdy
  constructor
  · rintro ⟨o, _, ho, hb, hk⟩
    exact ⟨hb, o, by simpa using ho, fun e he => okE_iff.1 hk e (by simpa using he)⟩
  · rintro ⟨hb, o, ho, hall⟩
    exact ⟨o, Nat.zero_le _, by simpa using ho, hb, okE_iff.2 fun e he => hall e (by simpa using he)⟩

theorem apartOK_spec {ops : Array Oper} {ms : List Nat} (h : apartOK ops ms = true) :
    (∀ (i : Nat) (oi : Oper), ops[i]? = some oi → ∀ j oj, ops[j]? = some oj → j ≠ i → waitsOn oj i = false → twB ms i j = false → oi.apart ops oj = true) ∧
    (∀ (j : Nat) (o : Oper) cs b, ops[j]? = some o → o.op ≠ .select cs b) := by
  unfold apartOK at h
  rw [Bool.and_eq_true] at h
  refine ⟨fun i oi hi j oj hj hne hw ht => ?_, fun j o cs b ho => Region.noSelect_spec h.1 j o cs b ho⟩
  have mem : ∀ (i : Nat) (o : Oper), ops[i]? = some o → (o, i) ∈ ops.toList.zipIdx := fun i o ho => by
    rw [List.mem_zipIdx_iff_getElem?]; simpa using ho
  have h1 := List.all_eq_true.1 h.2 (oi, i) (mem i oi hi)
  have h2 := List.all_eq_true.1 h1 (oj, j) (mem j oj hj)
  simp only [hw, ht, Bool.or_false, Bool.or_eq_true] at h2
  rcases h2 with h2 | h2
  · exact absurd (Nat.eq_of_beq_eq_true h2).symm hne
  · exact h2

theorem oblW_spec {l : Held} {w : World} {X : Prop} (h : oblW l w X) : (∀ p ∈ l, p.2 w) ∧ X := by
  induction l with
  | nil => exact ⟨by simp, h⟩
  | cons p l ih => exact ⟨fun q hq => by rcases List.mem_cons.1 hq with rfl | hq; exact h.1; exact (ih h.2).1 q hq, (ih h.2).2⟩

theorem allL_spec {l : List Nat} {f : Nat → Prop} (h : allL l f) : ∀ j ∈ l, f j := by
  induction l with
  | nil => simp
  | cons j l ih =>
    cases l with
    | nil => intro i hi; simp at hi; subst hi; exact h
    | cons k l => intro i hi; rcases List.mem_cons.1 hi with rfl | hi; exact h.1; exact ih h.2 i hi

theorem firstQ_mem {ops : List Oper} {l : List Nat} {i : Nat} (h : firstQ ops l = some i) : i ∈ l := by
  induction l with
  | nil => simp [firstQ] at h
  | cons j l ih =>
    unfold firstQ at h
    cases hq : quietAt ops j <;> rw [hq] at h
    · exact List.mem_cons_of_mem _ (ih h)
    · simp at h; subst h; simp

theorem dst_mem {l : List Oper} {o : Oper} (ho : o ∈ l) : ∀ d ∈ o.dst.toList, d ∈ dsts l := by
  induction l with
  | nil => simp at ho
  | cons p l ih =>
    intro d hd
    unfold dsts
    rcases List.mem_cons.1 ho with rfl | ho
    · cases hp : o.dst with
      | none => rw [hp] at hd; simp at hd
      | some x => rw [hp] at hd; simp at hd ⊢; exact .inl hd
    · cases hp : p.dst with
      | none => exact ih ho d hd
      | some x => exact List.mem_cons_of_mem _ (ih ho d hd)

theorem trD_sound {ops : Array Oper} {ms : List Nat} {K : Env → World → Prop} {a0 : Act} (hms : ms = masks ops.toList []) (hap : apartOK ops ms = true) (hN : okOps a0.tmps.size ops.toList = true) (hD : a0.tmps.size ≤ DK) :
    ∀ (n m : Nat) (held : Held) (e : Env) (a : Act) (w : World), Closed ops m → Frz (dsts ops.toList) a0 a → Agree e a → (∀ p ∈ held, p.2 w) → trD P ops.toList ms n m held e K w →
      anyX P ops ms (fun a' w' => Frz (dsts ops.toList) a0 a' ∧ ∃ e', Agree e' a' ∧ K e' w') n m held a w := by
  have htw : ∀ j i, twB ms j i = true → TW ops j i := by
    subst hms
    exact masks_tw ops.toList [] (by simp) (by simp) (by intro j i h; simp [twB] at h)
  obtain ⟨hapart, hsel⟩ := apartOK_spec hap
  intro n
  have bound : ∀ {a : Act}, Frz (dsts ops.toList) a0 a → ∀ {i : Nat} {o : Oper}, ops[i]? = some o → ∀ d, o.dst = some d → d < a.tmps.size := by
    intro a hf i o ho d hd
    rw [hf.1]
    exact okOps_dst hN o (by simpa using List.mem_of_getElem? (l := ops.toList) (by simpa using ho)) d hd
  have frz : ∀ {a : Act} (hf : Frz (dsts ops.toList) a0 a) {i : Nat} {o : Oper} (ho : ops[i]? = some o) (v : Value), Frz (dsts ops.toList) a0 (a.put o.dst v) := by
    intro a hf i o ho v
    refine (hf.trans (frz_put a o.dst v (bound hf ho) (by rw [hf.1]; exact hD))).mono fun s hs => ?_
    rcases List.mem_append.1 hs with h | h
    · exact h
    · exact dst_mem (List.mem_of_getElem? (l := ops.toList) (by simpa using ho)) s h
  induction n with
  | zero =>
    intro m held e a w hc hf he hh ht
    unfold trD at ht
    split at ht
    · rename_i hr
      exact ⟨fun j hj => by rw [← readyL_iff, hr] at hj; simp at hj, hf, e, he, ht⟩
    · exact ht.elim
  | succ n ih =>
    intro m held e a w hc hf he hh ht
    unfold trD at ht
    split at ht
    · rename_i hr
      exact ⟨fun _ => ⟨hf, e, he, ht⟩, fun j hj => by rw [← readyL_iff, hr] at hj; simp at hj⟩
    · split at ht
      · rename_i i hq
        have hri : Rdy ops m i := readyL_iff.1 (firstQ_mem hq)
        split at ht
        · exact ht.elim
        · rename_i o hno
          have ho : ops[i]? = some o := by rw [nthO_eq] at hno; simpa using hno
          have first := fun (S : World → Prop) (v : Value) => anyX_first (P := P) (K := fun a' w' => Frz (dsts ops.toList) a0 a' ∧ ∃ e', Agree e' a' ∧ K e' w') (S := S) (v := v) ho htw (hapart i o ho) hsel n m held a w hc hri
          rcases guardQ_sound he ht with ⟨e', he', hw, ht⟩ | ⟨e', he', hw, ht⟩
          · obtain ⟨v, e'', S, hag, hk, hnd, hS, hrun⟩ := stepQ_sound he' (bound hf ho) ht
            cases S with
            | none =>
              refine first (fun _ => True) v (.inl ⟨hw, hnd, fun w' _ => hrun w' trivial⟩) trivial hh (anyX_true _ _ _ _ _ ?_)
              exact ih _ _ _ _ _ (closed_or hc hri) (frz hf ho v) hag hh hk
            | some S =>
              refine first S v (.inl ⟨hw, hnd, hrun⟩) hS hh ?_
              refine ih _ _ _ _ _ (closed_or hc hri) (frz hf ho v) hag ?_ hk
              intro p hp
              rcases List.mem_cons.1 hp with rfl | hp
              · exact hS
              · exact hh p hp
          · refine first (fun _ => True) undef (.inr ⟨hw, rfl⟩) trivial hh (anyX_true _ _ _ _ _ ?_)
            exact ih _ _ _ _ _ (closed_or hc hri) (frz hf ho undef) (agree_put he' (x := .und) rfl (bound hf ho)) hh ht
      · have hall := allL_spec ht
        refine ⟨fun hn => ?_, fun j hj => ?_⟩
        · rename_i hne _ _
          cases hr : readyL ops.toList 0 m with
          | nil => exact absurd hr hne
          | cons j l => exact absurd (readyL_iff.1 (by rw [hr]; simp)) (hn j)
        · have hj' := hall j (readyL_iff.2 hj)
          split at hj'
          · exact hj'.elim
          · rename_i o hno
            have ho : ops[j]? = some o := by rw [nthO_eq] at hno; simpa using hno
            refine ⟨o, ho, ?_⟩
            rcases guardQ_sound he hj' with ⟨e', he', hw, ht⟩ | ⟨e', he', hw, ht⟩
            · obtain ⟨hnd, hu⟩ := stepO_sound he' (bound hf ho) ht
              refine .inl ⟨hw, hnd, upon_mono (fun v w' ⟨e'', hag, hk⟩ => ?_) _ hu⟩
              obtain ⟨h1, h2⟩ := oblW_spec hk
              exact ⟨h1, ih _ _ _ _ _ (closed_or hc hj) (frz hf ho v) hag h1 h2⟩
            · have h1 : ∀ p ∈ keepH ms j held, p.2 w := fun p hp => hh p (mem_keepH.1 hp).1
              exact .inr ⟨hw, h1, ih _ _ _ _ _ (closed_or hc hj) (frz hf ho undef) (agree_put he' (x := .und) rfl (bound hf ho)) h1 ht⟩

theorem regionD_sound {ro : Option Nat} (hm : P.follows .mixedOrders = true) {ops : Array Oper} {id : Nat} {K : Env → World → Prop} {e : Env} {a : Act} {w : World} (hN : okOps a.tmps.size ops.toList = true) (he : Agree e a)
    (hap : apartOK ops (masks ops.toList []) = true) (h : trD P ops.toList (masks ops.toList []) ops.size 0 [] e K w.drew) :
    WP P ro (.region id ops true) (fun ex a' w' => ex = .normal ∧ Frz (dsts ops.toList) a a' ∧ ∃ e', Agree e' a' ∧ K e' w') a w := by
  intro b k cs _
  have hX := trD_sound (P := P) (a0 := a) rfl hap hN he.1 ops.size 0 [] e a w.drew (by intro j o hj; simp at hj) (Frz.refl _ _) he (by simp) h
  obtain ⟨a', w', hp, hs⟩ := anyX_run ops.size (w.tape w.drawn (.order b.fn id)) (Array.replicate ops.size false) 0 [] a w.drew ⟨by simp, fun i hi => by simp [hi, Array.getD_eq_getD_getElem?], by simp⟩ hX b k cs
  refine ⟨.normal, a', w', ⟨rfl, hp⟩, .head st_regionDraw ?_⟩
  have e1 : Region.schedule (P.follows .mixedOrders) ops (w.tape w.drawn (.order b.fn id)) = Region.linearise.go .any ops ops.size (w.tape w.drawn (.order b.fn id)) (Array.replicate ops.size false) [] := by
    simp only [Region.schedule, hm, Bool.true_or, if_true]; rfl
  rw [e1]
  exact hs.trans (.one st_regionEnd)
end
end Lyc
