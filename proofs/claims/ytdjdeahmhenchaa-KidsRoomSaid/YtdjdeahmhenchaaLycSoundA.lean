/-
  'tr' is sound: what it asks is enough for the machine of one goroutine. It names no program.
-/
import Derived.Test.YtdjdeahmhenchaaLycTr
set_option linter.unusedSimpArgs false
set_option linter.unusedVariables false
namespace Lyc
open Go

/-- Outside these places nothing has changed. -/
def Frz (ds : List Nat) (a a' : Act) : Prop := a'.tmps.size = a.tmps.size ∧ ∀ s, s ∉ ds → slot a' s = slot a s

theorem Frz.refl (ds : List Nat) (a : Act) : Frz ds a a := ⟨rfl, fun _ _ => rfl⟩
theorem Frz.trans {ds ds' : List Nat} {a b c : Act} (h : Frz ds a b) (h' : Frz ds' b c) : Frz (ds ++ ds') a c :=
  ⟨h'.1.trans h.1, fun s hs => by
    simp only [List.mem_append, not_or] at hs
    rw [h'.2 s hs.2, h.2 s hs.1]⟩
theorem Frz.mono {ds ds' : List Nat} {a b : Act} (h : Frz ds a b) (hs : ∀ s ∈ ds, s ∈ ds') : Frz ds' a b :=
  ⟨h.1, fun s hn => h.2 s fun hm => hn (hs s hm)⟩

theorem Env.get_cons (d : Nat) (x : Ent) (e : Env) (i : Nat) : Env.get ((d, x) :: e) i = if d = i then x else Env.get e i := by
  show (bif Nat.beq d i then x else Env.get e i) = _
  by_cases h : d = i
  · subst h; simp [Nat.beq_refl]
  · have hb : Nat.beq d i = false := by
      cases hb : Nat.beq d i with
      | true => exact absurd (Nat.eq_of_beq_eq_true hb) h
      | false => rfl
    simp [h, hb]

theorem slot_tmp (a : Act) {d : Nat} (h : d ≠ DK) : slot a d = a.tmps.getD d undef := by unfold slot; rw [if_neg h]
theorem beq_DK (t : Nat) : Nat.beq t DK = decide (t = DK) := by
  cases h : Nat.beq t DK with
  | true => simp [Nat.eq_of_beq_eq_true h]
  | false =>
    have : t ≠ DK := by rintro rfl; rw [Nat.beq_refl] at h; cases h
    simp [this]
theorem agree_refine {e : Env} {a : Act} {d : Nat} {x : Ent} (h : Agree e a) (hx : x.ok (slot a d)) : Agree ((d, x) :: e) a := by
  refine ⟨h.1, fun i => ?_⟩
  rw [Env.get_cons]
  split
  · rename_i hi; subst hi; exact hx
  · exact h.2 i
theorem tget_ok {e : Env} {a : Act} (h : Agree e a) (d : Nat) : (tget e d).ok (a.tmps.getD d undef) := by
  unfold tget
  rw [beq_DK]
  by_cases hd : d = DK
  · simp [hd, Ent.ok]
  · simp only [hd, decide_false, cond_false]
    have := h.2 d
    rw [slot_tmp a hd] at this
    exact this
theorem agree_refineT {e : Env} {a : Act} {d : Nat} {x : Ent} (h : Agree e a) (hd : tget e d ≠ .unk) (hx : x.ok (a.tmps.getD d undef)) : Agree ((d, x) :: e) a := by
  refine agree_refine h ?_
  rw [slot_tmp]
  · exact hx
  · rintro rfl
    apply hd
    unfold tget
    rw [Nat.beq_refl]
    rfl

theorem put_getD (a : Act) (d : Nat) (v : Value) (hd : d < a.tmps.size) (hD : a.tmps.size ≤ DK) (i : Nat) : slot (a.put (some d) v) i = if d = i then v else slot a i := by
  have hdk : d ≠ DK := by omega
  by_cases hi : i = DK
  · subst hi
    rw [if_neg hdk]
    rfl
  · rw [slot_tmp _ hi, slot_tmp _ hi]
    simp only [Act.put, Array.getD_eq_getD_getElem?]
    by_cases h : d = i
    · subst h; simp [hd]
    · simp [h, Array.getElem?_setIfInBounds_ne h]

theorem agree_put {e : Env} {a : Act} {dst : Option Nat} {x : Ent} {v : Value} (h : Agree e a) (hx : x.ok v) (hd : ∀ d, dst = some d → d < a.tmps.size) : Agree (putE e dst x) (a.put dst v) := by
  cases dst with
  | none => exact h
  | some d =>
    refine ⟨by simpa [Act.put] using h.1, fun i => ?_⟩
    show (Env.get ((d, x) :: e) i).ok _
    rw [Env.get_cons, put_getD a d v (hd d rfl) h.1]
    split
    · exact hx
    · exact h.2 i

theorem frz_put (a : Act) (dst : Option Nat) (v : Value) (hd : ∀ d, dst = some d → d < a.tmps.size) (hD : a.tmps.size ≤ DK) : Frz dst.toList a (a.put dst v) := by
  cases dst with
  | none => exact Frz.refl _ _
  | some d =>
    refine ⟨by simp [Act.put], fun s hs => ?_⟩
    rw [put_getD a d v (hd d rfl) hD]
    have : d ≠ s := fun e => hs (by simp [e])
    simp [this]

theorem get_killAll (ds : List Nat) (e : Env) (i : Nat) : Env.get (killAll ds e) i = if i ∈ ds then .unk else Env.get e i := by
  induction ds with
  | nil => simp [killAll]
  | cons d ds ih =>
    show Env.get ((d, .unk) :: killAll ds e) i = _
    rw [Env.get_cons, ih]
    by_cases h : d = i
    · simp [h]
    · have : ¬ i = d := fun e => h e.symm
      simp [h, this]

theorem agree_kill {e : Env} {a a' : Act} {ds : List Nat} (h : Agree e a) (hf : Frz ds a a') : Agree (killAll ds e) a' := by
  refine ⟨by rw [hf.1]; exact h.1, fun i => ?_⟩
  rw [get_killAll]
  split
  · trivial
  · rename_i hi; rw [hf.2 i hi]; exact h.2 i

theorem ent_ok {e : Env} {a : Act} (h : Agree e a) (x : Operand) : (entO e x).ok (a.eval x) := by
  cases x with
  | tmp t => exact tget_ok h t
  | const v => cases v <;> simp [entO, Ent.ok, Act.eval]
  | global g => simp [entO, Ent.ok, Act.eval]
  | func f => simp [entO, Ent.ok, Act.eval]

theorem sub_eval {e : Env} {a : Act} (h : Agree e a) (x : Operand) : a.eval (subO e x) = a.eval x := by
  cases x with
  | tmp t =>
    have := tget_ok h t
    simp only [subO]
    split <;> rename_i hx <;> simp only [hx, Ent.ok] at this
    · rfl
    · rfl
    · simp [Act.eval, this]
    · simp [Act.eval, this]
  | _ => rfl

theorem vget_some {e : Env} {a : Act} {s : Nat} {k : Value → Prop} (h : Agree e a) (hv : vget e s k) : k (slot a s) := by
  have := h.2 s
  unfold vget at hv
  split at hv <;> rename_i hx <;> simp only [hx, Ent.ok] at this
  · exact hv.elim
  · exact hv.elim
  · rw [this]; exact hv
  · rw [this]; exact hv
theorem tvget_some {e : Env} {a : Act} {s : Nat} {k : Value → Prop} (h : Agree e a) (hv : tvget e s k) : k (a.tmps.getD s undef) := by
  unfold tvget at hv
  rw [beq_DK] at hv
  by_cases hs : s = DK
  · simp [hs] at hv
  · simp only [hs, decide_false, cond_false] at hv
    have := vget_some h hv
    rwa [slot_tmp a hs] at this

theorem value?_ok {x : Ent} {u v : Value} (h : x.ok u) (hv : x.value? = some v) : u = v := by
  cases x <;> simp [Ent.value?] at hv <;> subst hv <;> exact h

theorem sem_assoc {α β γ : Type} (g : Sem α) (f : α → Sem β) (h : β → Sem γ) : (g.bind f).bind h = g.bind fun x => (f x).bind h := by
  induction g <;> simp only [Sem.bind]
  all_goals (first | (congr 1; funext x; rename_i ih; exact ih x) | (congr 1))

section
variable {P : Program}

/-- One operation, run: what is left to do holds behind it. -/
theorem stepO_sound {o : Oper} {e : Env} {k : Env → World → Prop} {a : Act} {w : World} (h : Agree e a) (hd : ∀ d, o.dst = some d → d < a.tmps.size) (ht : stepO P o e k w) :
    (∀ c, o.op ≠ .defer c) ∧ Upon P w (fun v w' => ∃ e', Agree e' (a.put o.dst v) ∧ k e' w') ((execOp a.eval o).run P w) := by
  have gen : odd o.op = false → OpX P (mapO (subO e) o.op) o.type (fun v w => k (putE e o.dst (.val v)) w) w →
      (∀ c, o.op ≠ .defer c) ∧ Upon P w (fun v w' => ∃ e', Agree e' (a.put o.dst v) ∧ k e' w') ((execOp a.eval o).run P w) := by
    intro hodd hx
    refine ⟨fun c hc => by rw [hc] at hodd; simp [odd] at hodd, ?_⟩
    rw [execOp_map o (sub_eval h) hodd]
    have := OpX.out.1 hx a.eval (Act_good a)
    revert this
    generalize (execOp a.eval (mkOper (mapO (subO e) o.op) o.type)).run P w = r
    have up : ∀ (K K' : Value → World → Prop), (∀ v w, K v w → K' v w) → ∀ r, Upon P w K r → Upon P w K' r := by
      intro K K' hk r
      unfold Upon
      split
      · exact hk _ _
      · exact hk _ _
      · exact fun hc => hc.mono fun e w h => by cases e <;> first | exact hk _ _ h | exact h
      · rintro ⟨h⟩; exact ⟨fun c cs => let ⟨v, w', hK, hs⟩ := h c cs; ⟨v, w', hk _ _ hK, hs⟩⟩
      · exact fun hc => hc.mono fun v w h => hk _ _ h
      · rintro ⟨e, ⟨h⟩⟩; exact ⟨e, ⟨fun fr cs es he => let ⟨v, w', hK, hs⟩ := h fr cs es he; ⟨v, w', hk _ _ hK, hs⟩⟩⟩
      · exact id
    exact up _ _ (fun v w hk => ⟨_, agree_put h (by simp [Ent.ok]) hd, hk⟩) r
  have bin : ∀ (op : BinOp) (t : TypeId) (x y : Operand) (u : TypeId), o.op = .binOp op t x y u →
      BinX P op t (a.eval x) (a.eval y) (fun v w => k (putE e o.dst (.val v)) w) w →
      (∀ c, o.op ≠ .defer c) ∧ Upon P w (fun v w' => ∃ e', Agree e' (a.put o.dst v) ∧ k e' w') ((execOp a.eval o).run P w) := by
    intro op t x y u ho ⟨hx⟩
    refine ⟨fun c hc => by rw [ho] at hc; simp at hc, ?_⟩
    have he : execOp a.eval o = (do eqGuard op t x y (a.eval x) (a.eval y); return Next.value (← binOp op t (a.eval x) (a.eval y))) := by
      unfold execOp; rw [ho]
      simp only [bind, pure, sem_assoc]
    rw [he]
    have := hx x y
    revert this
    generalize Sem.run P _ w = r
    unfold Upon
    have ag : ∀ v, Agree (putE e o.dst (.val v)) (a.put o.dst v) := fun v => agree_put h (by simp [Ent.ok]) hd
    split
    · exact fun hk => ⟨_, ag _, hk⟩
    · exact fun hk => ⟨_, ag _, hk⟩
    · exact fun hc => hc.mono fun e w h => by cases e <;> first | exact ⟨_, ag _, h⟩ | exact h
    · rintro ⟨h⟩; exact ⟨fun c cs => let ⟨v, w', hK, hs⟩ := h c cs; ⟨v, w', ⟨_, ag _, hK⟩, hs⟩⟩
    · exact fun hc => hc.mono fun v w h => ⟨_, ag _, h⟩
    · rintro ⟨e, ⟨h⟩⟩; exact ⟨e, ⟨fun fr cs es he => let ⟨v, w', hK, hs⟩ := h fr cs es he; ⟨v, w', ⟨_, ag _, hK⟩, hs⟩⟩⟩
    · exact id
  unfold stepO at ht
  split at ht
  · rename_i x ho
    refine ⟨fun c hc => by rw [ho] at hc; simp at hc, ?_⟩
    unfold execOp; rw [ho]
    exact ⟨_, agree_put h (ent_ok h x) hd, ht⟩
  · rename_i x ho
    refine ⟨fun c hc => by rw [ho] at hc; simp at hc, ?_⟩
    unfold execOp; rw [ho]
    exact ⟨_, agree_put h (ent_ok h x) hd, ht⟩
  · rename_i c x y ho
    refine ⟨fun c hc => by rw [ho] at hc; simp at hc, ?_⟩
    have hc := ent_ok h c
    have key : ∀ b, a.eval c = .bool b → (b = true → k (putE e o.dst (entO e x)) w) → (b = false → k (putE e o.dst (entO e y)) w) →
        Upon P w (fun v w' => ∃ e', Agree e' (a.put o.dst v) ∧ k e' w') ((execOp a.eval o).run P w) := by
      intro b hb h1 h2
      unfold execOp; rw [ho]
      simp only [hb]
      cases b
      · exact ⟨_, agree_put h (ent_ok h y) hd, h2 rfl⟩
      · exact ⟨_, agree_put h (ent_ok h x) hd, h1 rfl⟩
    split at ht <;> rename_i hce <;> simp only [hce, Ent.ok] at hc
    · rename_i b
      refine key b hc ?_ ?_ <;> (rintro rfl; exact ht)
    · obtain ⟨b, hb, h1, h2⟩ := ht
      exact key b (hc.trans hb) h1 h2
    · exact ht.elim
  · rename_i op t x y u ho
    refine bin op t x y u ho ?_
    split at ht
    · rename_i va vb ha hb
      rw [value?_ok (ent_ok h x) ha, value?_ok (ent_ok h y) hb]
      exact ht
    · exact ht.elim
  · exact ht.elim
  · exact ht.elim
  · exact ht.elim
  · exact ht.elim
  · rename_i n1 n2 n3 n4 n5 n6 n7 n8
    refine gen ?_ ht
    unfold odd
    split
    · rename_i c hc; exact absurd hc (n5 c)
    · rename_i c hc; exact absurd hc (n6 c)
    · rename_i _ _ _ _ _ hc; exact absurd hc (n4 _ _ _ _ _)
    · rename_i _ _ hc; exact absurd hc (n7 _ _)
    · rename_i _ _ hc; exact absurd hc (n8 _ _)
    · rfl

theorem dstOf_eq (l : List Oper) (j : Nat) : dstOf l j = (l[j]?).bind (·.dst) := by
  induction l generalizing j with
  | nil => simp [dstOf]
  | cons o os ih => cases j <;> simp [dstOf, ih]

theorem okOps_dst {N : Nat} : ∀ {l : List Oper}, okOps N l = true → ∀ o ∈ l, ∀ d, o.dst = some d → d < N
  | [], _, o, ho, _, _ => by simp at ho
  | p :: l, h, o, ho, d, hd => by
    simp only [okOps, Bool.and_eq_true] at h
    rcases List.mem_cons.1 ho with rfl | ho
    · have := h.1; rw [hd] at this; simpa [Nat.blt_eq] using this
    · exact okOps_dst h.2 o ho d hd

/-- What a guard asks, known. -/
theorem wanted_of {ops : Array Oper} {o : Oper} {a : Act} {j : Nat} {want b : Bool} {d : Nat} (hg : o.guard = some (j, want)) (hd : dstOf ops.toList j = some d)
    (hv : a.tmps.getD d undef = .bool b) : Region.wanted o (yielded ops a.tmps) = (b == want) := by
  have hd' : (ops[j]?).bind (·.dst) = some d := by rw [dstOf_eq] at hd; simpa using hd
  have ht : a.tmps[d]? = some (.bool b) := by
    rw [Array.getD_eq_getD_getElem?] at hv
    cases h : a.tmps[d]? with
    | none => rw [h] at hv; simp [undef] at hv
    | some x => rw [h] at hv; simpa using hv
  simp only [Region.wanted, hg, yielded, hd', Option.bind_some, ht]
  cases b <;> cases want <;> rfl

theorem wanted_und {ops : Array Oper} {o : Oper} {a : Act} {j : Nat} {want : Bool} {d : Nat} (hg : o.guard = some (j, want)) (hd : dstOf ops.toList j = some d)
    (hv : a.tmps.getD d undef = undef) : Region.wanted o (yielded ops a.tmps) = false := by
  have hd' : (ops[j]?).bind (·.dst) = some d := by rw [dstOf_eq] at hd; simpa using hd
  simp only [Region.wanted, hg, yielded, hd', Option.bind_some]
  rw [Array.getD_eq_getD_getElem?] at hv
  cases h : a.tmps[d]? with
  | none => rfl
  | some x => rw [h] at hv; simp only [Option.getD_some] at hv; subst hv; rfl

/-- One operation of a region, guard and all: the machine steps over it. -/
theorem guardO_sound {ops : Array Oper} {o : Oper} {e : Env} {k : Env → World → Prop} {a : Act} {w : World} {i : Nat} (ho : ops[i]? = some o) (h : Agree e a)
    (hd : ∀ d, o.dst = some d → d < a.tmps.size) (ht : guardO P ops.toList o e k w) (b : Frame) (rest : List Nat) (ks : List Item) (cs : List Frame) :
    ∃ v w', (∃ e', Agree e' (a.put o.dst v) ∧ k e' w') ∧ Steps P (lone (At b a (.inRegion ops (i :: rest) :: ks)) cs w) (lone (At b (a.put o.dst v) (.inRegion ops rest :: ks)) cs w') := by
  have run : ∀ e, Agree e a → Region.wanted o (yielded ops a.tmps) = true → stepO P o e k w →
      ∃ v w', (∃ e', Agree e' (a.put o.dst v) ∧ k e' w') ∧ Steps P (lone (At b a (.inRegion ops (i :: rest) :: ks)) cs w) (lone (At b (a.put o.dst v) (.inRegion ops rest :: ks)) cs w') := by
    intro e he hw hs
    obtain ⟨hdef, hu⟩ := stepO_sound he hd hs
    exact op_steps ho hw hdef hu
  have pass : ∀ e, Agree e a → Region.wanted o (yielded ops a.tmps) = false → k (putE e o.dst .und) w →
      ∃ v w', (∃ e', Agree e' (a.put o.dst v) ∧ k e' w') ∧ Steps P (lone (At b a (.inRegion ops (i :: rest) :: ks)) cs w) (lone (At b (a.put o.dst v) (.inRegion ops rest :: ks)) cs w') := by
    intro e he hw hk
    refine ⟨undef, w, ⟨_, agree_put he (x := .und) rfl hd, hk⟩, .one ?_⟩
    have := st_opSkip (P := P) (b := b) (a := a) (k := ks) (cs := cs) (w := w) (ops := ops) (i := i) (rest := rest) (by simp [ho, hw])
    simpa only [ho, Option.bind_some] using this
  unfold guardO at ht
  split at ht
  · rename_i hg
    exact run e h (by simp [Region.wanted, hg]) ht
  · rename_i j want hg
    split at ht
    · exact ht.elim
    · rename_i d hdj
      have hv := tget_ok h d
      split at ht <;> rename_i hx <;> simp only [hx, Ent.ok] at hv
      · exact ht.elim
      · rename_i b
        have hw := wanted_of hg hdj hv
        cases b <;> cases want <;> simp at ht hw
        · exact run e h hw ht
        · exact pass e h hw ht
        · exact pass e h hw ht
        · exact run e h hw ht
      · exact pass e h (wanted_und hg hdj hv) ht
      · obtain ⟨b, hb, h1, h2⟩ := ht
        have hv' := hv.trans hb
        have hw := wanted_of hg hdj hv'
        cases b <;> cases want <;> simp at h1 h2 hw
        · exact run _ (agree_refineT h (by rw [hx]; simp) (x := .lit false) hv') hw h2
        · exact pass _ (agree_refineT h (by rw [hx]; simp) (x := .lit false) hv') hw h2
        · exact pass _ (agree_refineT h (by rw [hx]; simp) (x := .lit true) hv') hw h1
        · exact run _ (agree_refineT h (by rw [hx]; simp) (x := .lit true) hv') hw h1

theorem trOps_sound {ops : Array Oper} {K : Env → World → Prop} : ∀ (l : List Oper) (i : Nat) (e : Env) (a : Act) (w : World), ops.toList.drop i = l → okOps a.tmps.size l = true → Agree e a →
    trOps P ops.toList l e K w → ∀ (b : Frame) (k : List Item) (cs : List Frame), ∃ a' w', (Frz (dsts l) a a' ∧ ∃ e', Agree e' a' ∧ K e' w') ∧
      Steps P (lone (At b a (.inRegion ops (List.range' i l.length) :: k)) cs w) (lone (At b a' (.inRegion ops [] :: k)) cs w')
  | [], _, e, a, w, _, _, he, h, _, _, _ => ⟨a, w, ⟨Frz.refl _ _, e, he, h⟩, .refl _ _⟩
  | o :: l, i, e, a, w, hl, hN, he, h, b, k, cs => by
    have ho : ops[i]? = some o := by
      have : (ops.toList.drop i)[0]? = some o := by rw [hl]; rfl
      simpa using this
    have hl' : ops.toList.drop (i + 1) = l := by
      have : (ops.toList.drop i).drop 1 = l := by rw [hl]; rfl
      simpa [List.drop_drop] using this
    have hd : ∀ d, o.dst = some d → d < a.tmps.size := okOps_dst hN o (by simp)
    have hN' : okOps a.tmps.size l = true := by simp only [okOps, Bool.and_eq_true] at hN; exact hN.2
    obtain ⟨v, w₁, ⟨e₁, he₁, h₁⟩, hs⟩ := guardO_sound ho he hd h b (List.range' (i + 1) l.length) k cs
    have hf := frz_put a o.dst v hd he.1
    obtain ⟨a', w', ⟨hf', e', he', hK⟩, hs'⟩ := trOps_sound l (i + 1) e₁ (a.put o.dst v) w₁ hl' (by rw [hf.1]; exact hN') he₁ h₁ b k cs
    refine ⟨a', w', ⟨(hf.trans hf').mono ?_, e', he', hK⟩, ?_⟩
    · intro s hs
      unfold dsts
      cases hd : o.dst <;> simp [hd] at hs ⊢ <;> exact hs
    · simp only [List.length_cons, List.range'_succ]
      exact hs.trans hs'

theorem region_sound {ro : Option Nat} {ops : Array Oper} {id : Nat} {K : Env → World → Prop} {e : Env} {a : Act} {w : World} (hN : okOps a.tmps.size ops.toList = true) (he : Agree e a)
    (h : trOps P ops.toList ops.toList e K w) : WP P ro (.region id ops false) (fun ex a' w' => ex = .normal ∧ Frz (dsts ops.toList) a a' ∧ ∃ e', Agree e' a' ∧ K e' w') a w := by
  intro b k cs _
  obtain ⟨a', w', hp, hs⟩ := trOps_sound ops.toList 0 e a w rfl hN he h b k cs
  refine ⟨.normal, a', w', ⟨rfl, hp⟩, .head st_region ?_⟩
  have : List.range ops.size = List.range' 0 ops.toList.length := by simp [List.range_eq_range']
  rw [this]
  exact hs.trans (.one st_regionEnd)
end
end Lyc
