/-
  A region that draws its order: what reads and reckons may be taken first. It names no program.
-/
import Derived.Test.YtdjdeahmhenchaaLycSoundA
set_option linter.unusedSimpArgs false
set_option linter.unusedVariables false
namespace Lyc
open Go

theorem nthO_eq (l : List Oper) (i : Nat) : nthO l i = l[i]? := by
  induction l generalizing i with
  | nil => simp [nthO]
  | cons o os ih => cases i <;> simp [nthO, ih]

inductive TW (ops : Array Oper) : Nat → Nat → Prop
  | one {j i : Nat} {o : Oper} {e : Edge} (ho : ops[j]? = some o) (he : e ∈ o.after) (hb : Region.binds .any e = true) (hi : e.on = i) : TW ops j i
  | more {j i : Nat} {o : Oper} {e : Edge} (ho : ops[j]? = some o) (he : e ∈ o.after) (hb : Region.binds .any e = true) (h : TW ops e.on i) : TW ops j i

def Closed (ops : Array Oper) (m : Nat) : Prop := ∀ (j : Nat) (o : Oper), m.testBit j = true → ops[j]? = some o → ∀ e ∈ o.after, Region.binds .any e = true → m.testBit e.on = true

def Rdy (ops : Array Oper) (m j : Nat) : Prop := m.testBit j = false ∧ ∃ o, ops[j]? = some o ∧ ∀ e ∈ o.after, Region.binds .any e = true → m.testBit e.on = true

theorem bit_or (m i j : Nat) : (m ||| 2 ^ i).testBit j = (m.testBit j || decide (i = j)) := by
  rw [Nat.testBit_or, Nat.testBit_two_pow]

theorem tw_done {ops : Array Oper} {m j i : Nat} (hc : Closed ops m) (h : TW ops j i) (hj : ∀ o, ops[j]? = some o → ∀ e ∈ o.after, Region.binds .any e = true → m.testBit e.on = true) : m.testBit i = true := by
  induction h with
  | one ho he hb hi => subst hi; exact hj _ ho _ he hb
  | more ho he hb _ ih => exact ih fun o' ho' e' he' hb' => hc _ o' (hj _ ho _ he hb) ho' e' he' hb'

theorem closed_or {ops : Array Oper} {m j : Nat} (hc : Closed ops m) (hr : Rdy ops m j) : Closed ops (m ||| 2 ^ j) := by
  intro k o hk ho e he hb
  rw [bit_or] at *
  obtain ⟨_, o', ho', hall⟩ := hr
  by_cases hjk : j = k
  · subst hjk
    rw [ho] at ho'; cases ho'
    simp [hall e he hb]
  · simp [hjk] at hk
    simp [hc k o hk ho e he hb]

theorem rdy_mono {ops : Array Oper} {m i j : Nat} (hj : Rdy ops m j) (hne : j ≠ i) : Rdy ops (m ||| 2 ^ i) j := by
  obtain ⟨h0, o, ho, hall⟩ := hj
  refine ⟨by rw [bit_or, h0]; simp; exact fun h => hne h.symm, o, ho, fun e he hb => by rw [bit_or, hall e he hb]; rfl⟩

theorem or_swap (m i j : Nat) : m ||| 2 ^ i ||| 2 ^ j = m ||| 2 ^ j ||| 2 ^ i := by
  apply Nat.eq_of_testBit_eq; intro k; simp only [Nat.testBit_or]; cases m.testBit k <;> cases (2 ^ i).testBit k <;> cases (2 ^ j).testBit k <;> rfl

section
variable {P : Program}

theorem upon_mono {w0 : World} {K K' : Value → World → Prop} (hk : ∀ v w, K v w → K' v w) (r : Result Next) (h : Upon P w0 K r) : Upon P w0 K' r := by
  revert h
  unfold Upon
  split
  · exact hk _ _
  · exact hk _ _
  · exact fun hc => hc.mono fun e w h => by cases e <;> first | exact hk _ _ h | exact h
  · rintro ⟨h⟩; exact ⟨fun c cs => let ⟨v, w', hK, hs⟩ := h c cs; ⟨v, w', hk _ _ hK, hs⟩⟩
  · exact fun hc => hc.mono fun v w h => hk _ _ h
  · rintro ⟨e, ⟨h⟩⟩; exact ⟨e, ⟨fun fr cs es he => let ⟨v, w', hK, hs⟩ := h fr cs es he; ⟨v, w', hk _ _ hK, hs⟩⟩⟩
  · exact id

def opK (P : Program) (ops : Array Oper) (j : Nat) (K : Act → World → Prop) (a : Act) (w : World) : Prop :=
  ∃ o, ops[j]? = some o ∧ ((Region.wanted o (yielded ops a.tmps) = true ∧ (∀ c, o.op ≠ .defer c) ∧ Upon P w (fun v w' => K (a.put o.dst v) w') ((execOp a.eval o).run P w)) ∨
    (Region.wanted o (yielded ops a.tmps) = false ∧ K (a.put o.dst undef) w))

theorem opK_mono {ops : Array Oper} {j : Nat} {K K' : Act → World → Prop} {a : Act} {w : World} (hk : ∀ a w, K a w → K' a w) (h : opK P ops j K a w) : opK P ops j K' a w := by
  obtain ⟨o, ho, h⟩ := h
  refine ⟨o, ho, ?_⟩
  rcases h with ⟨hw, hd, h⟩ | ⟨hw, h⟩
  · exact .inl ⟨hw, hd, upon_mono (fun v w h => hk _ _ h) _ h⟩
  · exact .inr ⟨hw, hk _ _ h⟩

def anyX (P : Program) (ops : Array Oper) (ms : List Nat) (K : Act → World → Prop) : Nat → Nat → Held → Act → World → Prop
  | 0, m, _, a, w => (∀ j, ¬ Rdy ops m j) ∧ K a w
  | n + 1, m, held, a, w => ((∀ j, ¬ Rdy ops m j) → K a w) ∧
      ∀ j, Rdy ops m j → opK P ops j (fun a' w' => (∀ p ∈ keepH ms j held, p.2 w') ∧ anyX P ops ms K n (m ||| 2 ^ j) (keepH ms j held) a' w') a w

theorem mem_keepH {ms : List Nat} {j : Nat} {held : Held} {p : Nat × (World → Prop)} : p ∈ keepH ms j held ↔ p ∈ held ∧ twB ms j p.1 = false := by
  induction held with
  | nil => simp [keepH]
  | cons q l ih =>
    unfold keepH
    cases h : twB ms j q.1
    · simp only [cond_false, List.mem_cons, ih]
      constructor
      · rintro (rfl | ⟨h1, h2⟩)
        · exact ⟨.inl rfl, h⟩
        · exact ⟨.inr h1, h2⟩
      · rintro ⟨rfl | h1, h2⟩
        · exact .inl rfl
        · exact .inr ⟨h1, h2⟩
    · simp only [cond_true, ih, List.mem_cons]
      constructor
      · rintro ⟨h1, h2⟩; exact ⟨.inr h1, h2⟩
      · rintro ⟨rfl | h1, h2⟩
        · rw [h] at h2; cases h2
        · exact ⟨h1, h2⟩

theorem anyX_mono {ops : Array Oper} {ms : List Nat} {K : Act → World → Prop} : ∀ (n m : Nat) (held held' : Held) (a : Act) (w : World), (∀ p ∈ held', p ∈ held) →
    anyX P ops ms K n m held a w → anyX P ops ms K n m held' a w
  | 0, _, _, _, _, _, _, h => h
  | n + 1, m, held, held', a, w, hs, h => ⟨h.1, fun j hj => opK_mono (fun a' w' ⟨h1, h2⟩ =>
      have hs' : ∀ p ∈ keepH ms j held', p ∈ keepH ms j held := fun p hp => by rw [mem_keepH] at *; exact ⟨hs p hp.1, hp.2⟩
      ⟨fun p hp => h1 p (hs' p hp), anyX_mono n _ _ _ a' w' hs' h2⟩) (h.2 j hj)⟩

theorem anyX_true {ops : Array Oper} {ms : List Nat} {K : Act → World → Prop} {i : Nat} : ∀ (n m : Nat) (held : Held) (a : Act) (w : World),
    anyX P ops ms K n m held a w → anyX P ops ms K n m ((i, fun _ => True) :: held) a w
  | 0, _, _, _, _, h => h
  | n + 1, m, held, a, w, h => ⟨h.1, fun j hj => opK_mono (fun a' w' ⟨h1, h2⟩ => by
      refine ⟨fun p hp => ?_, ?_⟩
      · rw [mem_keepH, List.mem_cons] at hp
        rcases hp with ⟨rfl | hp, ht⟩
        · trivial
        · exact h1 p (mem_keepH.2 ⟨hp, ht⟩)
      · unfold keepH
        cases twB ms j i
        · exact anyX_true n _ _ a' w' h2
        · exact h2) (h.2 j hj)⟩

/-- In every world that meets S the operation yields v. -/
def YS (P : Program) (ops : Array Oper) (S : World → Prop) (o : Oper) (v : Value) (a : Act) : Prop :=
  (Region.wanted o (yielded ops a.tmps) = true ∧ (∀ c, o.op ≠ .defer c) ∧ ∀ w, S w → (execOp a.eval o).run P w = .ok (.value v) w) ∨
  (Region.wanted o (yielded ops a.tmps) = false ∧ v = undef)

theorem YS.op {ops : Array Oper} {S : World → Prop} {o : Oper} {v : Value} {a : Act} {w : World} {i : Nat} {K : Act → World → Prop} (hi : ops[i]? = some o) (h : YS P ops S o v a) (hS : S w)
    (hk : K (a.put o.dst v) w) : opK P ops i K a w := by
  refine ⟨o, hi, ?_⟩
  rcases h with ⟨hw, hd, h⟩ | ⟨hw, rfl⟩
  · exact .inl ⟨hw, hd, by rw [h w hS]; exact hk⟩
  · exact .inr ⟨hw, hk⟩

theorem YS.put {ops : Array Oper} {S : World → Prop} {o : Oper} {v u : Value} {a : Act} {dst : Option Nat} (h : YS P ops S o v a) (hs : ∀ cs b, o.op ≠ .select cs b) (hd : ∀ d, dst = some d → d ∉ o.looksAt ops) :
    YS P ops S o v (a.put dst u) := by
  unfold YS at *
  rw [execOp_put o hs a dst u hd, wanted_put o a dst u hd]
  exact h

theorem opK_put {ops : Array Oper} {S : World → Prop} {i j : Nat} {oi oj : Oper} {v : Value} {K : Act → World → Prop} {a : Act} {w : World} (hj : ops[j]? = some oj) (hap : oi.apart ops oj = true)
    (hsi : ∀ cs b, oi.op ≠ .select cs b) (hsj : ∀ cs b, oj.op ≠ .select cs b) (hy : YS P ops S oi v a) (h : opK P ops j K (a.put oi.dst v) w) :
    opK P ops j (fun a' w' => YS P ops S oi v a' ∧ K (a'.put oi.dst v) w') a w := by
  obtain ⟨h1, h2, h3⟩ := Oper.apart_spec hap
  obtain ⟨o, ho, h⟩ := h
  rw [hj] at ho; cases ho
  rw [wanted_put oj a oi.dst v h1, execOp_put oj hsj a oi.dst v h1] at h
  refine ⟨oj, hj, ?_⟩
  rcases h with ⟨hw, hd, h⟩ | ⟨hw, h⟩
  · exact .inl ⟨hw, hd, upon_mono (fun u w' hk => ⟨hy.put hsi h3, by rw [← Act.put_comm a v u h2]; exact hk⟩) _ h⟩
  · exact .inr ⟨hw, hy.put hsi h3, by rw [← Act.put_comm a v undef h2]; exact h⟩

theorem anyX_first {ops : Array Oper} {ms : List Nat} {K : Act → World → Prop} {S : World → Prop} {i : Nat} {oi : Oper} {v : Value} (hi : ops[i]? = some oi)
    (hms : ∀ j i, twB ms j i = true → TW ops j i)
    (hap : ∀ j oj, ops[j]? = some oj → j ≠ i → waitsOn oj i = false → twB ms i j = false → oi.apart ops oj = true)
    (hsel : ∀ (j : Nat) (o : Oper) cs b, ops[j]? = some o → o.op ≠ .select cs b) :
    ∀ (n m : Nat) (held : Held) (a : Act) (w : World), Closed ops m → Rdy ops m i → YS P ops S oi v a → S w → (∀ p ∈ held, p.2 w) →
      anyX P ops ms K n (m ||| 2 ^ i) ((i, S) :: held) (a.put oi.dst v) w → anyX P ops ms K (n + 1) m held a w := by
  intro n
  induction n with
  | zero =>
    intro m held a w hc hr hy hS hh H
    refine ⟨fun h => absurd hr (h i), fun j hj => ?_⟩
    by_cases hji : j = i
    · subst hji
      exact hy.op hi hS ⟨fun p hp => hh p (mem_keepH.1 hp).1, H⟩
    · exact absurd (rdy_mono hj hji) (H.1 j)
  | succ n ih =>
    intro m held a w hc hr hy hS hh H
    refine ⟨fun h => absurd hr (h i), fun j hj => ?_⟩
    by_cases hji : j = i
    · subst hji
      exact hy.op hi hS ⟨fun p hp => hh p (mem_keepH.1 hp).1, anyX_mono _ _ _ _ _ _ (fun p hp => List.mem_cons_of_mem _ (mem_keepH.1 hp).1) H⟩
    · have h1 := H.2 j (rdy_mono hj hji)
      obtain ⟨hjun, oj, hoj, hall⟩ := hj
      have hnw : waitsOn oj i = false := by
        cases hwt : waitsOn oj i with
        | false => rfl
        | true =>
          unfold waitsOn at hwt
          obtain ⟨e, he, hb⟩ := List.any_eq_true.1 hwt
          simp only [Bool.and_eq_true] at hb
          have := hall e (by simpa using he) hb.1
          rw [Nat.eq_of_beq_eq_true hb.2, hr.1] at this
          cases this
      have hnt : twB ms j i = false := by
        cases ht : twB ms j i with
        | false => rfl
        | true =>
          have := tw_done hc (hms j i ht) (fun o ho => by rw [hoj] at ho; cases ho; exact hall)
          rw [hr.1] at this; cases this
      have hnt' : twB ms i j = false := by
        cases ht : twB ms i j with
        | false => rfl
        | true =>
          obtain ⟨_, o, ho, hal⟩ := hr
          have := tw_done hc (hms i j ht) (fun o' ho' => by rw [ho] at ho'; cases ho'; exact hal)
          rw [hjun] at this; cases this
      have hk : keepH ms j ((i, S) :: held) = (i, S) :: keepH ms j held := by
        conv => lhs; unfold keepH
        simp [hnt]
      rw [hk] at h1
      refine opK_mono ?_ (opK_put (i := i) hoj (hap j oj hoj hji hnw hnt') (fun cs b => hsel i oi cs b hi) (fun cs b => hsel j oj cs b hoj) hy h1)
      rintro a' w' ⟨hy', hhs, hX⟩
      refine ⟨fun p hp => hhs p (List.mem_cons_of_mem _ hp), ?_⟩
      refine ih (m ||| 2 ^ j) (keepH ms j held) a' w' (closed_or hc ⟨hjun, oj, hoj, hall⟩) (rdy_mono hr (Ne.symm hji)) hy' (hhs (i, S) (List.mem_cons_self ..)) (fun p hp => hhs p (List.mem_cons_of_mem _ hp)) ?_
      rw [or_swap]; exact hX

/-- The array of what is listed, and the number that stands for it. -/
def RelM (ops : Array Oper) (listed : Array Bool) (m : Nat) : Prop := listed.size = ops.size ∧ (∀ i, i < ops.size → listed.getD i false = m.testBit i) ∧ ∀ i, ops.size ≤ i → m.testBit i = false

theorem rel_ready {ops : Array Oper} {listed : Array Bool} {m : Nat} (h : RelM ops listed m) (j : Nat) : j ∈ Region.ready .any ops listed ↔ Rdy ops m j := by
  have hb : ∀ i, listed.getD i false = m.testBit i := fun i => by
    rcases Nat.lt_or_ge i ops.size with hi | hi
    · exact h.2.1 i hi
    · rw [h.2.2 i hi, Array.getD_eq_getD_getElem?, Array.getElem?_eq_none (by rw [h.1]; exact hi)]; rfl
  rw [mem_ready]
  constructor
  · rintro ⟨h0, o, ho, hall⟩
    have hj : j < ops.size := (Array.getElem?_eq_some_iff.1 ho).1
    refine ⟨?_, o, ho, fun e he hbd => by rw [← hb]; exact hall e he hbd⟩
    rw [← hb]
    have hj' : j < listed.size := by rw [h.1]; exact hj
    simpa [Array.getD_eq_getD_getElem?, hj'] using h0
  · rintro ⟨h0, o, ho, hall⟩
    have hj : j < ops.size := (Array.getElem?_eq_some_iff.1 ho).1
    refine ⟨?_, o, ho, fun e he hbd => by rw [hb]; exact hall e he hbd⟩
    rw [← hb] at h0
    have hj' : j < listed.size := by rw [h.1]; exact hj
    simpa [Array.getD_eq_getD_getElem?, hj'] using h0

theorem rel_set {ops : Array Oper} {listed : Array Bool} {m j : Nat} (h : RelM ops listed m) (hj : j < ops.size) : RelM ops (listed.setIfInBounds j true) (m ||| 2 ^ j) := by
  refine ⟨by simpa using h.1, fun i hi => ?_, fun i hi => ?_⟩
  · rw [bit_or, ← h.2.1 i hi]
    by_cases hij : j = i
    · subst hij
      simp [Array.getD_eq_getD_getElem?, h.1, hj]
    · simp [Array.getD_eq_getD_getElem?, Array.getElem?_setIfInBounds_ne hij, hij]
  · rw [bit_or, h.2.2 i hi]
    have : j ≠ i := by omega
    simp [this]

theorem opK_steps {ops : Array Oper} {j : Nat} {K : Act → World → Prop} {a : Act} {w : World} (h : opK P ops j K a w) (b : Frame) (rest : List Nat) (k : List Item) (cs : List Frame) :
    ∃ a' w', K a' w' ∧ Steps P (lone (At b a (.inRegion ops (j :: rest) :: k)) cs w) (lone (At b a' (.inRegion ops rest :: k)) cs w') := by
  obtain ⟨o, ho, h⟩ := h
  rcases h with ⟨hw, hd, h⟩ | ⟨hw, h⟩
  · obtain ⟨v, w', hk, hs⟩ := op_steps (b := b) (k := k) (cs := cs) (rest := rest) ho hw hd h
    exact ⟨_, _, hk, hs⟩
  · refine ⟨_, _, h, .one ?_⟩
    have := st_opSkip (P := P) (b := b) (a := a) (k := k) (cs := cs) (w := w) (ops := ops) (i := j) (rest := rest) (by simp [ho, hw])
    simpa only [ho, Option.bind_some] using this

theorem anyX_run {ops : Array Oper} {ms : List Nat} {K : Act → World → Prop} : ∀ (n t : Nat) (listed : Array Bool) (m : Nat) (held : Held) (a : Act) (w : World), RelM ops listed m → anyX P ops ms K n m held a w →
    ∀ (b : Frame) (k : List Item) (cs : List Frame), ∃ a' w', K a' w' ∧
      Steps P (lone (At b a (.inRegion ops (Region.linearise.go .any ops n t listed []) :: k)) cs w) (lone (At b a' (.inRegion ops [] :: k)) cs w') := by
  intro n
  induction n with
  | zero =>
    intro t listed m held a w _ h b k cs
    exact ⟨a, w, h.2, by simp only [Region.linearise.go, List.reverse_nil]; exact .refl _ _⟩
  | succ n ih =>
    intro t listed m held a w hrel h b k cs
    simp only [Region.linearise.go]
    change ∃ a' w', K a' w' ∧ Steps P (lone (At b a (.inRegion ops (match (Region.ready .any ops listed)[t % (Region.ready .any ops listed).length]? with
      | some i => Region.linearise.go .any ops n (t / (Region.ready .any ops listed).length) (listed.setIfInBounds i true) [i]
      | none => [].reverse) :: k)) cs w) _
    cases hi : (Region.ready .any ops listed)[t % (Region.ready .any ops listed).length]? with
    | none =>
      have hnil : Region.ready .any ops listed = [] := by
        cases hr : Region.ready .any ops listed with
        | nil => rfl
        | cons x xs =>
          rw [hr] at hi
          have hlt : t % (x :: xs).length < (x :: xs).length := Nat.mod_lt _ (by simp)
          simp at hi
          simp at hlt
          omega
      refine ⟨a, w, h.1 fun j hj => ?_, by simp only [List.reverse_nil]; exact .refl _ _⟩
      have := (rel_ready hrel j).2 hj
      rw [hnil] at this; cases this
    | some i =>
      have hri := (rel_ready hrel i).1 (List.mem_of_getElem? hi)
      simp only []
      rw [linearise_go_acc, List.reverse_singleton, List.singleton_append]
      obtain ⟨a₁, w₁, ⟨_, hX⟩, hs⟩ := opK_steps (h.2 i hri) b (Region.linearise.go .any ops n (t / (Region.ready .any ops listed).length) (listed.setIfInBounds i true) []) k cs
      obtain ⟨_, o, ho, _⟩ := hri
      obtain ⟨a', w', hk, hs'⟩ := ih (t / (Region.ready .any ops listed).length) (listed.setIfInBounds i true) (m ||| 2 ^ i) _ a₁ w₁ (rel_set hrel (Array.getElem?_eq_some_iff.1 ho).1) hX b k cs
      exact ⟨a', w', hk, hs.trans hs'⟩

theorem masks_tw {ops : Array Oper} : ∀ (l : List Oper) (acc : List Nat), ops.toList = (ops.toList.take acc.length) ++ l → acc.length ≤ ops.toList.length →
    (∀ j i, twB acc j i = true → TW ops j i) → ∀ j i, twB (masks l acc) j i = true → TW ops j i
  | [], acc, _, _, h => h
  | o :: l, acc, hl, hlen, h => by
    have ho : ops[acc.length]? = some o := by
      have h1 : ops.toList[acc.length]? = some o := by
        rw [hl, List.getElem?_append_right (by simp; omega)]
        have : (List.take acc.length ops.toList).length = acc.length := by simp at hlen ⊢; omega
        rw [this]; simp
      simpa using h1
    have hlt : acc.length < ops.toList.length := by have := (Array.getElem?_eq_some_iff.1 ho).1; simpa using this
    unfold masks
    refine masks_tw l _ ?_ (by simp at hlt ⊢; omega) ?_
    · rw [List.length_append, List.length_singleton, List.take_add_one]
      have h1 : ops.toList[acc.length]? = some o := by simpa using ho
      rw [h1]
      simp only [Option.toList_some, List.append_assoc, List.singleton_append]
      exact hl
    · intro j i ht
      unfold twB at ht
      rcases Nat.lt_trichotomy j acc.length with hj | hj | hj
      · refine h j i ?_
        unfold twB
        rw [List.getD_eq_getElem?_getD, List.getElem?_append_left hj, ← List.getD_eq_getElem?_getD] at ht
        exact ht
      · subst hj
        have hval : (acc ++ [maskE acc o.after.toList 0]).getD acc.length 0 = maskE acc o.after.toList 0 := by simp [List.getD_eq_getElem?_getD]
        rw [hval] at ht
        have key : ∀ (es : List Edge) (s : Nat), (∀ e ∈ es, e ∈ o.after) → (s.testBit i = true → TW ops acc.length i) → (maskE acc es s).testBit i = true → TW ops acc.length i := by
          intro es
          induction es with
          | nil => intro s _ hs ht; exact hs ht
          | cons e es ih =>
            intro s hm hs ht
            unfold maskE at ht
            refine ih _ (fun e he => hm e (List.mem_cons_of_mem _ he)) ?_ ht
            intro hb
            cases hbd : Region.binds .any e with
            | false => rw [hbd] at hb; exact hs hb
            | true =>
              rw [hbd, cond_true, Nat.testBit_or, Nat.testBit_or, Nat.testBit_two_pow] at hb
              simp only [Bool.or_eq_true, decide_eq_true_eq] at hb
              rcases hb with (hb | hb) | hb
              · exact hs hb
              · exact .one ho (hm e (by simp)) hbd hb
              · exact .more ho (hm e (by simp)) hbd (h e.on i hb)
        exact key _ 0 (fun e he => by simpa using he) (by simp) ht
      · rw [List.getD_eq_getElem?_getD, List.getElem?_eq_none (by simp; omega)] at ht
        simp at ht
end
end Lyc
