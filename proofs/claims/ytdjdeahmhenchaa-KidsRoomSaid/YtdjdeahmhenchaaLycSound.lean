/-
  'tr' is sound: what it asks is enough for the machine of one goroutine. It names no program.
-/
import Derived.Test.YtdjdeahmhenchaaLycDrawB
set_option linter.unusedSimpArgs false
set_option linter.unusedVariables false
namespace Lyc
open Go
section
variable {P : Program}

/-- Of a join: some relation between the two sides, told of environments. -/
theorem joinL_split {J : List Nat} {base : Env} {M : (Env → World → Prop) → World → Prop} {K : Env → World → Prop} {w : World} (h : joinL J base M K w) :
    ∃ R : Env → World → Prop, M R w ∧ ∀ (e' : Env) (a' : Act) (w' : World), Agree e' a' → R e' w' → Agree base a' → ∃ e'', Agree e'' a' ∧ K e'' w' := by
  unfold joinL at h
  split at h
  · obtain ⟨R, h1, h2⟩ := h
    exact ⟨fun _ w => R w, h1, fun e' a' w' _ hr hb => ⟨_, hb, h2 w' hr⟩⟩
  · rename_i s0
    obtain ⟨R, h1, h2⟩ := h
    refine ⟨_, h1, fun e' a' w' he hr hb => ?_⟩
    have r0 := vget_some he hr
    refine ⟨_, ?_, h2 _ w' r0⟩
    exact (agree_refine hb (x := .val _) rfl)
  · rename_i s0 s1
    obtain ⟨R, h1, h2⟩ := h
    refine ⟨_, h1, fun e' a' w' he hr hb => ?_⟩
    have r0 := vget_some he hr
    have r1 := vget_some he r0
    refine ⟨_, ?_, h2 _ _ w' r1⟩
    exact (agree_refine (agree_refine hb (x := .val _) rfl) (x := .val _) rfl)
  · rename_i s0 s1 s2
    obtain ⟨R, h1, h2⟩ := h
    refine ⟨_, h1, fun e' a' w' he hr hb => ?_⟩
    have r0 := vget_some he hr
    have r1 := vget_some he r0
    have r2 := vget_some he r1
    refine ⟨_, ?_, h2 _ _ _ w' r2⟩
    exact (agree_refine (agree_refine (agree_refine hb (x := .val _) rfl) (x := .val _) rfl) (x := .val _) rfl)
  · rename_i s0 s1 s2 s3
    obtain ⟨R, h1, h2⟩ := h
    refine ⟨_, h1, fun e' a' w' he hr hb => ?_⟩
    have r0 := vget_some he hr
    have r1 := vget_some he r0
    have r2 := vget_some he r1
    have r3 := vget_some he r2
    refine ⟨_, ?_, h2 _ _ _ _ w' r3⟩
    exact (agree_refine (agree_refine (agree_refine (agree_refine hb (x := .val _) rfl) (x := .val _) rfl) (x := .val _) rfl) (x := .val _) rfl)
  · rename_i s0 s1 s2 s3 s4
    obtain ⟨R, h1, h2⟩ := h
    refine ⟨_, h1, fun e' a' w' he hr hb => ?_⟩
    have r0 := vget_some he hr
    have r1 := vget_some he r0
    have r2 := vget_some he r1
    have r3 := vget_some he r2
    have r4 := vget_some he r3
    refine ⟨_, ?_, h2 _ _ _ _ _ w' r4⟩
    exact (agree_refine (agree_refine (agree_refine (agree_refine (agree_refine hb (x := .val _) rfl) (x := .val _) rfl) (x := .val _) rfl) (x := .val _) rfl) (x := .val _) rfl)
  · rename_i s0 s1 s2 s3 s4 s5
    obtain ⟨R, h1, h2⟩ := h
    refine ⟨_, h1, fun e' a' w' he hr hb => ?_⟩
    have r0 := vget_some he hr
    have r1 := vget_some he r0
    have r2 := vget_some he r1
    have r3 := vget_some he r2
    have r4 := vget_some he r3
    have r5 := vget_some he r4
    refine ⟨_, ?_, h2 _ _ _ _ _ _ w' r5⟩
    exact (agree_refine (agree_refine (agree_refine (agree_refine (agree_refine (agree_refine hb (x := .val _) rfl) (x := .val _) rfl) (x := .val _) rfl) (x := .val _) rfl) (x := .val _) rfl) (x := .val _) rfl)
  · rename_i s0 s1 s2 s3 s4 s5 s6
    obtain ⟨R, h1, h2⟩ := h
    refine ⟨_, h1, fun e' a' w' he hr hb => ?_⟩
    have r0 := vget_some he hr
    have r1 := vget_some he r0
    have r2 := vget_some he r1
    have r3 := vget_some he r2
    have r4 := vget_some he r3
    have r5 := vget_some he r4
    have r6 := vget_some he r5
    refine ⟨_, ?_, h2 _ _ _ _ _ _ _ w' r6⟩
    exact (agree_refine (agree_refine (agree_refine (agree_refine (agree_refine (agree_refine (agree_refine hb (x := .val _) rfl) (x := .val _) rfl) (x := .val _) rfl) (x := .val _) rfl) (x := .val _) rfl) (x := .val _) rfl) (x := .val _) rfl)
  · rename_i s0 s1 s2 s3 s4 s5 s6 s7
    obtain ⟨R, h1, h2⟩ := h
    refine ⟨_, h1, fun e' a' w' he hr hb => ?_⟩
    have r0 := vget_some he hr
    have r1 := vget_some he r0
    have r2 := vget_some he r1
    have r3 := vget_some he r2
    have r4 := vget_some he r3
    have r5 := vget_some he r4
    have r6 := vget_some he r5
    have r7 := vget_some he r6
    refine ⟨_, ?_, h2 _ _ _ _ _ _ _ _ w' r7⟩
    exact (agree_refine (agree_refine (agree_refine (agree_refine (agree_refine (agree_refine (agree_refine (agree_refine hb (x := .val _) rfl) (x := .val _) rfl) (x := .val _) rfl) (x := .val _) rfl) (x := .val _) rfl) (x := .val _) rfl) (x := .val _) rfl) (x := .val _) rfl)
  · exact h.elim

/-- Of a loop: an invariant, told of frames. -/
theorem loopL_split {L : List Nat} {e base : Env} {body : Env → (Env → World → Prop) → World → Prop} {a : Act} {w : World} (he : Agree e a) (h : loopL L e base body w) :
    ∃ (I : Act → World → Prop) (μ : Act → World → Nat), I a w ∧ ∀ (a1 : Act) (w1 : World), I a1 w1 → Agree base a1 →
      ∃ (e1 : Env) (nx : Env → World → Prop), Agree e1 a1 ∧ body e1 nx w1 ∧ ∀ e2 a2 w2, Agree e2 a2 → nx e2 w2 → I a2 w2 ∧ μ a2 w2 < μ a1 w1 := by
  unfold loopL at h
  split at h
  · obtain ⟨I, μ, h0, h1⟩ := h
    exact ⟨fun _ w => I w, fun _ w => μ w, h0, fun a1 w1 hi hb => ⟨_, _, hb, h1 w1 hi, fun _ _ _ _ h => h⟩⟩
  · rename_i s0
    have r0 := vget_some he h
    obtain ⟨I, μ, h0, h1⟩ := r0
    refine ⟨fun a w => I (slot a s0) w, fun a w => μ (slot a s0) w, h0, fun a1 w1 hi hb => ⟨_, _, ?_, h1 _ w1 hi, fun e2 a2 w2 he2 hn => ?_⟩⟩
    · exact (agree_refine hb (x := .val _) rfl)
    · have q0 := vget_some he2 hn
      exact q0
  · rename_i s0 s1
    have r0 := vget_some he h
    have r1 := vget_some he r0
    obtain ⟨I, μ, h0, h1⟩ := r1
    refine ⟨fun a w => I (slot a s0) (slot a s1) w, fun a w => μ (slot a s0) (slot a s1) w, h0, fun a1 w1 hi hb => ⟨_, _, ?_, h1 _ _ w1 hi, fun e2 a2 w2 he2 hn => ?_⟩⟩
    · exact (agree_refine (agree_refine hb (x := .val _) rfl) (x := .val _) rfl)
    · have q0 := vget_some he2 hn
      have q1 := vget_some he2 q0
      exact q1
  · rename_i s0 s1 s2
    have r0 := vget_some he h
    have r1 := vget_some he r0
    have r2 := vget_some he r1
    obtain ⟨I, μ, h0, h1⟩ := r2
    refine ⟨fun a w => I (slot a s0) (slot a s1) (slot a s2) w, fun a w => μ (slot a s0) (slot a s1) (slot a s2) w, h0, fun a1 w1 hi hb => ⟨_, _, ?_, h1 _ _ _ w1 hi, fun e2 a2 w2 he2 hn => ?_⟩⟩
    · exact (agree_refine (agree_refine (agree_refine hb (x := .val _) rfl) (x := .val _) rfl) (x := .val _) rfl)
    · have q0 := vget_some he2 hn
      have q1 := vget_some he2 q0
      have q2 := vget_some he2 q1
      exact q2
  · rename_i s0 s1 s2 s3
    have r0 := vget_some he h
    have r1 := vget_some he r0
    have r2 := vget_some he r1
    have r3 := vget_some he r2
    obtain ⟨I, μ, h0, h1⟩ := r3
    refine ⟨fun a w => I (slot a s0) (slot a s1) (slot a s2) (slot a s3) w, fun a w => μ (slot a s0) (slot a s1) (slot a s2) (slot a s3) w, h0, fun a1 w1 hi hb => ⟨_, _, ?_, h1 _ _ _ _ w1 hi, fun e2 a2 w2 he2 hn => ?_⟩⟩
    · exact (agree_refine (agree_refine (agree_refine (agree_refine hb (x := .val _) rfl) (x := .val _) rfl) (x := .val _) rfl) (x := .val _) rfl)
    · have q0 := vget_some he2 hn
      have q1 := vget_some he2 q0
      have q2 := vget_some he2 q1
      have q3 := vget_some he2 q2
      exact q3
  · rename_i s0 s1 s2 s3 s4
    have r0 := vget_some he h
    have r1 := vget_some he r0
    have r2 := vget_some he r1
    have r3 := vget_some he r2
    have r4 := vget_some he r3
    obtain ⟨I, μ, h0, h1⟩ := r4
    refine ⟨fun a w => I (slot a s0) (slot a s1) (slot a s2) (slot a s3) (slot a s4) w, fun a w => μ (slot a s0) (slot a s1) (slot a s2) (slot a s3) (slot a s4) w, h0, fun a1 w1 hi hb => ⟨_, _, ?_, h1 _ _ _ _ _ w1 hi, fun e2 a2 w2 he2 hn => ?_⟩⟩
    · exact (agree_refine (agree_refine (agree_refine (agree_refine (agree_refine hb (x := .val _) rfl) (x := .val _) rfl) (x := .val _) rfl) (x := .val _) rfl) (x := .val _) rfl)
    · have q0 := vget_some he2 hn
      have q1 := vget_some he2 q0
      have q2 := vget_some he2 q1
      have q3 := vget_some he2 q2
      have q4 := vget_some he2 q3
      exact q4
  · rename_i s0 s1 s2 s3 s4 s5
    have r0 := vget_some he h
    have r1 := vget_some he r0
    have r2 := vget_some he r1
    have r3 := vget_some he r2
    have r4 := vget_some he r3
    have r5 := vget_some he r4
    obtain ⟨I, μ, h0, h1⟩ := r5
    refine ⟨fun a w => I (slot a s0) (slot a s1) (slot a s2) (slot a s3) (slot a s4) (slot a s5) w, fun a w => μ (slot a s0) (slot a s1) (slot a s2) (slot a s3) (slot a s4) (slot a s5) w, h0, fun a1 w1 hi hb => ⟨_, _, ?_, h1 _ _ _ _ _ _ w1 hi, fun e2 a2 w2 he2 hn => ?_⟩⟩
    · exact (agree_refine (agree_refine (agree_refine (agree_refine (agree_refine (agree_refine hb (x := .val _) rfl) (x := .val _) rfl) (x := .val _) rfl) (x := .val _) rfl) (x := .val _) rfl) (x := .val _) rfl)
    · have q0 := vget_some he2 hn
      have q1 := vget_some he2 q0
      have q2 := vget_some he2 q1
      have q3 := vget_some he2 q2
      have q4 := vget_some he2 q3
      have q5 := vget_some he2 q4
      exact q5
  · rename_i s0 s1 s2 s3 s4 s5 s6
    have r0 := vget_some he h
    have r1 := vget_some he r0
    have r2 := vget_some he r1
    have r3 := vget_some he r2
    have r4 := vget_some he r3
    have r5 := vget_some he r4
    have r6 := vget_some he r5
    obtain ⟨I, μ, h0, h1⟩ := r6
    refine ⟨fun a w => I (slot a s0) (slot a s1) (slot a s2) (slot a s3) (slot a s4) (slot a s5) (slot a s6) w, fun a w => μ (slot a s0) (slot a s1) (slot a s2) (slot a s3) (slot a s4) (slot a s5) (slot a s6) w, h0, fun a1 w1 hi hb => ⟨_, _, ?_, h1 _ _ _ _ _ _ _ w1 hi, fun e2 a2 w2 he2 hn => ?_⟩⟩
    · exact (agree_refine (agree_refine (agree_refine (agree_refine (agree_refine (agree_refine (agree_refine hb (x := .val _) rfl) (x := .val _) rfl) (x := .val _) rfl) (x := .val _) rfl) (x := .val _) rfl) (x := .val _) rfl) (x := .val _) rfl)
    · have q0 := vget_some he2 hn
      have q1 := vget_some he2 q0
      have q2 := vget_some he2 q1
      have q3 := vget_some he2 q2
      have q4 := vget_some he2 q3
      have q5 := vget_some he2 q4
      have q6 := vget_some he2 q5
      exact q6
  · rename_i s0 s1 s2 s3 s4 s5 s6 s7
    have r0 := vget_some he h
    have r1 := vget_some he r0
    have r2 := vget_some he r1
    have r3 := vget_some he r2
    have r4 := vget_some he r3
    have r5 := vget_some he r4
    have r6 := vget_some he r5
    have r7 := vget_some he r6
    obtain ⟨I, μ, h0, h1⟩ := r7
    refine ⟨fun a w => I (slot a s0) (slot a s1) (slot a s2) (slot a s3) (slot a s4) (slot a s5) (slot a s6) (slot a s7) w, fun a w => μ (slot a s0) (slot a s1) (slot a s2) (slot a s3) (slot a s4) (slot a s5) (slot a s6) (slot a s7) w, h0, fun a1 w1 hi hb => ⟨_, _, ?_, h1 _ _ _ _ _ _ _ _ w1 hi, fun e2 a2 w2 he2 hn => ?_⟩⟩
    · exact (agree_refine (agree_refine (agree_refine (agree_refine (agree_refine (agree_refine (agree_refine (agree_refine hb (x := .val _) rfl) (x := .val _) rfl) (x := .val _) rfl) (x := .val _) rfl) (x := .val _) rfl) (x := .val _) rfl) (x := .val _) rfl) (x := .val _) rfl)
    · have q0 := vget_some he2 hn
      have q1 := vget_some he2 q0
      have q2 := vget_some he2 q1
      have q3 := vget_some he2 q2
      have q4 := vget_some he2 q3
      have q5 := vget_some he2 q4
      have q6 := vget_some he2 q5
      have q7 := vget_some he2 q6
      exact q7
  · rename_i s0 s1 s2 s3 s4 s5 s6 s7 s8
    have r0 := vget_some he h
    have r1 := vget_some he r0
    have r2 := vget_some he r1
    have r3 := vget_some he r2
    have r4 := vget_some he r3
    have r5 := vget_some he r4
    have r6 := vget_some he r5
    have r7 := vget_some he r6
    have r8 := vget_some he r7
    obtain ⟨I, μ, h0, h1⟩ := r8
    refine ⟨fun a w => I (slot a s0) (slot a s1) (slot a s2) (slot a s3) (slot a s4) (slot a s5) (slot a s6) (slot a s7) (slot a s8) w, fun a w => μ (slot a s0) (slot a s1) (slot a s2) (slot a s3) (slot a s4) (slot a s5) (slot a s6) (slot a s7) (slot a s8) w, h0, fun a1 w1 hi hb => ⟨_, _, ?_, h1 _ _ _ _ _ _ _ _ _ w1 hi, fun e2 a2 w2 he2 hn => ?_⟩⟩
    · exact (agree_refine (agree_refine (agree_refine (agree_refine (agree_refine (agree_refine (agree_refine (agree_refine (agree_refine hb (x := .val _) rfl) (x := .val _) rfl) (x := .val _) rfl) (x := .val _) rfl) (x := .val _) rfl) (x := .val _) rfl) (x := .val _) rfl) (x := .val _) rfl) (x := .val _) rfl)
    · have q0 := vget_some he2 hn
      have q1 := vget_some he2 q0
      have q2 := vget_some he2 q1
      have q3 := vget_some he2 q2
      have q4 := vget_some he2 q3
      have q5 := vget_some he2 q4
      have q6 := vget_some he2 q5
      have q7 := vget_some he2 q6
      have q8 := vget_some he2 q7
      exact q8
  · rename_i s0 s1 s2 s3 s4 s5 s6 s7 s8 s9
    have r0 := vget_some he h
    have r1 := vget_some he r0
    have r2 := vget_some he r1
    have r3 := vget_some he r2
    have r4 := vget_some he r3
    have r5 := vget_some he r4
    have r6 := vget_some he r5
    have r7 := vget_some he r6
    have r8 := vget_some he r7
    have r9 := vget_some he r8
    obtain ⟨I, μ, h0, h1⟩ := r9
    refine ⟨fun a w => I (slot a s0) (slot a s1) (slot a s2) (slot a s3) (slot a s4) (slot a s5) (slot a s6) (slot a s7) (slot a s8) (slot a s9) w, fun a w => μ (slot a s0) (slot a s1) (slot a s2) (slot a s3) (slot a s4) (slot a s5) (slot a s6) (slot a s7) (slot a s8) (slot a s9) w, h0, fun a1 w1 hi hb => ⟨_, _, ?_, h1 _ _ _ _ _ _ _ _ _ _ w1 hi, fun e2 a2 w2 he2 hn => ?_⟩⟩
    · exact (agree_refine (agree_refine (agree_refine (agree_refine (agree_refine (agree_refine (agree_refine (agree_refine (agree_refine (agree_refine hb (x := .val _) rfl) (x := .val _) rfl) (x := .val _) rfl) (x := .val _) rfl) (x := .val _) rfl) (x := .val _) rfl) (x := .val _) rfl) (x := .val _) rfl) (x := .val _) rfl) (x := .val _) rfl)
    · have q0 := vget_some he2 hn
      have q1 := vget_some he2 q0
      have q2 := vget_some he2 q1
      have q3 := vget_some he2 q2
      have q4 := vget_some he2 q3
      have q5 := vget_some he2 q4
      have q6 := vget_some he2 q5
      have q7 := vget_some he2 q6
      have q8 := vget_some he2 q7
      have q9 := vget_some he2 q8
      exact q9
  · exact h.elim

theorem okAll {N : Nat} {ds : List Nat} {a a' : Act} (h : a.tmps.size = N) (hf : Frz ds a a') : a'.tmps.size = N := by rw [hf.1, h]

theorem dval_cons (r : Nat) (ds : List Deferred) : dval ({ target := .collected r, args := #[] } :: ds) = dcons r (dval ds) := by
  unfold dval
  simp only [drefs, dref]
  cases drefs ds with
  | none => rfl
  | some rs => simp [dcons]
/-- The object of a loop, as it stands. -/
def lpOf (L : Loop) : LSt → Obj
  | .ready => .loop L
  | .busy => .loop { L with state := .busy }
  | .gone .ret => .loop { L with state := .done, pending := some .ret }
  | .gone (.exit id) => .loop { L with state := .done, pending := some (.exit id) }
  | .gone .normal => .loop { L with state := .done }
  | .over .ret => .loop { L with state := .exhausted, pending := some .ret }
  | .over (.exit id) => .loop { L with state := .exhausted, pending := some (.exit id) }
  | .over .normal => .loop { L with state := .exhausted }
theorem size_bind (l : List (Nat × Value)) (tmps : Array Value) : (l.foldl (fun tmps p => tmps.setIfInBounds p.1 p.2) tmps).size = tmps.size := by
  induction l generalizing tmps with
  | nil => rfl
  | cons p l ih => rw [List.foldl_cons, ih]; simp
theorem agree_bind : ∀ (ps : List Nat) (i : Nat) (vs us : List Value) (e : Env) (a : Act), Agree e a → (∀ p ∈ ps, p < a.tmps.size) → ps.length = us.length → us = vs.drop i →
    Agree (bindR ps i vs e) { tmps := (ps.zip us).foldl (fun tmps p => tmps.setIfInBounds p.1 p.2) a.tmps, defers := a.defers }
  | [], i, vs, us, e, a, h, _, _, _ => by simpa [bindR] using h
  | p :: ps, i, vs, [], e, a, h, _, hl, _ => by simp at hl
  | p :: ps, i, vs, u :: us, e, a, h, hp, hl, hu => by
    have hn : nthV vs i = u := by
      clear h hp hl
      induction vs generalizing i with
      | nil => simp at hu
      | cons v vs ih =>
        cases i with
        | zero => simp at hu; exact hu.1.symm
        | succ i => exact ih i (by simpa using hu)
    have hu' : us = vs.drop (i + 1) := by
      have := congrArg (List.drop 1) hu
      simpa [List.drop_drop] using this
    have h1 := agree_put (dst := some p) (x := .val u) (v := u) h rfl (fun d hd => by cases hd; exact hp p (by simp))
    have := agree_bind ps (i + 1) vs us ((p, .val u) :: e) (a.put (some p) u) h1 (fun q hq => by simpa [Act.put] using hp q (by simp [hq])) (by simpa using hl) hu'
    show Agree (bindR ps (i + 1) vs ((p, .val (nthV vs i)) :: e)) _
    rw [hn]
    exact this

/-- The post of a piece of code: its way out, told of environments; nothing else was written. -/
def Post (ds : List Nat) (Q : Ex → Env → World → Prop) (a : Act) (ex : Ex) (a' : Act) (w' : World) : Prop := Frz ds a a' ∧ ∃ e', Agree e' a' ∧ Q ex e' w'

theorem tr_sound (hm : P.follows .mixedOrders = true) {hs : Hints} {N : Nat} : ∀ (c : Code) (top : Bool) (ro : Option Nat), (top = true → ro = none) → ∀ (n : Nat) (Q : Ex → Env → World → Prop) (e : Env) (a : Act) (w : World), wfc N c = true → a.tmps.size = N → Agree e a →
    tr P top hs c n Q e w → WP P ro c (Post (writes c) Q a) a w := by
  intro c
  induction c with
  | skip => exact fun top ro hro n Q e a w _ _ he h => .skip ⟨Frz.refl _ _, e, he, h⟩
  | exit id => exact fun top ro hro n Q e a w _ _ he h => .exit ⟨Frz.refl _ _, e, he, h⟩
  | ret => exact fun top ro hro n Q e a w _ _ he h => .ret ⟨Frz.refl _ _, e, he, h⟩
  | region id ops draw =>
    intro top ro hro n Q e a w hw hN he h
    subst hN
    cases draw with
    | true =>
      unfold tr at h
      split at h
      · exact h.elim
      · rename_i hap
        split at h
        · exact (regionD_sound hm hw he hap h).mono fun ex a' w' ⟨hx, hf, e', he', hk⟩ => by subst hx; exact ⟨hf, e', he', hk⟩
        · obtain ⟨R, hM, hK⟩ := joinL_split h
          refine (regionD_sound hm hw he hap hM).mono fun ex a' w' ⟨hx, hf, e', he', hk⟩ => ?_
          subst hx
          exact ⟨hf, hK e' a' w' he' hk (agree_kill he hf)⟩
    | false =>
      unfold tr at h
      split at h
      · exact (region_sound hw he h).mono fun ex a' w' ⟨hx, hf, e', he', hk⟩ => by subst hx; exact ⟨hf, e', he', hk⟩
      · obtain ⟨R, hM, hK⟩ := joinL_split h
        refine (region_sound hw he hM).mono fun ex a' w' ⟨hx, hf, e', he', hk⟩ => ?_
        subst hx
        exact ⟨hf, hK e' a' w' he' hk (agree_kill he hf)⟩
  | seq x y ihx ihy =>
    intro top ro hro n Q e a w hw hN he h
    simp only [wfc, Bool.and_eq_true] at hw
    unfold tr at h
    split at h
    · refine .seq ((ihx top ro hro _ _ e a w hw.1 hN he h).mono ?_)
      rintro ex a' w' ⟨hf, e', he', hq⟩
      cases ex with
      | normal =>
        refine (ihy top ro hro _ _ e' a' w' hw.2 (okAll hN hf) he' hq).mono ?_
        rintro ex a₂ w₂ ⟨hf₂, e₂, he₂, hq₂⟩
        exact ⟨hf.trans hf₂, e₂, he₂, hq₂⟩
      | exit id => exact ⟨hf.mono fun s hs => List.mem_append.2 (.inl hs), e', he', hq⟩
      | ret => exact ⟨hf.mono fun s hs => List.mem_append.2 (.inl hs), e', he', hq⟩
    · obtain ⟨R, hM, hK⟩ := joinL_split h
      refine .seq ((ihx top ro hro _ _ e a w hw.1 hN he hM).mono ?_)
      rintro ex a' w' ⟨hf, e', he', hq⟩
      cases ex with
      | normal =>
        obtain ⟨e'', he'', hk⟩ := hK e' a' w' he' hq (agree_kill he hf)
        refine (ihy top ro hro _ _ e'' a' w' hw.2 (okAll hN hf) he'' hk).mono ?_
        rintro ex a₂ w₂ ⟨hf₂, e₂, he₂, hq₂⟩
        exact ⟨hf.trans hf₂, e₂, he₂, hq₂⟩
      | exit id => exact ⟨hf.mono fun s hs => List.mem_append.2 (.inl hs), e', he', hq⟩
      | ret => exact ⟨hf.mono fun s hs => List.mem_append.2 (.inl hs), e', he', hq⟩
  | cond c x y ihx ihy =>
    intro top ro hro n Q e a w hw hN he h
    simp only [wfc, Bool.and_eq_true] at hw
    have hc := ent_ok he c
    have go : ∀ (b : Bool), a.eval c = .bool b → ∀ e, Agree e a → (b = true → tr P top hs x (n + 1) Q e w) → (b = false → tr P top hs y (n + 1 + csize x) Q e w) → WP P ro (.cond c x y) (Post (writes (.cond c x y)) Q a) a w := by
      intro b hb e he h1 h2
      refine .cond hb ?_
      cases b
      · exact (ihy top ro hro _ _ e a w hw.2 hN he (h2 rfl)).mono fun ex a' w' ⟨hf, r⟩ => ⟨hf.mono fun s hs => List.mem_append.2 (.inr hs), r⟩
      · exact (ihx top ro hro _ _ e a w hw.1 hN he (h1 rfl)).mono fun ex a' w' ⟨hf, r⟩ => ⟨hf.mono fun s hs => List.mem_append.2 (.inl hs), r⟩
    have ref : ∀ b, entO e c ≠ .unk → a.eval c = .bool b → Agree (refine1 e c b) a := by
      intro b hne hb
      cases c with
      | tmp t => exact agree_refineT he hne (x := .lit b) hb
      | _ => exact he
    unfold tr at h
    split at h <;> rename_i hx <;> simp only [hx, Ent.ok] at hc
    · exact h.elim
    · exact h.elim
    · rename_i b
      refine go b hc e he ?_ ?_ <;> (rintro rfl; exact h)
    · obtain ⟨b, hb, h1, h2⟩ := h
      have hv := hc.trans hb
      cases b
      · exact go _ hv _ (ref _ (by rw [hx]; simp) hv) (fun h => by cases h) h2
      · exact go _ hv _ (ref _ (by rw [hx]; simp) hv) h1 (fun h => by cases h)
  | block id c ih =>
    intro top ro hro n Q e a w hw hN he h
    unfold tr at h
    refine .block ?_
    split at h
    · refine (ih top ro hro _ _ e a w hw hN he h).mono ?_
      rintro ex a' w' ⟨hf, e', he', hq⟩
      cases ex with
      | normal => exact ⟨hf, e', he', hq⟩
      | ret => exact ⟨hf, e', he', hq⟩
      | exit id' =>
        by_cases hid : id' = id
        · subst hid
          simp only [inBlkE, Nat.beq_refl, cond_true] at hq
          simp only [Ex.inBlk, if_true]
          exact ⟨hf, e', he', hq⟩
        · have hb : Nat.beq id' id = false := by
            cases hb : Nat.beq id' id with
            | true => exact absurd (Nat.eq_of_beq_eq_true hb) hid
            | false => rfl
          simp only [inBlkE, hb, cond_false] at hq
          simp only [Ex.inBlk, hid, if_false]
          exact ⟨hf, e', he', hq⟩
    · obtain ⟨R, hM, hK⟩ := joinL_split h
      refine (ih top ro hro _ _ e a w hw hN he hM).mono ?_
      rintro ex a' w' ⟨hf, e', he', hq⟩
      cases ex with
      | normal => exact ⟨hf, hK e' a' w' he' hq (agree_kill he hf)⟩
      | ret => exact ⟨hf, e', he', hq⟩
      | exit id' =>
        by_cases hid : id' = id
        · subst hid
          simp only [inBlkE, Nat.beq_refl, cond_true] at hq
          simp only [Ex.inBlk, if_true]
          exact ⟨hf, hK e' a' w' he' hq (agree_kill he hf)⟩
        · have hb : Nat.beq id' id = false := by
            cases hb : Nat.beq id' id with
            | true => exact absurd (Nat.eq_of_beq_eq_true hb) hid
            | false => rfl
          simp only [inBlkE, hb, cond_false] at hq
          simp only [Ex.inBlk, hid, if_false]
          exact ⟨hf, e', he', hq⟩
  | loop c ih =>
    intro top ro hro n Q e a w hw hN he h
    unfold tr at h
    split at h
    · exact h.elim
    · obtain ⟨I, μ, h0, hr⟩ := loopL_split he h
      refine .loop (fun a1 w1 => I a1 w1 ∧ Frz (writes c) a a1) μ ⟨h0, Frz.refl _ _⟩ ?_
      rintro a1 w1 ⟨hI, hf1⟩
      obtain ⟨e1, nx, he1, hb, hnx⟩ := hr a1 w1 hI (agree_kill he hf1)
      refine (ih top ro hro _ _ e1 a1 w1 hw (okAll hN hf1) he1 hb).mono ?_
      rintro ex a2 w2 ⟨hf2, e2, he2, hq⟩
      have hf : Frz (writes c) a a2 := (hf1.trans hf2).mono fun s hs => by simpa using hs
      cases ex with
      | normal =>
        obtain ⟨hI2, hlt⟩ := hnx e2 a2 w2 he2 hq
        exact ⟨⟨hI2, hf⟩, hlt⟩
      | exit id => exact ⟨hf, e2, he2, hq⟩
      | ret => exact ⟨hf, e2, he2, hq⟩
  | rangeFunc f params x y ihx ihy =>
    intro top ro hro n Q e a w hw hN he h
    simp only [wfc, Bool.and_eq_true] at hw
    obtain ⟨⟨hwp, hwx⟩, hwy⟩ := hw
    unfold tr at h
    split at h
    · rename_i fv dv hfv hdv
      have hro' : ro = none := hro rfl
      have hev := ent_ok he f
      rw [hfv] at hev
      have hev : a.eval f = fv := hev
      obtain ⟨h⟩ := h
      intro b k cs hb
      have h := h (lpOf { state := .ready, pending := none, fn := b.fn, tmps := a.tmps, params, assign := x, body := y, defers := w.heap.size }) (.func (.yield (w.heap.size + 1)) #[] #[]) ?_
      · obtain ⟨g, us, cs', hgf, hgb, hcalls⟩ := h
        have hst := st_rangeFunc (P := P) (b := b) (a := a) (k := k) (cs := cs) (w := w) (f := f) (params := params) (assign := x) (body := y) (hb.trans hro') (hev.trans hgf) hgb
        have hargs : us.toArray ++ #[Value.func (.yield (w.heap.size + 1)) #[] #[]] ++ cs'.toArray = (us ++ [Value.func (.yield (w.heap.size + 1)) #[] #[]] ++ cs').toArray := by simp
        rw [hargs] at hst
        obtain ⟨en, w3, fr, hR, hs, _, hl⟩ := hcalls (At b { a with defers := { target := .collected w.heap.size, args := #[] } :: a.defers } (.inRangeFunc (w.heap.size + 1) :: k) :: cs)
        cases en with
        | returned v =>
          have hfin : (At b { a with defers := { target := .collected w.heap.size, args := #[] } :: a.defers } (.inRangeFunc (w.heap.size + 1) :: k)).finish v = At b { a with defers := { target := .collected w.heap.size, args := #[] } :: a.defers } (.endRangeFunc (w.heap.size + 1) :: k) := by simp [Frame.finish, At]
          have hgo := Steps.trans (.head hst hs) (.one (hfin ▸ step_leave_returned hl))
          have hfz : Frz [DK] a { a with defers := { target := .collected w.heap.size, args := #[] } :: a.defers } := ⟨rfl, fun s hs => by
            have : s ≠ DK := by simpa using hs
            rw [slot_tmp _ this, slot_tmp _ this]⟩
          have hag : Agree ((DK, .val (dcons w.heap.size dv)) :: e) { a with defers := { target := .collected w.heap.size, args := #[] } :: a.defers } := by
            refine ⟨he.1, fun i => ?_⟩
            rw [Env.get_cons]
            split
            · rename_i hi
              subst hi
              have h1 := he.2 DK
              rw [hdv] at h1
              have h1 : slot a DK = dv := h1
              have h2 : dval a.defers = dv := by rw [← h1]; simp [slot]
              show slot _ DK = _
              unfold slot
              rw [if_pos rfl, ← h2]
              exact dval_cons _ _
            · rename_i hi
              have hi : i ≠ DK := fun e => hi e.symm
              have := he.2 i
              rw [slot_tmp _ hi] at this ⊢
              exact this
          rcases hR with ⟨hh, hq⟩ | ⟨hh, hq⟩ | ⟨id, q, hmem, hh, hq⟩
          · exact ⟨.normal, _, _, ⟨hfz, _, hag, hq⟩, hgo.trans (.one (st_endRange hh (by simp)))⟩
          · cases hr : hasRet y with
            | false => rw [hr] at hq; exact hq.elim
            | true =>
              rw [hr] at hq
              exact ⟨.ret, _, _, ⟨hfz, _, hag, hq⟩, k, hgo.trans (.one (st_endRange hh (by simp)))⟩
          · obtain ⟨id', -, hid⟩ := List.mem_map.1 hmem
            cases hid
            exact ⟨.exit id, _, _, ⟨hfz, _, hag, hq⟩, k, rfl, hgo.trans (.one (st_endRange hh (by simp)))⟩
        | panicked chain => exact hR.elim
        | outgrown => exact hR.elim
      · intro vs w2 K hlen hh2 hM ats ty
        refine ⟨fun ρ hg => ?_⟩
        have hrun : (execOp ρ (mkOper (.call { callee := .value (.const (.func (.yield (w.heap.size + 1)) #[] #[])), args := (vs.map Operand.const).toArray, argTypes := ats }) ty)).run P w2 =
            .ok (.round (w.heap.size + 1) b.fn ((params.toList.zip vs).foldl (fun tmps p => tmps.setIfInBounds p.1 p.2) a.tmps) x y) w2 := by
          have hsz : ¬ (vs.length ≠ params.size) := by simp [hlen]
          have hmap : (vs.map Operand.const).toArray.map ρ = vs.toArray := by
            simp only [List.map_toArray, List.map_map]
            congr 1
            rw [show ρ ∘ Operand.const = id from funext fun v => hg.1 v]
            simp
          have hz : (params.zip vs.toArray).foldl (fun tmps (p : Nat × Value) => tmps.setIfInBounds p.1 p.2) a.tmps = (params.toList.zip vs).foldl (fun tmps p => tmps.setIfInBounds p.1 p.2) a.tmps := by
            rw [← Array.foldl_toList]; simp
          simp only [execOp, mkOper, resolve, hmap, hg.1, Deferred.ofValue]
          simp [invoke, Instr.yield, getLoop_ok hh2, hlen, ← hz]
        rw [hrun]
        refine ⟨fun c cs' => ?_⟩
        let b' : Frame := { (default : Frame) with fn := b.fn, kind := .normal, roundOf := some (w.heap.size + 1) }
        let a' : Act := { tmps := (params.toList.zip vs).foldl (fun tmps p => tmps.setIfInBounds p.1 p.2) a.tmps, defers := [] }
        have hfr : Frame.round (w.heap.size + 1) b.fn ((params.toList.zip vs).foldl (fun tmps p => tmps.setIfInBounds p.1 p.2) a.tmps) x y .normal = At b' a' [.code x, .beginRound, .code y] := by simp [Frame.round, At, b', a']
        rw [hfr]
        have hag0 : Agree ((DK, .unk) :: e) { tmps := a.tmps, defers := [] } := by
          refine ⟨he.1, fun i => ?_⟩
          rw [Env.get_cons]
          split
          · trivial
          · rename_i hi
            have hi : i ≠ DK := fun e => hi e.symm
            have := he.2 i
            rw [slot_tmp _ hi] at this ⊢
            exact this
        have hps : ∀ p ∈ params.toList, p < a.tmps.size := by
          intro p hp
          have := List.all_eq_true.1 hwp p hp
          rw [hN]; simpa [Nat.blt_eq] using this
        have hag : Agree (bindR params.toList 0 vs ((DK, .unk) :: e)) a' := agree_bind params.toList 0 vs vs _ { tmps := a.tmps, defers := [] } hag0 hps (by simp [hlen]) rfl
        have hsz : a'.tmps.size = N := by
          show ((params.toList.zip vs).foldl (fun tmps p => tmps.setIfInBounds p.1 p.2) a.tmps).size = N
          rw [size_bind, hN]
        obtain ⟨ex1, a1, w1, ⟨hf1, e1, he1, hq1⟩, hr1⟩ := ihx false (some (w.heap.size + 1)) (by simp) _ _ _ a' w2 hwx hsz hag hM b' [.beginRound, .code y] (c :: cs') rfl
        cases ex1 with
        | exit id => exact hq1.elim
        | ret => exact hq1.elim
        | normal =>
          obtain ⟨hb1, hq1⟩ := hq1
          have hgo1 := Steps.trans hr1 (.one (st_beginRound (P := P) (b := b') (a := a1) (k := [.code y]) (cs := c :: cs') rfl hb1 rfl))
          obtain ⟨ex2, a2, w4, ⟨hf2, e2, he2, hq2⟩, hr2⟩ := ihy false (some (w.heap.size + 1)) (by simp) _ _ e1 a1 _ hwy (okAll hsz hf1) he1 hq1 b' [] (c :: cs') rfl
          cases ex2 with
          | normal =>
            obtain ⟨hb2, hK⟩ := hq2
            exact ⟨_, _, hK, (hgo1.trans hr2).trans (.one (st_leaveRound (P := P) (b := b') (a := a2) rfl rfl hb2))⟩
          | ret =>
            obtain ⟨hb2, hK⟩ := hq2
            obtain ⟨k', hr2⟩ := hr2
            exact ⟨_, _, hK, (hgo1.trans hr2).trans (.one (st_leaveRet (P := P) (b := b') (a := a2) (L := { state := .busy, pending := none, fn := b.fn, tmps := a.tmps, params, assign := x, body := y, defers := w.heap.size }) rfl rfl hb2))⟩
          | exit id =>
            obtain ⟨hb2, hK⟩ := hq2
            obtain ⟨k', hek, hr2⟩ := hr2
            exact ⟨_, _, hK, (hgo1.trans hr2).trans (.one (st_leaveExit (P := P) (b := b') (a := a2) (L := { state := .busy, pending := none, fn := b.fn, tmps := a.tmps, params, assign := x, body := y, defers := w.heap.size }) rfl rfl hek hb2))⟩
    · exact h.elim
  | _ => exact fun top ro hro n Q e a w _ _ _ h => by simp [tr] at h

theorem get_enterE (vs : List Value) (i j : Nat) : Env.get (enterE i vs) j = if i ≤ j then (match vs[j - i]? with | some v => .val v | none => .unk) else .unk := by
  induction vs generalizing i with
  | nil => simp [enterE, Env.get]
  | cons v vs ih =>
    show Env.get ((i, .val v) :: enterE (i + 1) vs) j = _
    rw [Env.get_cons, ih]
    by_cases h : i = j
    · subst h; simp
    · by_cases h2 : i ≤ j
      · obtain ⟨d, rfl⟩ : ∃ d, j = i + 1 + d := ⟨j - (i + 1), by omega⟩
        have e1 : i + 1 + d - i = d + 1 := by omega
        have e2 : i + 1 + d - (i + 1) = d := by omega
        simp [e1, e2, show ¬ i = i + 1 + d by omega, show i ≤ i + 1 + d by omega]
      · simp [h, h2, show ¬ i + 1 ≤ j by omega]

theorem agree_enter (vs : List Value) (n : Nat) (hn : vs.length + n ≤ DK) : Agree (enterD vs) { tmps := vs.toArray ++ Array.replicate n undef, defers := [] } := by
  refine ⟨by simpa using hn, fun j => ?_⟩
  show (Env.get ((DK, .val (.tuple #[])) :: enterE 0 vs) j).ok _
  rw [Env.get_cons]
  split
  · rename_i hj
    subst hj
    simp [slot, dval, drefs, Ent.ok]
  · rename_i hj
    rw [slot_tmp _ fun e => hj e.symm, get_enterE]
    simp only [Nat.zero_le, if_true, Nat.sub_zero]
    cases h : vs[j]? with
    | none => trivial
    | some v =>
      have hj : j < vs.length := (List.getElem?_eq_some_iff.1 h).1
      simp only [Ent.ok, Array.getD_eq_getD_getElem?]
      rw [Array.getElem?_append_left (by simpa using hj)]
      simp [h]

def readR (tmps : Array Value) (r : ResultVar) : Sem Value :=
  match r with
  | .tmp t => pure (tmps.getD t undef)
  | .cell x t => do loadVar t (← asAddr (tmps.getD x undef))

theorem trRes_sound {rs : List ResultVar} {K : Value → World → Prop} {e : Env} {a : Act} {w : World} (he : Agree e a) : ∀ (acc : List Value), trRes P rs acc K e w →
    ∃ vs : List Value, (rs.mapM (readR a.tmps)).run P w = Result.ok vs w ∧ K (pack (acc.reverse ++ vs)) w := by
  induction rs with
  | nil => exact fun acc h => ⟨[], rfl, by simpa [trRes] using h⟩
  | cons r rs ih =>
    intro acc h
    cases r with
    | tmp t =>
      have h' := tvget_some he h
      obtain ⟨vs, hr, hk⟩ := ih _ h'
      refine ⟨a.tmps.getD t undef :: vs, ?_, by simpa using hk⟩
      rw [List.mapM_cons]
      simp only [readR, Sem.run_bind, pure_bind]
      rw [hr]; rfl
    | cell x t =>
      have h' := tvget_some he h
      obtain ⟨ad, v, hv, hl, hk'⟩ := h'
      obtain ⟨vs, hr, hk⟩ := ih _ hk'
      refine ⟨v :: vs, ?_, by simpa using hk⟩
      rw [List.mapM_cons]
      simp only [readR, hv, Sem.run_bind, asAddr, pure_bind, hl, Result.andThen_ok]
      rw [hr]; rfl

theorem results_run {fn : Func} {tmps : Array Value} {w : World} {vs : List Value} (h : (fn.results.toList.mapM (readR tmps)).run P w = Result.ok vs w) :
    (results fn tmps).run P w = .ok (pack vs) w := by
  have e : results fn tmps = (do let vs ← fn.results.mapM (readR tmps); pure (if h : vs.size = 1 then vs[0] else .tuple vs)) := rfl
  rw [e, Array.mapM_eq_mapM_toList]
  simp only [Sem.run_bind, map_eq_pure_bind, bind_assoc, pure_bind, h]
  match vs with
  | [] => rfl
  | [v] => rfl
  | u :: v :: l => rfl

/-- Marks are taken up, one by one. -/
theorem close_steps {M : World → Prop} {cs : List Frame} : ∀ (ds : List Deferred) (fr : Frame) (w : World), fr.defers = ds → fr.mode = .returning → closeV (dval ds) M w →
    ∃ w2, M w2 ∧ Steps P (lone fr cs w) (lone { fr with defers := [] } cs w2)
  | [], fr, w, hd, hm, h => by
    refine ⟨w, by simpa [closeV, dval, drefs, closeA] using h, ?_⟩
    have : { fr with defers := [] } = fr := by rw [← hd]
    rw [this]
    exact .refl _ _
  | d :: ds, fr, w, hd, hm, h => by
    cases hr : dref d with
    | none => simp [closeV, dval, drefs, hr] at h
    | some r =>
      have ht : d.target = .collected r := by
        unfold dref at hr
        split at hr
        · rename_i r' h'; cases hr; exact h'
        · cases hr
      cases hrs : drefs ds with
      | none => simp [closeV, dval, drefs, hr, hrs] at h
      | some rs =>
        simp only [closeV, dval, drefs, hr, hrs, List.map_cons, closeA, Int.toNat_natCast] at h
        obtain ⟨h1, h2⟩ := h
        obtain ⟨w2, h3, h4⟩ := close_steps ds { fr with defers := ds } (setBlk w r (.deferred none)) rfl hm (by simpa [closeV, dval, hrs] using h2)
        exact ⟨w2, h3, .head (st_collect ht hd hm h1) h4⟩

theorem calls_of_tr (hm : P.follows .mixedOrders = true) {f : FuncId} {fn : Func} {c : Code} {args : List Value} {w : World} {K : Value → World → Prop} {hs : Hints} (hf : P.funcs[f]? = some fn) (hb : fn.body = some c)
    (hN : wfc fn.ntmps c = true) (hD : fn.ntmps ≤ DK) (ha : args.length ≤ fn.ntmps) (h : tr P true hs c 0 (retQ P fn.results.toList K) (enterD args) w) : Calls P f args.toArray w (retK K) := by
  intro cs
  let b : Frame := { (default : Frame) with fn := f, kind := .normal, roundOf := none }
  have henter : Frame.enter P f args.toArray .normal = At b { tmps := args.toArray ++ Array.replicate (fn.ntmps - args.length) undef, defers := [] } [.code c] := by
    simp [Frame.enter, At, hf, hb, b]
  obtain ⟨e, a', w', ⟨hfz, e', he', hq⟩, hr⟩ := tr_sound hm c true none (fun _ => rfl) 0 _ _ { tmps := args.toArray ++ Array.replicate (fn.ntmps - args.length) undef, defers := [] } w hN (by simp; omega) (agree_enter _ _ (by omega)) h b [] cs rfl
  rw [← henter] at hr
  have fin : ∀ (fr : Frame), fr.defers = a'.defers → fr.mode = .returning → (vget e' DK fun v => closeV v (fun w => trRes P fn.results.toList [] K e' w) w') → ∃ v w2, K v w2 ∧ (results fn a'.tmps).run P w2 = .ok v w2 ∧ Steps P (lone fr cs w') (lone { fr with defers := [] } cs w2) := by
    intro fr hd hmd ht
    have ht := vget_some he' ht
    have hsl : slot a' DK = dval a'.defers := by simp [slot]
    rw [hsl] at ht
    obtain ⟨w2, ht2, hs2⟩ := close_steps (P := P) (cs := cs) a'.defers fr w' hd hmd ht
    obtain ⟨vs, hm, hk⟩ := trRes_sound he' [] ht2
    exact ⟨_, w2, hk, results_run hm, hs2⟩
  cases e with
  | normal =>
    obtain ⟨v, w2, hk, hres, hs2⟩ := fin { At b a' [] with mode := .returning } rfl rfl hq
    refine ⟨.returned v, w2, _, hk, (Steps.trans hr (.one ?_)).trans hs2, rfl, rfl, rfl, rfl, fn, hf, hres⟩
    exact step_lone_go (by simp [stepG, stepG.exec, At, b])
  | ret =>
    obtain ⟨k', hr⟩ := hr
    obtain ⟨v, w2, hk, hres, hs2⟩ := fin { At b a' (.code .ret :: k') with mode := .returning } rfl rfl hq
    refine ⟨.returned v, w2, _, hk, (Steps.trans hr (.one ?_)).trans hs2, rfl, rfl, rfl, rfl, fn, hf, hres⟩
    exact step_lone_go (by simp [stepG, stepG.exec, At, b])
  | exit id => exact hq.elim
end
end Lyc
