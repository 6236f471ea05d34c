/- The contracts of package kids. -/
import Derived.Test.YtdjdeahmhenchaaW3
import Derived.Test.YtdjdeahmhenchaaQueue
import Derived.Test.YtdjdeahmhenchaaLycOps6
set_option linter.unusedSimpArgs false
set_option linter.unusedVariables false
namespace Go.Proofs.Ytdjdeahmhenchaa
open Lyc Go

@[go_sem] theorem kidsMapZ : tmapZ Try.prog 87 .i64 = some (.pointer none) := by
  have h : tmap Try.prog 87 = some (.i64, .pointer none) := by kernel_rfl
  simp [tmapZ, h]
@[go_sem] theorem kidsMapK : tmapK Try.prog 87 = some .i64 := by
  have h : tmap Try.prog 87 = some (.i64, .pointer none) := by kernel_rfl
  simp [tmapK, h]

/-- A child: its number; where it, its queue, and its queue's channel stand; when it came; since when it was not heard; its queue. -/
structure Kid where
  id : Int
  b : Nat
  q : Nat
  c : Nat
  born : Nat
  quiet : Int
  S : Qs
def Kid.ent (x : Kid) : Int × Value × Nat := (x.id, .pointer (some ⟨x.b, 0, none⟩), x.born)
def Kid.bs (x : Kid) : List Nat := [x.b, x.q, x.c]
structure Kt where
  room : Int
  frames : Int
  told : Int
  clock : Nat
  kids : List Kid
structure KidOk (w : World) (x : Kid) : Prop where
  hb : w.heap[x.b]? = some (.cells #[.pointer (some ⟨x.q, 0, none⟩), .int .i64 x.quiet] 93)
  hq : QAt w x.q x.c x.S
  id0 : 0 ≤ x.id
  id1 : x.id < 16
  q0 : 0 ≤ x.quiet
  q1 : x.quiet ≤ 8
structure KAt (w : World) (k m : Nat) (T : Kt) : Prop where
  hk : w.heap[k]? = some (.cells #[.int .i64 T.room, .int .i64 T.frames, .int .i64 T.told, .map (some m)] 89)
  hm : w.heap[m]? = some (.map (ents .i64 (T.kids.map Kid.ent)) T.clock)
  each : ∀ x ∈ T.kids, KidOk w x
  apart : (k :: m :: T.kids.flatMap Kid.bs).Nodup
  ids : (T.kids.map Kid.id).Nodup
  room0 : 0 ≤ T.room
  room1 : T.room ≤ 15
  fits : T.kids.length ≤ T.room

theorem KidOk.chg {w w' : World} {x : Kid} {F : List Nat} (h : KidOk w x) (hc : Chg F w w') (hb : x.b ∉ F) (hq : x.q ∉ F) (hcc : x.c ∉ F) : KidOk w' x :=
  ⟨hc.keep h.hb hb, h.hq.chg hc hq hcc, h.id0, h.id1, h.q0, h.q1⟩
theorem KAt.chg {w w' : World} {k m : Nat} {T : Kt} {F : List Nat} (h : KAt w k m T) (hc : Chg F w w') (hk : k ∉ F) (hm : m ∉ F) (hF : ∀ x ∈ T.kids, x.b ∉ F ∧ x.q ∉ F ∧ x.c ∉ F) : KAt w' k m T :=
  ⟨hc.keep h.hk hk, hc.keep h.hm hm, fun x hx => (h.each x hx).chg hc (hF x hx).1 (hF x hx).2.1 (hF x hx).2.2, h.apart, h.ids, h.room0, h.room1, h.fits⟩
theorem KAt.chg0 {w w' : World} {k m : Nat} {T : Kt} (h : KAt w k m T) (hc : Chg [] w w') : KAt w' k m T := h.chg hc (by simp) (by simp) (by simp)
/-- All blocks of a table. -/
def Kt.bs (k m : Nat) (T : Kt) : List Nat := k :: m :: T.kids.flatMap Kid.bs
theorem KAt.lt {w : World} {k m : Nat} {T : Kt} (h : KAt w k m T) : ∀ b ∈ T.bs k m, b < w.heap.size := by
  intro b hb
  simp only [Kt.bs, List.mem_cons, List.mem_flatMap, Kid.bs, List.not_mem_nil, or_false] at hb
  rcases hb with rfl | rfl | ⟨x, hx, rfl | rfl | rfl⟩
  · exact lt_of_heap h.hk
  · exact lt_of_heap h.hm
  · exact lt_of_heap (h.each x hx).hb
  · exact lt_of_heap (h.each x hx).hq.hq
  · obtain ⟨s, r, e⟩ := (h.each x hx).hq.hc; exact lt_of_heap e

def Kt.new (room frames : Int) : Kt := ⟨min (max room 0) 15, frames, -1, 0, []⟩

theorem knew_c (w : World) (room frames : Int) : Calls Try.prog 25 #[.int .i64 room, .int .i64 frames] w (retK fun v w' => ∃ k m, v = .pointer (some ⟨k, 0, none⟩) ∧ w.heap.size ≤ k ∧ w.heap.size ≤ m ∧ Chg [] w w' ∧ KAt w' k m (Kt.new room frames)) := by
  apply kids_New_link
  intro K hK
  unfold kids_New
  simp -dsimp (disch := first | omega | (simp only [go_sem, seval]; first | done | omega)) only [go_sem, seval]
  refine hK _ _ ⟨w.heap.size + 1, w.heap.size, rfl, by omega, Nat.le_refl _, ((Chg.refl _ _).alloc _).alloc _, ⟨?_, ?_, by simp [Kt.new], ?_, by simp [Kt.new], ?_, ?_, ?_⟩⟩
  · simp -dsimp (disch := first | omega | (simp only [go_sem, seval]; first | done | omega)) only [go_sem, seval]
    rfl
  · simp -dsimp (disch := first | omega | (simp only [go_sem, seval]; first | done | omega)) only [go_sem, seval]
    rfl
  · simp [Kt.new]
  · simp only [Kt.new]; omega
  · simp only [Kt.new]; omega
  · simp only [Kt.new, List.length_nil]; omega

theorem has_nil (w : World) (id : Int) : Calls Try.prog 56 #[.pointer none, .int .i64 id] w (retK fun v w' => v = .bool false ∧ w = w') := by
  apply kids_Kids_Has_link
  intro K hK
  unfold kids_Kids_Has
  simp -dsimp (disch := first | omega | (simp only [go_sem, seval]; first | done | omega)) only [go_sem, seval]
  exact hK _ _ ⟨rfl, rfl⟩
/-- The child of a number. -/
def Kt.find (T : Kt) (id : Int) : Option Kid := T.kids.find? fun x => x.id == id
theorem find_ents (l : List Kid) (id : Int) : lfind (l.map Kid.ent) id = (l.find? fun x => x.id == id).map fun x => .pointer (some ⟨x.b, 0, none⟩) := by
  induction l with
  | nil => rfl
  | cons x l ih =>
    simp only [List.map_cons, lfind, Kid.ent, List.find?_cons]
    by_cases h : id = x.id
    · simp [h]
    · have : (x.id == id) = false := by simp; omega
      simp [h, this, ih]
theorem has_c {w : World} {k m : Nat} {T : Kt} (h : KAt w k m T) (id : Int) : Calls Try.prog 56 #[.pointer (some ⟨k, 0, none⟩), .int .i64 id] w (retK fun v w' => v = .bool (T.find id).isSome ∧ w = w') := by
  have hk := h.hk
  have hm := h.hm
  apply kids_Kids_Has_link
  intro K hK
  unfold kids_Kids_Has
  simp -dsimp (disch := first | omega | (simp only [go_sem, seval]; first | done | omega)) only [go_sem, seval, hk, hm]
  refine hK _ _ ⟨?_, rfl⟩
  simp [find_ents, Kt.find]

theorem full_nil (w : World) : Calls Try.prog 55 #[.pointer none] w (retK fun v w' => v = .bool true ∧ Chg [] w w') := by
  apply kids_Kids_Full_link
  intro K hK
  unfold kids_Kids_Full
  refine Join1.inl ?_
  simp -dsimp (disch := first | omega | (simp only [go_sem, seval]; first | done | omega)) only [go_sem, seval]
  exact hK _ _ ⟨rfl, (Chg.refl _ _).drew⟩
theorem full_c {w : World} {k m : Nat} {T : Kt} (h : KAt w k m T) : Calls Try.prog 55 #[.pointer (some ⟨k, 0, none⟩)] w (retK fun v w' => v = .bool (decide (T.room ≤ T.kids.length)) ∧ Chg [] w w') := by
  have hk := h.hk
  have hm := h.hm
  apply kids_Kids_Full_link
  intro K hK
  unfold kids_Kids_Full
  refine Join1.inl ?_
  simp -dsimp (disch := first | omega | (simp only [go_sem, seval]; first | done | omega)) only [go_sem, seval, hk, hm]
  refine hK _ _ ⟨?_, (Chg.refl _ _).drew⟩
  simp

theorem kqueue_none {w : World} {k m : Nat} {T : Kt} (h : KAt w k m T) (id : Int) (hf : T.find id = none) : Calls Try.prog 27 #[.pointer (some ⟨k, 0, none⟩), .int .i64 id] w (retK fun v w' => v = .pointer none ∧ w = w') := by
  apply kids_Kids_Queue_link
  intro K hK
  unfold kids_Kids_Queue
  refine OpX.call kids_Kids_Has_b rfl (Calls.ret (has_c h id) ?_)
  rintro v w1 ⟨rfl, rfl⟩
  rw [hf]
  simp -dsimp (disch := first | omega | (simp only [go_sem, seval]; first | done | omega)) only [go_sem, seval]
  exact hK _ _ ⟨rfl, rfl⟩
theorem Kt.find_mem {T : Kt} {id : Int} {x : Kid} (h : T.find id = some x) : x ∈ T.kids ∧ x.id = id := by
  have h1 := List.mem_of_find?_eq_some h
  have h2 := List.find?_some h
  exact ⟨h1, by simpa using h2⟩
theorem kqueue_some {w : World} {k m : Nat} {T : Kt} (h : KAt w k m T) (id : Int) {x : Kid} (hf : T.find id = some x) : Calls Try.prog 27 #[.pointer (some ⟨k, 0, none⟩), .int .i64 id] w (retK fun v w' => v = .pointer (some ⟨x.q, 0, none⟩) ∧ w = w') := by
  have hk := h.hk
  have hm := h.hm
  have hb := (h.each x (Kt.find_mem hf).1).hb
  have hfe : lfind (T.kids.map Kid.ent) id = some (.pointer (some ⟨x.b, 0, none⟩)) := by
    rw [find_ents]; unfold Kt.find at hf; rw [hf]; rfl
  apply kids_Kids_Queue_link
  intro K hK
  unfold kids_Kids_Queue
  refine OpX.call kids_Kids_Has_b rfl (Calls.ret (has_c h id) ?_)
  rintro v w1 ⟨rfl, rfl⟩
  rw [hf]
  simp -dsimp (disch := first | omega | (simp only [go_sem, seval]; first | done | omega)) only [go_sem, seval, hk, hm, hfe, hb, Option.getD_some]
  exact hK _ _ ⟨rfl, rfl⟩

theorem del_ents (l : List Kid) (id : Int) : ldel (l.map Kid.ent) id = (l.eraseP fun x => x.id == id).map Kid.ent := by
  induction l with
  | nil => rfl
  | cons x l ih =>
    simp only [List.map_cons, ldel, Kid.ent, List.eraseP_cons]
    by_cases h : id = x.id
    · simp [h]
    · have : (x.id == id) = false := by simp; omega
      simp [h, this, ih, Kid.ent]
theorem sub_flatMap {α β : Type} (f : α → List β) {l l' : List α} (h : List.Sublist l l') : List.Sublist (l.flatMap f) (l'.flatMap f) := by
  induction h with
  | slnil => exact List.Sublist.refl _
  | cons a _ ih => rw [List.flatMap_cons]; exact ih.trans (List.sublist_append_right _ _)
  | cons_cons a _ ih => rw [List.flatMap_cons, List.flatMap_cons]; exact (List.Sublist.refl _).append ih
def Kt.drop (T : Kt) (id : Int) : Kt := { T with kids := T.kids.eraseP fun x => x.id == id }
theorem KAt.m_ne {w : World} {k m : Nat} {T : Kt} (h : KAt w k m T) : k ≠ m ∧ ∀ x ∈ T.kids, x.b ≠ m ∧ x.q ≠ m ∧ x.c ≠ m ∧ x.b ≠ k ∧ x.q ≠ k ∧ x.c ≠ k := by
  have := h.apart
  simp only [List.nodup_cons, List.mem_cons, List.mem_flatMap, Kid.bs, not_or, not_exists, not_and, List.not_mem_nil, or_false] at this
  obtain ⟨⟨h1, h2⟩, h3, h4⟩ := this
  refine ⟨h1, fun x hx => ?_⟩
  have h2 := h2 x hx
  have h3 := h3 x hx
  exact ⟨fun e => h3.1 e.symm, fun e => h3.2.1 e.symm, fun e => h3.2.2 e.symm, fun e => h2.1 e.symm, fun e => h2.2.1 e.symm, fun e => h2.2.2 e.symm⟩

theorem kdrop_c {w : World} {k m : Nat} {T : Kt} (h : KAt w k m T) (id : Int) : Calls Try.prog 28 #[.pointer (some ⟨k, 0, none⟩), .int .i64 id] w (retK fun v w' => v = .bool (T.find id).isSome ∧ Chg [m] w w' ∧ KAt w' k m (T.drop id)) := by
  have hk := h.hk
  have hm := h.hm
  have hne := h.m_ne
  have hlm := lt_of_heap hm
  apply kids_Kids_Drop_link
  intro K hK
  unfold kids_Kids_Drop
  refine OpX.call kids_Kids_Has_b rfl (Calls.ret (has_c h id) ?_)
  rintro v w1 ⟨rfl, rfl⟩
  cases hf : T.find id with
  | none =>
    simp -dsimp (disch := first | omega | (simp only [go_sem, seval]; first | done | omega)) only [go_sem, seval]
    refine hK _ _ ⟨by rw [hf]; rfl, Chg.refl _ _, ?_⟩
    have : T.drop id = T := by
      unfold Kt.drop
      rw [List.eraseP_of_forall_not]
      intro x hx hh
      have := List.find?_eq_none.1 hf x hx
      exact this hh
    rw [this]; exact h
  | some x =>
    simp -dsimp (disch := first | omega | (simp only [go_sem, seval]; first | done | omega)) only [go_sem, seval, hk, hm, del_ents]
    have hc : Chg [m] w (setBlk w m (.map (ents .i64 ((T.kids.eraseP fun x => x.id == id).map Kid.ent)) T.clock)) := (Chg.refl _ _).set _ _ (by simp)
    refine hK _ _ ⟨by rw [hf]; rfl, hc, ⟨hc.keep hk (by simp; omega), by simp -dsimp (disch := first | omega | (simp only [go_sem, seval]; first | done | omega)) only [go_sem, seval]; rfl, ?_, ?_, ?_, h.room0, h.room1, ?_⟩⟩
    · intro x hx
      have hx' := List.mem_of_mem_eraseP hx
      have := hne.2 x hx'
      exact (h.each x hx').chg hc (by simp; omega) (by simp; omega) (by simp; omega)
    · exact h.apart.sublist (List.Sublist.cons_cons _ (List.Sublist.cons_cons _ (sub_flatMap _ List.eraseP_sublist)))
    · exact h.ids.sublist (List.eraseP_sublist.map _)
    · have := h.fits
      have h2 : (T.kids.eraseP fun x => x.id == id).length ≤ T.kids.length := List.eraseP_sublist.length_le
      show (((T.kids.eraseP fun x => x.id == id).length : Nat) : Int) ≤ T.room
      omega

/-- A child that is heard. -/
def Kid.heard (x : Kid) : Kid := { x with quiet := 0 }
def Kt.hear (T : Kt) (id : Int) : Kt := { T with kids := T.kids.map fun x => if x.id = id then x.heard else x }
theorem hear_map {β : Type} (f : Kid → β) (hf : ∀ x, f x.heard = f x) (l : List Kid) (id : Int) : (l.map fun x => if x.id = id then x.heard else x).map f = l.map f := by
  rw [List.map_map]
  apply List.map_congr_left
  intro x _
  simp only [Function.comp]
  split
  · exact hf x
  · rfl
theorem hear_flat (l : List Kid) (id : Int) : (l.map fun x => if x.id = id then x.heard else x).flatMap Kid.bs = l.flatMap Kid.bs := by
  rw [List.flatMap_def, List.flatMap_def, hear_map _ fun _ => rfl]
/-- Blocks of one child are its own. -/
theorem apart_kids {l : List Kid} (h : (l.flatMap Kid.bs).Nodup) (hid : (l.map Kid.id).Nodup) {x y : Kid} (hx : x ∈ l) (hy : y ∈ l) (hne : x.id ≠ y.id) : ∀ b ∈ x.bs, b ∉ y.bs := by
  induction l with
  | nil => simp at hx
  | cons z l ih =>
    rw [List.flatMap_cons, List.nodup_append] at h
    rw [List.map_cons, List.nodup_cons] at hid
    obtain ⟨h1, h2, h3⟩ := h
    rcases List.mem_cons.1 hx with e | hx' <;> rcases List.mem_cons.1 hy with e' | hy'
    · exact absurd (by rw [e, e']) hne
    · intro b hb hb'
      exact h3 b (e ▸ hb) b (List.mem_flatMap.2 ⟨y, hy', hb'⟩) rfl
    · intro b hb hb'
      exact h3 b (e' ▸ hb') b (List.mem_flatMap.2 ⟨x, hx', hb⟩) rfl
    · exact ih h2 hid.2 hx' hy'
theorem KAt.flatN {w : World} {k m : Nat} {T : Kt} (h : KAt w k m T) : (T.kids.flatMap Kid.bs).Nodup := (List.nodup_cons.1 (List.nodup_cons.1 h.apart).2).2
theorem KAt.other {w : World} {k m : Nat} {T : Kt} (h : KAt w k m T) {x y : Kid} (hx : x ∈ T.kids) (hy : y ∈ T.kids) (hne : x.id ≠ y.id) : ∀ b ∈ x.bs, b ∉ y.bs := apart_kids h.flatN h.ids hx hy hne
theorem KAt.uniq {w : World} {k m : Nat} {T : Kt} (h : KAt w k m T) {x y : Kid} (hx : x ∈ T.kids) (hy : y ∈ T.kids) (he : x.id = y.id) : x = y := by
  have := h.ids
  revert this hx hy
  generalize T.kids = l
  intro hx hy hn
  induction l with
  | nil => simp at hx
  | cons z l ih =>
    rw [List.map_cons, List.nodup_cons] at hn
    rcases List.mem_cons.1 hx with e | hx' <;> rcases List.mem_cons.1 hy with e' | hy'
    · rw [e, e']
    · exact absurd (List.mem_map.2 ⟨y, hy', by rw [← he, e]⟩) hn.1
    · exact absurd (List.mem_map.2 ⟨x, hx', by rw [he, e']⟩) hn.1
    · exact ih hx' hy' hn.2
theorem KAt.hear {w : World} {k m : Nat} {T : Kt} (h : KAt w k m T) {id : Int} {x : Kid} (hf : T.find id = some x) :
    KAt (setBlk w x.b (.cells #[.pointer (some ⟨x.q, 0, none⟩), .int .i64 0] 93)) k m (T.hear id) := by
  obtain ⟨hx, hid⟩ := Kt.find_mem hf
  have hne := h.m_ne
  have hnx := hne.2 x hx
  have hb := (h.each x hx).hb
  have hq := (h.each x hx).hq
  have lb := lt_of_heap hb
  have hc : Chg [x.b] w (setBlk w x.b (.cells #[.pointer (some ⟨x.q, 0, none⟩), .int .i64 0] 93)) := (Chg.refl _ _).set _ _ (by simp)
  refine ⟨hc.keep h.hk (by simp; omega), ?_, ?_, ?_, ?_, h.room0, h.room1, ?_⟩
  · have := hc.keep h.hm (by simp; omega)
    unfold Kt.hear
    dsimp only
    rw [hear_map _ fun _ => rfl]
    exact this
  · intro y hy
    obtain ⟨y0, hy0, rfl⟩ := List.mem_map.1 hy
    by_cases he : y0.id = id
    · rw [if_pos he]
      have e : y0 = x := h.uniq hy0 hx (he.trans hid.symm)
      subst e
      have hxx := h.each y0 hx
      have hn1 : y0.bs.Nodup := by
        have := h.flatN
        obtain ⟨l1, l2, e⟩ := List.append_of_mem hx
        rw [e] at this
        simp only [List.flatMap_append, List.flatMap_cons] at this
        exact ((List.nodup_append.1 (List.nodup_append.1 this).2.1).1)
      simp [Kid.bs] at hn1
      exact ⟨(by unfold Kid.heard; simp -dsimp (disch := first | omega | (simp only [go_sem, seval]; first | done | omega)) only [go_sem, seval]), hxx.hq.chg hc (by simp; omega) (by simp; omega), hxx.id0, hxx.id1, Int.le_refl _, by simp [Kid.heard]⟩
    · rw [if_neg he]
      have ho := h.other hx hy0 (by omega) x.b (by simp [Kid.bs])
      simp [Kid.bs] at ho
      exact (h.each y0 hy0).chg hc (by simp; omega) (by simp; omega) (by simp; omega)
  · unfold Kt.hear; dsimp only; rw [hear_flat]; exact h.apart
  · unfold Kt.hear; dsimp only; rw [hear_map _ fun _ => rfl]; exact h.ids
  · have := h.fits
    simpa [Kt.hear] using this

theorem kadd_nil (w : World) (id : Int) : Calls Try.prog 26 #[.pointer none, .int .i64 id] w (retK fun v w' => v = .bool false ∧ w = w') := by
  apply kids_Kids_Add_link
  intro K hK
  unfold kids_Kids_Add
  refine Join1.inl ?_
  simp -dsimp (disch := first | omega | (simp only [go_sem, seval]; first | done | omega)) only [go_sem, seval]
  exact hK _ _ ⟨rfl, rfl⟩
theorem kadd_bad {w : World} (k : Nat) (id : Int) (hid : ¬ (0 ≤ id ∧ id < 16)) : Calls Try.prog 26 #[.pointer (some ⟨k, 0, none⟩), .int .i64 id] w (retK fun v w' => v = .bool false ∧ w = w') := by
  apply kids_Kids_Add_link
  intro K hK
  unfold kids_Kids_Add
  refine Join1.inl ?_
  simp -dsimp (disch := first | omega | (simp only [go_sem, seval]; first | done | omega)) only [go_sem, seval]
  refine BrW.dec (fun h => ?_) (fun h => ?_)
  · simp -dsimp (disch := first | omega | (simp only [go_sem, seval]; first | done | omega)) only [go_sem, seval]
    exact hK _ _ ⟨rfl, rfl⟩
  · simp -dsimp (disch := first | omega | (simp only [go_sem, seval]; first | done | omega)) only [go_sem, seval]
    refine BrW.dec (fun h => ?_) (fun h => absurd hid (by omega))
    exact hK _ _ ⟨rfl, rfl⟩
theorem kadd_some {w : World} {k m : Nat} {T : Kt} (h : KAt w k m T) (id : Int) {x : Kid} (hf : T.find id = some x) : Calls Try.prog 26 #[.pointer (some ⟨k, 0, none⟩), .int .i64 id] w (retK fun v w' => v = .bool true ∧ Chg [x.b] w w' ∧ KAt w' k m (T.hear id)) := by
  have hk := h.hk
  have hm := h.hm
  obtain ⟨hx, hid⟩ := Kt.find_mem hf
  have hb := (h.each x hx).hb
  have h0 := (h.each x hx).id0
  have h1 := (h.each x hx).id1
  have lb := lt_of_heap hb
  have hfe : lfind (T.kids.map Kid.ent) id = some (.pointer (some ⟨x.b, 0, none⟩)) := by
    rw [find_ents]; unfold Kt.find at hf; rw [hf]; rfl
  apply kids_Kids_Add_link
  intro K hK
  unfold kids_Kids_Add
  refine Join1.inl ?_
  simp -dsimp (disch := first | omega | (simp only [go_sem, seval]; first | done | omega)) only [go_sem, seval]
  refine BrW.dec (fun h => absurd h (by omega)) (fun _ => ?_)
  simp -dsimp (disch := first | omega | (simp only [go_sem, seval]; first | done | omega)) only [go_sem, seval]
  refine BrW.dec (fun h => absurd h (by omega)) (fun _ => ?_)
  simp -dsimp (disch := first | omega | (simp only [go_sem, seval]; first | done | omega)) only [go_sem, seval, hk, hm, hfe, hb]
  exact hK _ _ ⟨rfl, (Chg.refl _ _).set _ _ (by simp), h.hear hf⟩
theorem kadd_full {w : World} {k m : Nat} {T : Kt} (h : KAt w k m T) (id : Int) (h0 : 0 ≤ id) (h1 : id < 16) (hf : T.find id = none) (hr : T.room ≤ T.kids.length) : Calls Try.prog 26 #[.pointer (some ⟨k, 0, none⟩), .int .i64 id] w (retK fun v w' => v = .bool false ∧ Chg [] w w') := by
  have hk := h.hk
  have hm := h.hm
  have hfe : lfind (T.kids.map Kid.ent) id = none := by
    rw [find_ents]; unfold Kt.find at hf; rw [hf]; rfl
  apply kids_Kids_Add_link
  intro K hK
  unfold kids_Kids_Add
  refine Join1.inl ?_
  simp -dsimp (disch := first | omega | (simp only [go_sem, seval]; first | done | omega)) only [go_sem, seval]
  refine BrW.dec (fun h => absurd h (by omega)) (fun _ => ?_)
  simp -dsimp (disch := first | omega | (simp only [go_sem, seval]; first | done | omega)) only [go_sem, seval]
  refine BrW.dec (fun h => absurd h (by omega)) (fun _ => ?_)
  simp -dsimp (disch := first | omega | (simp only [go_sem, seval]; first | done | omega)) only [go_sem, seval, hk, hm, hfe]
  refine OpX.call kids_Kids_Full_b rfl (Calls.ret (full_c h) ?_)
  rintro v w1 ⟨rfl, hc1⟩
  refine BrW.dec (fun h => ?_) (fun h => absurd hr h)
  exact hK _ _ ⟨rfl, hc1⟩
def Kt.add (T : Kt) (id : Int) (b q c : Nat) : Kt := { T with kids := T.kids ++ [⟨id, b, q, c, T.clock, 0, Qs.new T.frames⟩], clock := T.clock + 1 }
theorem put_new (l : List Kid) (id : Int) (v : Value) (c : Nat) (h : (l.find? fun x => x.id == id) = none) : lput (l.map Kid.ent) id v c = l.map Kid.ent ++ [(id, v, c)] := by
  induction l with
  | nil => rfl
  | cons x l ih =>
    rw [List.find?_cons] at h
    have hx : (x.id == id) = false := by
      cases hh : x.id == id with
      | true => rw [hh] at h; simp at h
      | false => rfl
    rw [hx] at h
    have : ¬ id = x.id := by simp at hx; omega
    simp [lput, Kid.ent, this]
    exact ih h
theorem kadd_new {w : World} {k m : Nat} {T : Kt} (h : KAt w k m T) (id : Int) (h0 : 0 ≤ id) (h1 : id < 16) (hf : T.find id = none) (hr : T.kids.length < T.room) : Calls Try.prog 26 #[.pointer (some ⟨k, 0, none⟩), .int .i64 id] w
    (retK fun v w' => ∃ b q c, v = .bool true ∧ w.heap.size ≤ b ∧ w.heap.size ≤ q ∧ w.heap.size ≤ c ∧ Chg [m] w w' ∧ KAt w' k m (T.add id b q c)) := by
  have hk := h.hk
  have hm := h.hm
  have hlt := h.lt
  have hfe : lfind (T.kids.map Kid.ent) id = none := by
    rw [find_ents]; unfold Kt.find at hf; rw [hf]; rfl
  apply kids_Kids_Add_link
  intro K hK
  unfold kids_Kids_Add
  refine Join1.inl ?_
  simp -dsimp (disch := first | omega | (simp only [go_sem, seval]; first | done | omega)) only [go_sem, seval]
  refine BrW.dec (fun h => absurd h (by omega)) (fun _ => ?_)
  simp -dsimp (disch := first | omega | (simp only [go_sem, seval]; first | done | omega)) only [go_sem, seval]
  refine BrW.dec (fun h => absurd h (by omega)) (fun _ => ?_)
  simp -dsimp (disch := first | omega | (simp only [go_sem, seval]; first | done | omega)) only [go_sem, seval, hk, hm, hfe]
  refine OpX.call kids_Kids_Full_b rfl (Calls.ret (full_c h) ?_)
  rintro v w1 ⟨rfl, hc1⟩
  refine BrW.dec (fun h => absurd h (by omega)) (fun _ => ?_)
  have hk1 := hc1.keep hk (by simp)
  have hm1 := hc1.keep hm (by simp)
  simp -dsimp (disch := first | omega | (simp only [go_sem, seval]; first | done | omega)) only [go_sem, seval, hk1]
  refine OpX.call queue_New_b rfl (Calls.ret (new_c _ T.frames) ?_)
  rintro v w2 ⟨q, c, rfl, hq, hc, hc2, hQ2⟩
  have hc3 : Chg [] w w2 := (hc1.drew).trans0 hc2
  have hk2 := hc3.keep hk (by simp)
  have hm2 := hc3.keep hm (by simp)
  have lk2 := lt_of_heap hk2
  have lm2 := lt_of_heap hm2
  have hpc : putC (T.kids.map Kid.ent) id T.clock = T.clock + 1 := by simp [putC, hfe]
  have hpn := fun v c => put_new T.kids id v c hf
  have hle := hc1.size
  have hle2 := hc3.size
  simp only [heap_drew] at hq hc
  simp -dsimp (disch := first | omega | (simp only [go_sem, seval]; first | done | omega)) only [go_sem, seval, hk2, hm2, hpc, hpn]
  have hK0 := h.chg0 hc3
  have lq := lt_of_heap hQ2.hq
  obtain ⟨s2, r2, hcc⟩ := hQ2.hc
  have lc := lt_of_heap hcc
  have hne := hK0.m_ne
  have hmlt := hlt m (by simp [Kt.bs])
  generalize hwa : (setBlk w2 m (.map (ents .i64 (T.kids.map Kid.ent ++ [(id, .pointer (some ⟨w2.heap.size, 0, none⟩), T.clock)])) (T.clock + 1))).alloc (.cells #[.pointer (some ⟨q, 0, none⟩), .int .i64 0] 93) = wa
  have hcm : Chg [m] w2 wa := by rw [← hwa]; exact ((Chg.refl _ _).set _ _ (by simp)).alloc _
  have hba : wa.heap[w2.heap.size]? = some (.cells #[.pointer (some ⟨q, 0, none⟩), .int .i64 0] 93) := by rw [← hwa]; simp -dsimp (disch := first | omega | (simp only [go_sem, seval]; first | done | omega)) only [go_sem, seval]
  have hma : wa.heap[m]? = some (.map (ents .i64 (T.kids.map Kid.ent ++ [(id, .pointer (some ⟨w2.heap.size, 0, none⟩), T.clock)])) (T.clock + 1)) := by rw [← hwa]; simp -dsimp (disch := first | omega | (simp only [go_sem, seval]; first | done | omega)) only [go_sem, seval]
  refine hK _ _ ⟨w2.heap.size, q, c, rfl, by omega, by omega, by omega, (hc3.mono (by simp)).trans hcm (by simp), ⟨hcm.keep hK0.hk (by simp; exact hne.1), ?_, ?_, ?_, ?_, h.room0, h.room1, ?_⟩⟩
  · simp only [Kt.add, List.map_append, List.map_cons, List.map_nil, Kid.ent]
    exact hma
  · intro x hx
    rcases List.mem_append.1 hx with hx | hx
    · have := hne.2 x hx
      exact (hK0.each x hx).chg hcm (by simp; omega) (by simp; omega) (by simp; omega)
    · simp at hx
      subst hx
      exact ⟨hba, hQ2.chg hcm (by simp; omega) (by simp; omega), h0, h1, by simp, by simp⟩
  · have hap := h.apart
    have key : (k :: m :: (T.add id w2.heap.size q c).kids.flatMap Kid.bs) = T.bs k m ++ [w2.heap.size, q, c] := by simp [Kt.bs, Kt.add, Kid.bs]
    rw [key]
    rw [List.nodup_append]
    refine ⟨hap, ?_, ?_⟩
    · have := hQ2.ne
      simp; omega
    · intro a ha b hb
      have := hlt a ha
      simp at hb
      omega
  · have : (T.add id w2.heap.size q c).kids.map Kid.id = T.kids.map Kid.id ++ [id] := by simp [Kt.add]
    rw [this, List.nodup_append]
    refine ⟨h.ids, by simp, ?_⟩
    intro a ha b hb e
    simp at hb
    obtain ⟨y, hy, rfl⟩ := List.mem_map.1 ha
    have := List.find?_eq_none.1 hf y hy
    simp at this
    omega
  · simp only [Kt.add, List.length_append, List.length_cons, List.length_nil]
    omega

/-- A child's queue has become another. -/
def Kt.setS (T : Kt) (id : Int) (S : Qs) : Kt := { T with kids := T.kids.map fun x => if x.id = id then { x with S := S } else x }
theorem setS_map {β : Type} (f : Kid → β) (hf : ∀ x S, f { x with S := S } = f x) (l : List Kid) (id : Int) (S : Qs) : (l.map fun x => if x.id = id then { x with S := S } else x).map f = l.map f := by
  rw [List.map_map]
  apply List.map_congr_left
  intro x _
  simp only [Function.comp]
  split
  · exact hf x S
  · rfl
theorem KAt.setS {w w' : World} {k m : Nat} {T : Kt} (h : KAt w k m T) {x : Kid} (hx : x ∈ T.kids) {S : Qs} (hc : Chg [x.q, x.c] w w') (hQ : QAt w' x.q x.c S) : KAt w' k m (T.setS x.id S) := by
  have hne := h.m_ne
  have hnx := hne.2 x hx
  refine ⟨hc.keep h.hk (by simp; omega), ?_, ?_, ?_, ?_, h.room0, h.room1, ?_⟩
  · have := hc.keep h.hm (by simp; omega)
    unfold Kt.setS
    dsimp only
    rw [setS_map _ fun _ _ => rfl]
    exact this
  · intro y hy
    obtain ⟨y0, hy0, rfl⟩ := List.mem_map.1 hy
    by_cases he : y0.id = x.id
    · rw [if_pos he]
      have e : y0 = x := h.uniq hy0 hx he
      subst e
      have hxx := h.each y0 hx
      have hn1 : y0.bs.Nodup := by
        have := h.flatN
        obtain ⟨l1, l2, e⟩ := List.append_of_mem hx
        rw [e] at this
        simp only [List.flatMap_append, List.flatMap_cons] at this
        exact ((List.nodup_append.1 (List.nodup_append.1 this).2.1).1)
      simp [Kid.bs] at hn1
      exact ⟨hc.keep hxx.hb (by simp; omega), hQ, hxx.id0, hxx.id1, hxx.q0, hxx.q1⟩
    · rw [if_neg he]
      have ho1 := h.other hx hy0 (by omega) x.q (by simp [Kid.bs])
      have ho2 := h.other hx hy0 (by omega) x.c (by simp [Kid.bs])
      simp [Kid.bs] at ho1 ho2
      exact (h.each y0 hy0).chg hc (by simp; omega) (by simp; omega) (by simp; omega)
  · unfold Kt.setS; dsimp only; rw [List.flatMap_def, setS_map _ fun _ _ => rfl, ← List.flatMap_def]; exact h.apart
  · unfold Kt.setS; dsimp only; rw [setS_map _ fun _ _ => rfl]; exact h.ids
  · have := h.fits
    simpa [Kt.setS] using this
end Go.Proofs.Ytdjdeahmhenchaa
