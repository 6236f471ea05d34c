/- The contracts of package kids: numbers told, ticks. -/
import Derived.Test.YtdjdeahmhenchaaSort
set_option linter.unusedSimpArgs false
set_option linter.unusedVariables false
namespace Go.Proofs.Ytdjdeahmhenchaa
open Lyc Go

def KBorn (T : Kt) : Prop := (∀ x ∈ T.kids, x.born < T.clock) ∧ (T.kids.map Kid.born).Nodup
theorem KBorn.new (room frames : Int) : KBorn (Kt.new room frames) := ⟨by simp [Kt.new], by simp [Kt.new]⟩
theorem KBorn.drop {T : Kt} (h : KBorn T) (id : Int) : KBorn (T.drop id) := ⟨fun x hx => h.1 x (List.mem_of_mem_eraseP hx), h.2.sublist (List.eraseP_sublist.map _)⟩
theorem KBorn.hear {T : Kt} (h : KBorn T) (id : Int) : KBorn (T.hear id) := by
  refine ⟨fun x hx => ?_, ?_⟩
  · obtain ⟨y, hy, rfl⟩ := List.mem_map.1 hx
    have := h.1 y hy
    split
    · exact this
    · exact this
  · unfold Kt.hear; dsimp only; rw [hear_map _ fun _ => rfl]; exact h.2
theorem KBorn.add {T : Kt} (h : KBorn T) (id : Int) (b q c : Nat) : KBorn (T.add id b q c) := by
  refine ⟨fun x hx => ?_, ?_⟩
  · rcases List.mem_append.1 hx with hx | hx
    · have := h.1 x hx; show x.born < T.clock + 1; omega
    · simp at hx; subst hx; show T.clock < T.clock + 1; omega
  · have : (T.add id b q c).kids.map Kid.born = T.kids.map Kid.born ++ [T.clock] := by simp [Kt.add]
    rw [this, List.nodup_append]
    refine ⟨h.2, by simp, ?_⟩
    intro a ha b hb e
    obtain ⟨y, hy, rfl⟩ := List.mem_map.1 ha
    have := h.1 y hy
    simp at hb
    omega
theorem ids_c {w : World} {k m : Nat} {T : Kt} (h : KAt w k m T) (hB : KBorn T) : Calls Try.prog 54 #[.pointer (some ⟨k, 0, none⟩)] w
    (retK fun v w' => ∃ ks, ks.Perm (T.kids.map Kid.id) ∧ Rising ks ∧ Ox w.heap.size w' 3 1 intF v ks ∧ Chg [] w w') := by
  have hk := h.hk
  have hf := h.fits
  have hr := h.room1
  apply kids_Kids_IDs_link
  intro K hK
  unfold kids_Kids_IDs
  simp -dsimp (disch := first | omega | (simp only [go_sem, seval]; first | done | omega)) only [go_sem, seval, hk]
  refine OpX.call maps_Keys_map_int_kids_child_int_kids_child_b rfl (Calls.ret (keys_c h.hm) ?_)
  rintro v w1 ⟨rfl, hb, hc⟩
  have e1 : (T.kids.map Kid.ent).map (·.1) = T.kids.map Kid.id := by simp [Kid.ent, Function.comp_def]
  have e2 : (T.kids.map Kid.ent).map ebo = T.kids.map Kid.born := by simp [Kid.ent, ebo, Function.comp_def]
  refine OpX.call slices_Sorted_int_b rfl (Calls.ret (sorted_c hb (hc.keep h.hm (by simp)) (by intro x hx; obtain ⟨y, hy, rfl⟩ := List.mem_map.1 hx; exact hB.1 y hy) (by rw [e2]; exact hB.2) (by simp; omega) (by rw [e1]; exact h.ids)) ?_)
  rintro v w2 ⟨ks, h1, h2, h3, h4⟩
  rw [e1] at h1
  exact hK _ _ ⟨ks, h1, h2, h3.base_le hc.size, hc.trans0 h4⟩

/-- A child whose silence is told anew. -/
def Kid.wait (n : Int) (x : Kid) : Kid := { x with quiet := n }
def Kt.wait (T : Kt) (id n : Int) : Kt := { T with kids := T.kids.map fun x => if x.id = id then x.wait n else x }
theorem wait_map {β : Type} (n : Int) (f : Kid → β) (hf : ∀ x, f (x.wait n) = f x) (l : List Kid) (id : Int) : (l.map fun x => if x.id = id then x.wait n else x).map f = l.map f := by
  rw [List.map_map]
  apply List.map_congr_left
  intro x _
  simp only [Function.comp]
  split
  · exact hf x
  · rfl
theorem wait_flat (n : Int) (l : List Kid) (id : Int) : (l.map fun x => if x.id = id then x.wait n else x).flatMap Kid.bs = l.flatMap Kid.bs := by
  rw [List.flatMap_def, List.flatMap_def, wait_map _ _ fun _ => rfl]
theorem KBorn.wait {T : Kt} (h : KBorn T) (id n : Int) : KBorn (T.wait id n) := by
  refine ⟨fun x hx => ?_, ?_⟩
  · obtain ⟨y, hy, rfl⟩ := List.mem_map.1 hx
    have := h.1 y hy
    split
    · exact this
    · exact this
  · unfold Kt.wait; dsimp only; rw [wait_map _ _ fun _ => rfl]; exact h.2
theorem KAt.wait {w : World} {k m : Nat} {T : Kt} (h : KAt w k m T) {id n : Int} {x : Kid} (hf : T.find id = some x) (n0 : 0 ≤ n) (n8 : n ≤ 8) :
    KAt (setBlk w x.b (.cells #[.pointer (some ⟨x.q, 0, none⟩), .int .i64 n] 93)) k m (T.wait id n) := by
  obtain ⟨hx, hid⟩ := Kt.find_mem hf
  have hne := h.m_ne
  have hnx := hne.2 x hx
  have hb := (h.each x hx).hb
  have hq := (h.each x hx).hq
  have lb := lt_of_heap hb
  have hc : Chg [x.b] w (setBlk w x.b (.cells #[.pointer (some ⟨x.q, 0, none⟩), .int .i64 n] 93)) := (Chg.refl _ _).set _ _ (by simp)
  refine ⟨hc.keep h.hk (by simp; omega), ?_, ?_, ?_, ?_, h.room0, h.room1, ?_⟩
  · have := hc.keep h.hm (by simp; omega)
    unfold Kt.wait
    dsimp only
    rw [wait_map _ _ fun _ => rfl]
    exact this
  · intro y hy
    obtain ⟨y0, hy0, rfl⟩ := List.mem_map.1 hy
    by_cases he : y0.id = id
    · rw [if_pos he]
      have e : y0 = x := h.uniq hy0 hx (he.trans hid.symm)
      subst e
      have hxx := h.each y0 hx
      have hn1 : y0.bs.Nodup := by
        have := h.flatN
        obtain ⟨l1, l2, e⟩ := List.append_of_mem hx
        rw [e] at this
        simp only [List.flatMap_append, List.flatMap_cons] at this
        exact ((List.nodup_append.1 (List.nodup_append.1 this).2.1).1)
      simp [Kid.bs] at hn1
      exact ⟨(by unfold Kid.wait; simp -dsimp (disch := first | omega | (simp only [go_sem, seval]; first | done | omega)) only [go_sem, seval]), hxx.hq.chg hc (by simp; omega) (by simp; omega), hxx.id0, hxx.id1, n0, n8⟩
    · rw [if_neg he]
      have ho := h.other hx hy0 (by omega) x.b (by simp [Kid.bs])
      simp [Kid.bs] at ho
      exact (h.each y0 hy0).chg hc (by simp; omega) (by simp; omega) (by simp; omega)
  · unfold Kt.wait; dsimp only; rw [wait_flat]; exact h.apart
  · unfold Kt.wait; dsimp only; rw [wait_map _ _ fun _ => rfl]; exact h.ids
  · have := h.fits
    simpa [Kt.wait] using this
theorem erase_ne {l : List Kid} (hn : (l.map Kid.id).Nodup) {id : Int} {y : Kid} (hy : y ∈ l.eraseP fun x => x.id == id) : y.id ≠ id := by
  induction l with
  | nil => simp at hy
  | cons z l ih =>
    rw [List.map_cons, List.nodup_cons] at hn
    by_cases h : z.id = id
    · rw [List.eraseP_cons_of_pos (by simpa using h)] at hy
      intro e
      exact hn.1 (List.mem_map.2 ⟨y, hy, by omega⟩)
    · rw [List.eraseP_cons_of_neg (by simpa using h)] at hy
      rcases List.mem_cons.1 hy with rfl | hy'
      · exact h
      · exact ih hn.2 hy'
theorem KAt.gone {w w' : World} {k m : Nat} {T : Kt} (h : KAt w k m T) {id : Int} {x : Kid} (hf : T.find id = some x) (hc : Chg [x.b, m] w w') (hm' : w'.heap[m]? = some (.map (ents .i64 ((T.kids.eraseP fun x => x.id == id).map Kid.ent)) T.clock)) : KAt w' k m (T.drop id) := by
  obtain ⟨hx, hid⟩ := Kt.find_mem hf
  have hne := h.m_ne
  have hnx := hne.2 x hx
  refine ⟨hc.keep h.hk (by simp; omega), hm', ?_, ?_, ?_, h.room0, h.room1, ?_⟩
  · intro y hy
    have hy' := List.mem_of_mem_eraseP hy
    have hyid := erase_ne h.ids hy
    have ho := h.other hx hy' (by omega) x.b (by simp [Kid.bs])
    simp [Kid.bs] at ho
    have := hne.2 y hy'
    exact (h.each y hy').chg hc (by simp; omega) (by simp; omega) (by simp; omega)
  · exact h.apart.sublist (List.Sublist.cons_cons _ (List.Sublist.cons_cons _ (sub_flatMap _ List.eraseP_sublist)))
  · exact h.ids.sublist (List.eraseP_sublist.map _)
  · have := h.fits
    have h2 : (T.kids.eraseP fun x => x.id == id).length ≤ T.kids.length := List.eraseP_sublist.length_le
    show (((T.kids.eraseP fun x => x.id == id).length : Nat) : Int) ≤ T.room
    omega

theorem find_of_mem {T : Kt} {id : Int} (h : id ∈ T.kids.map Kid.id) : ∃ x, T.find id = some x := by
  obtain ⟨x, hx, rfl⟩ := List.mem_map.1 h
  cases hf : T.find x.id with
  | some y => exact ⟨y, rfl⟩
  | none =>
    have := List.find?_eq_none.1 hf x hx
    simp at this
theorem drop_bs {T : Kt} {k m : Nat} {id : Int} : ∀ b ∈ (T.drop id).bs k m, b ∈ T.bs k m := by
  intro b hb
  simp only [Kt.bs, Kt.drop, List.mem_cons, List.mem_flatMap] at hb ⊢
  rcases hb with h | h | ⟨x, hx, h⟩
  · exact .inl h
  · exact .inr (.inl h)
  · exact .inr (.inr ⟨x, List.mem_of_mem_eraseP hx, h⟩)
theorem wait_bs {T : Kt} {k m : Nat} {id n : Int} : (T.wait id n).bs k m = T.bs k m := by
  unfold Kt.bs Kt.wait; dsimp only; rw [wait_flat]
theorem tick_c {w : World} {k m : Nat} {T : Kt} (h : KAt w k m T) (hB : KBorn T) : Calls Try.prog 53 #[.pointer (some ⟨k, 0, none⟩)] w
    (retK fun _ w' => ∃ T', KAt w' k m T' ∧ KBorn T' ∧ T'.room = T.room ∧ Chg (T.bs k m) w w' ∧ ∀ b ∈ T'.bs k m, b ∈ T.bs k m) := by
  have hf := h.fits
  have hr := h.room1
  have hlt := h.lt
  apply kids_Kids_Tick_link
  intro K hK
  unfold kids_Kids_Tick
  refine OpX.call kids_Kids_IDs_b rfl (Calls.ret (ids_c h hB) ?_)
  rintro v w1 ⟨ks, hp, -, ho, hc1⟩
  obtain ⟨a, cap, rfl, -, -⟩ := ho.form
  have hkl : ks.length = T.kids.length := by rw [hp.length_eq]; simp
  simp -dsimp (disch := first | omega | (simp only [go_sem, seval]; first | done | omega)) only [go_sem, seval]
  have hsz1 := hc1.size
  refine Loop2.st (fun s : Value × List Int × Nat × Kt => s.1) (fun s => .int .i64 s.2.2.1)
    (fun s w' => s.2.2.1 ≤ ks.length ∧ KAt w' k m s.2.2.2 ∧ KBorn s.2.2.2 ∧ s.2.2.2.room = T.room ∧ Chg (T.bs k m) w1 w' ∧ (∀ b ∈ s.2.2.2.bs k m, b ∈ T.bs k m) ∧ Ox w1.heap.size w' 3 1 intF s.1 s.2.1 ∧ s.2.1.length ≤ s.2.2.1 ∧ ∀ j (hj : j < ks.length), s.2.2.1 ≤ j → ks[j] ∈ s.2.2.2.kids.map Kid.id)
    (fun s => ks.length - s.2.2.1) (.slice none 0 0, [], 0, T) rfl rfl ⟨by simp, h.chg0 hc1, hB, rfl, Chg.refl _ _, fun b hb => hb, Ox.nil _ _ _ _ _, by simp, fun j hj _ => hp.mem_iff.1 (List.getElem_mem hj)⟩ ?_
  rintro next ⟨v, gl, i, S⟩ w2 hn ⟨hi, hS, hSB, hSr, hc2, hSb, hov, hgl, hmem⟩
  dsimp only at hi hS hSB hSr hSb hov hgl hmem ⊢
  simp -dsimp (disch := first | omega | (simp only [go_sem, seval]; first | done | omega)) only [go_sem, seval]
  refine BrW.dec (fun h1 => ?_) (fun h1 => ?_)
  · have hik : i < ks.length := by omega
    refine Join1.cut (fun v' w' => ∃ gl' S', KAt w' k m S' ∧ KBorn S' ∧ S'.room = T.room ∧ Chg (T.bs k m) w1 w' ∧ (∀ b ∈ S'.bs k m, b ∈ T.bs k m) ∧ Ox w1.heap.size w' 3 1 intF v' gl' ∧ gl'.length ≤ i + 1 ∧ ∀ j (hj : j < ks.length), i + 1 ≤ j → ks[j] ∈ S'.kids.map Kid.id) ?_ ?_
    · have ho2 := ho.low hc2 (fun x hx => hlt x hx)
      obtain ⟨a2, cap2, hv2, -, hs2, -⟩ := ho2.form
      rw [Value.slice.injEq] at hv2
      obtain ⟨rfl, -, rfl⟩ := hv2
      obtain ⟨b, o, rfl, hb, hcell⟩ := hs2.get1 (g := fun n => .int .i64 n) (fun _ => rfl) (List.getElem?_eq_getElem hik)
      obtain ⟨x, hf2⟩ := find_of_mem (hmem i hik (Nat.le_refl _))
      generalize hid : ks[i] = id at hcell hf2
      obtain ⟨hxm, hxid⟩ := Kt.find_mem hf2
      have hkk := hS.hk
      have hmm := hS.hm
      have hxo := hS.each x hxm
      have hxb := hxo.hb
      have hlx := lt_of_heap hxb
      have hx0 := hxo.q0
      have hx8 := hxo.q1
      have hnx := hS.m_ne.2 x hxm
      have hne := hS.m_ne.1
      have hfe : lfind (S.kids.map Kid.ent) id = some (.pointer (some ⟨x.b, 0, none⟩)) := by
        rw [find_ents]; unfold Kt.find at hf2; rw [hf2]; rfl
      have hxS : x.b ∈ T.bs k m := hSb _ (by simp only [Kt.bs, List.mem_cons, List.mem_flatMap, Kid.bs]; exact .inr (.inr ⟨x, hxm, .inl rfl⟩))
      have hmS : m ∈ T.bs k m := by simp [Kt.bs]
      have hnext : ∀ j (hj : j < ks.length), i + 1 ≤ j → ks[j] ≠ id := by
        intro j hj hij he
        rw [← hid] at he
        have hnd : ks.Nodup := hp.nodup_iff.2 h.ids
        have := (List.pairwise_iff_getElem.1 hnd) i j hik hj (by omega)
        exact this he.symm
      simp -dsimp (disch := first | omega | (simp only [go_sem, seval]; first | done | omega)) only [go_sem, seval, hcell, hkk, hmm, hfe, hxb, Option.getD_some]
      refine BrW.dec (fun h2 => ?_) (fun h2 => ?_)
      · have hc3 : Chg [x.b] w2 (setBlk w2 x.b (.cells #[.pointer (some ⟨x.q, 0, none⟩), .int .i64 (x.quiet + 1)] 93)) := (Chg.refl _ _).set _ _ (by simp)
        have hk3 := hc3.keep hkk (by simp; omega)
        have hm3 := hc3.keep hmm (by simp; omega)
        generalize setBlk w2 x.b _ = w3 at hc3 hk3 hm3 ⊢
        have hlm3 := lt_of_heap hm3
        simp -dsimp (disch := first | omega | (simp only [go_sem, seval]; first | done | omega)) only [go_sem, seval, hk3, hm3, del_ents]
        have hc4 : Chg [m] w3 (setBlk w3 m (.map (ents .i64 ((S.kids.eraseP fun x => x.id == id).map Kid.ent)) S.clock)) := (Chg.refl _ _).set _ _ (by simp)
        have hm4 : (setBlk w3 m (.map (ents .i64 ((S.kids.eraseP fun x => x.id == id).map Kid.ent)) S.clock)).heap[m]? = some (.map (ents .i64 ((S.kids.eraseP fun x => x.id == id).map Kid.ent)) S.clock) := heap_set_same _ _ _ _ rfl hlm3
        have hz4 : (setBlk w3 m (.map (ents .i64 ((S.kids.eraseP fun x => x.id == id).map Kid.ent)) S.clock)).heap.size = w3.heap.size := by simp -dsimp (disch := first | omega | (simp only [go_sem, seval]; first | done | omega)) only [go_sem, seval]
        generalize setBlk w3 m _ = w4 at hc4 hm4 hz4 ⊢
        have hc24 : Chg [x.b, m] w2 w4 := (hc3.mono (by simp)).trans hc4 (by simp)
        have hG := hS.gone hf2 hc24 hm4
        have hsz2 := hc2.size
        have hov4 := hov.low hc24 (by have := hlt _ hxS; have := hlt _ hmS; simp; omega)
        have hca := chg_a1 w4 (.cells #[.int .i64 id] 3)
        have hsa : Sx (w4.alloc (.cells #[.int .i64 id] 3)) (some 3) intF (some ⟨w3.heap.size, 0, none⟩) [id] := Sx.built (c := [.int .i64 id]) (by rw [← hz4]; simp -dsimp (disch := first | omega | (simp only [go_sem, seval]; first | done | omega)) only [go_sem, seval]) rfl
        have hov5 := hov4.chg0 hca
        have hG5 := hG.chg0 hca
        have hc14 := (hc2.trans hc24 (by intro y hy; simp at hy; rcases hy with rfl | rfl; exact .inl hxS; exact .inl hmS)).trans0 hca
        have hz5 : (w4.alloc (.cells #[.int .i64 id] 3)).heap.size = w4.heap.size + 1 := by simp -dsimp (disch := first | omega | (simp only [go_sem, seval]; first | done | omega)) only [go_sem, seval]
        generalize w4.alloc _ = w5 at hca hsa hov5 hG5 hc14 hz5 ⊢
        obtain ⟨a6, c6, rfl, -⟩ := hov5.form
        have hs15 := hc14.size
        refine app_x ty50ap intF_len intF_ok hov5 hsa rfl (by simp; omega) (by omega) (by omega) ?_
        intro v' w6 ho6 hc6 _
        have hge := hov5.own_ge
        refine ⟨gl ++ [id], S.drop id, hG5.chg hc6 ?_ ?_ ?_, hSB.drop id, hSr, hc14.trans hc6 (fun y hy => .inr (hge y hy)), fun b hb => hSb b (drop_bs b hb), ho6, by simp; omega, ?_⟩
        · intro hm; have := hge _ hm; have := hlt k (by simp [Kt.bs]); omega
        · intro hm; have := hge _ hm; have := hlt _ hmS; omega
        · intro y hy
          have hy' := List.mem_of_mem_eraseP hy
          have : ∀ z ∈ y.bs, z < w.heap.size := fun z hz => hlt z (hSb z (by simp only [Kt.bs, List.mem_cons, List.mem_flatMap]; exact .inr (.inr ⟨y, hy', hz⟩)))
          have q1 := this y.b (by simp [Kid.bs])
          have q2 := this y.q (by simp [Kid.bs])
          have q3 := this y.c (by simp [Kid.bs])
          exact ⟨fun hm => by have := hge _ hm; omega, fun hm => by have := hge _ hm; omega, fun hm => by have := hge _ hm; omega⟩
        · intro j hj hij
          obtain ⟨y, hy, hyj⟩ := List.mem_map.1 (hmem j hj (by omega))
          have hne' := hnext j hj hij
          rw [← hyj]
          exact List.mem_map.2 ⟨y, (List.mem_eraseP_of_neg (by simp; omega)).2 hy, rfl⟩
      · refine ⟨gl, S.wait id (x.quiet + 1), hS.wait hf2 (by omega) (by omega), hSB.wait _ _, hSr, hc2.set _ _ (.inl hxS), by rw [wait_bs]; exact hSb, hov.low (F := [x.b]) ((Chg.refl _ _).set _ _ (by simp)) ?_, by omega, ?_⟩
        · simp; have := hlt _ hxS; omega
        · intro j hj hij
          unfold Kt.wait
          dsimp only
          rw [wait_map _ _ fun _ => rfl]
          exact hmem j hj (by omega)
    · rintro v' w3 ⟨gl', S', b1, b2, b3, b4, b5, b6, b7, b8⟩
      simp -dsimp (disch := first | omega | (simp only [go_sem, seval]; first | done | omega)) only [go_sem, seval]
      exact hn (v', gl', i + 1, S') _ ⟨by dsimp only; omega, b1, b2, b3, b4, b5, b6, b7, b8⟩ (by dsimp only; omega)
  · exact hK _ _ ⟨S, hS, hSB, hSr, (hc1.mono (by simp)).trans hc2 (fun x hx => .inl hx), hSb⟩
end Go.Proofs.Ytdjdeahmhenchaa
