/- The contract of grid.Lines, for plain characters. -/
import Derived.Test.YtdjdeahmhenchaaGridF
import Derived.Test.YtdjdeahmhenchaaText
set_option linter.unusedSimpArgs false
set_option linter.unusedVariables false
namespace Go.Proofs.Ytdjdeahmhenchaa
open Lyc Go

def strF (s : ByteArray) : List Value := [.string s]
theorem strF_len (s : ByteArray) : (strF s).length = 1 := rfl
theorem strF_ok (s : ByteArray) : okCells (strF s) = true := rfl
def rowText (l : List Cel) : ByteArray := bstr ((trimE (shown l)).map ascB)

theorem glines_c {w : World} {g : Gr} (hg : g.ok) {e : Option TypeId} {a : Option Addr} (hs : SxC w e a g.cs) (cap : Nat) (hcap : g.cs.length ≤ cap) (ha : ∀ y, y < g.h → ∀ r ∈ trimE (shown (g.row y)), asc r) : Calls Try.prog 81 #[g.val a cap] w
    (retK fun v w' => Ox w.heap.size w' 9 1 strF v ((List.range g.h).map fun y => rowText (g.row y)) ∧ Chg [] w w') := by
  obtain ⟨b, o, _, _, _, _, _, rfl, hb0, _⟩ := hs.at_ hg.ne
  have hb0' := lt_of_heap hb0
  clear hb0
  have h0 := hg.h0
  have h1 := hg.h1
  have h2 := hg.w1
  apply grid_Lines_link
  intro K hK
  unfold grid_Lines
  simp -dsimp (disch := first | omega | (simp only [go_sem, seval]; first | done | omega)) only [go_sem, seval, Gr.val]
  have hc0 := chg_a1 w (.cells #[.int .i64 g.w, .int .i64 g.h, .slice (some ⟨b, o, none⟩) g.cs.length cap] 54)
  have hg0 : (w.alloc (.cells #[.int .i64 g.w, .int .i64 g.h, .slice (some ⟨b, o, none⟩) g.cs.length cap] 54)).heap[w.heap.size]? = some (.cells #[.int .i64 g.w, .int .i64 g.h, .slice (some ⟨b, o, none⟩) g.cs.length cap] 54) := by simp -dsimp (disch := first | omega | (simp only [go_sem, seval]; first | done | omega)) only [go_sem, seval]
  generalize w.alloc (.cells #[.int .i64 g.w, .int .i64 g.h, .slice (some ⟨b, o, none⟩) g.cs.length cap] 54) = w0 at hc0 hg0 ⊢
  refine OpX.call grid_whole_b rfl (Calls.ret (whole_c hg (some ⟨b, o, none⟩) cap) ?_)
  rintro v w1 ⟨rfl, hc1⟩
  have hg1 := hc1.keep hg0 (by simp)
  have hlt1 := lt_of_heap hg1
  simp -dsimp (disch := first | omega | (simp only [go_sem, seval]; first | done | omega)) only [go_sem, seval, hg1]
  have hc2 := (hc0.trans0 hc1).alloc (.cells #[.slice none 0 0] 113)
  have hr2 : (w1.alloc (.cells #[.slice none 0 0] 113)).heap[w1.heap.size]? = some (.cells #[.slice none 0 0] 113) := by simp -dsimp (disch := first | omega | (simp only [go_sem, seval]; first | done | omega)) only [go_sem, seval]
  obtain ⟨t3, ht3⟩ : ∃ t3, t3 = w1.heap.size := ⟨_, rfl⟩
  rw [← ht3] at hr2 ⊢
  generalize w1.alloc (.cells #[.slice none 0 0] 113) = w2 at hc2 hr2 ⊢
  refine OpX.call grid_rows_b rfl (Calls.ret (rows_c _ g (some ⟨b, o, none⟩) cap 0 g.h) ?_)
  rintro v w3 ⟨rfl, hB, hc3, hsz⟩
  have hr3 := hc3.keep hr2 (by simp)
  have hc23 := hc2.trans0 hc3
  have hs3 := hs.chg0 hc23
  have hlt2 := lt_of_heap hr2
  have hlt3 := lt_of_heap hr3
  refine rng_rows hg hcap (by omega) (by omega) hB [t3] (by simp; omega)
    (fun y w4 => ∃ v, w4.heap[t3]? = some (.cells #[v] 113) ∧ (∃ a n c, v = .slice a n c) ∧ Ox (w3.heap.size + 2) w4 9 1 strF v ((List.range y).map fun y => rowText (g.row y)))
    (fun _ => False) ?_ ?_ ⟨_, hr3, ⟨_, _, _, rfl⟩, Ox.nil _ _ _ _ _⟩ ?_ ?_ ?_
  · rintro y w4 w5 ⟨v, h1, h2, h3⟩ hc
    exact ⟨v, hc.keep h1 (by simp; omega), h2, h3.low hc (by simp)⟩
  · intro w4 w5 h _
    exact h
  · rintro y kn kr kx w4 hc4 hsz42 ⟨v, hr4, ⟨a4, n4, c4, rfl⟩, ho4⟩ - - hy hkn _
    have hrl := hg.row_len hy
    have hs4 : SxC w4 e (some ⟨b, o + y * g.w * 4, none⟩) (g.row y) := by
      refine Sx.sub (hs3.chg hc4 ?_) Cel.len (y * g.w) g.w _ (.inr (.inr rfl))
      intro b' o' hb' _ hm'
      cases hb'
      simp at hm'
      have := hc0.size
      have := hc1.size
      omega
    have htx := text_asc (hs4.chg0 (Chg.refl _ _).drew) g.w (by omega) (ha y hy)
    rw [hrl] at htx
    have hsz4 := hc4.size
    have hlt4 := lt_of_heap hr4
    simp -dsimp (disch := first | omega | (simp only [go_sem, seval]; first | done | omega)) only [go_sem, seval, hr4, rowV]
    refine OpX.call cell_Text_b rfl (Calls.ret (htx) ?_)
    rintro v5 w5 ⟨rfl, hc5⟩
    have hr5 := hc5.keep (show w4.drew.heap[t3]? = _ from hr4) (by simp)
    have ho5 := (ho4.chg0 (Chg.refl _ _).drew).chg0 hc5
    have hlt5 := lt_of_heap hr5
    have hsz5 : w4.heap.size ≤ w5.heap.size := hc5.size
    have hlow : ∀ x ∈ (Value.slice a4 n4 c4).ownBlock.toList, w3.heap.size + 2 ≤ x := fun x hx => (ho5.lt x (by cases hv : (Value.slice a4 n4 c4).ownBlock <;> simp_all)).1
    simp -dsimp (disch := first | omega | (simp only [go_sem, seval]; first | done | omega)) only [go_sem, seval, hr5]
    refine app_x (f := strF) (l2 := [rowText (g.row y)]) ty113ap strF_len strF_ok (ho5.chg0 (chg_a1 _ _)) (Sx.built (c := strF (rowText (g.row y))) (by simp -dsimp (disch := first | omega | (simp only [go_sem, seval]; first | done | omega)) only [go_sem, seval]; rfl) (by simp)) rfl (by simp; omega) (by omega) (by simp -dsimp (disch := first | omega | (simp only [go_sem, seval]; first | done | omega)) only [go_sem, seval]; omega) ?_
    intro v' w' ho' hc' _
    have hca : Chg (Value.slice a4 n4 c4).ownBlock.toList w5 w' := ((Chg.refl _ w5).alloc _).trans hc' (fun x hx => .inl hx)
    have hr6 := hca.keep hr5 (fun hm => by have := hlow _ hm; omega)
    have hlt6 := lt_of_heap hr6
    obtain ⟨a', cap', rfl, _⟩ := ho'.form
    simp -dsimp (disch := first | omega | (simp only [go_sem, seval]; first | done | omega)) only [go_sem, seval, hr6]
    refine hkn _ (t3 :: (Value.slice a4 n4 c4).ownBlock.toList) (((hc5.low_drew.mono (by simp)).trans hca (fun x hx => .inl (by simp [hx]))).set _ _ (by simp)) (fun x hx => ?_) ⟨_, heap_set_same _ _ _ _ rfl hlt6, ⟨_, _, _, rfl⟩, ?_⟩
    · rcases List.mem_cons.1 hx with rfl | hx
      · exact .inl (by simp)
      · exact .inr (hlow x hx)
    · rw [List.range_succ, List.map_append]
      exact ho'.low ((Chg.refl [t3] _).set _ _ (by simp)) (by simp; omega)
  · rintro y w4 hc4 hd ⟨v, hr4, ⟨a4, n4, c4, rfl⟩, ho4⟩ - h5 h6
    have hyh : y = g.h := by omega
    subst hyh
    simp -dsimp (disch := first | omega | (simp only [go_sem, seval]; first | done | omega)) only [go_sem, seval, hr4]
    refine close_by hd ?_
    refine hK _ _ ⟨?_, ?_⟩
    · have := (ho4.base_le (base' := w.heap.size) (by have := hc23.size; omega))
      refine Ox.chg this (F := [w3.heap.size]) ((Chg.refl _ _).set _ _ (by simp)) ?_
      intro x hx
      have := ho4.lt x hx.symm
      simp; omega
    · have h9 := hc0.size
      have h10 := hc1.size
      have h11 := hc23.size
      exact (hc23.trans hc4 (by simp; omega)).set _ _ (.inr (by omega))
  · intro w4 _ _ h
    exact h.elim
end Go.Proofs.Ytdjdeahmhenchaa
