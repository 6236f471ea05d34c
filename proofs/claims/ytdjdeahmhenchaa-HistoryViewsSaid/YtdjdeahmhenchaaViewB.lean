/- The contracts of package history: View. -/
import Derived.Test.YtdjdeahmhenchaaView
set_option linter.unusedSimpArgs false
set_option linter.unusedVariables false
namespace Go.Proofs.Ytdjdeahmhenchaa
open Lyc Go

/-- A row of a view, which begins at the row 'first' of the history. -/
def viewRow (g : Gr) (L : List (List Cel)) (first y : Nat) : List Cel := if first + y < L.length then mend (L.getD (first + y) []) else g.row (first + y - L.length)

theorem hview_c {w : World} {h : Nat} {H : Hs} (hh : HAt w h H) {g : Gr} (hg : g.ok) (hr : g.right = true) {e : Option TypeId} {a : Option Addr} (hs : SxC w e a g.cs) (cap : Nat) (hcap : g.cs.length ≤ cap) (hrows : ∀ l ∈ H.list, l.length = g.w) (back : Int) :
    Calls Try.prog 40 #[.pointer (some ⟨h, 0, none⟩), g.val a cap, .int .i64 back] w
    (retK fun v w' => GAt w.heap.size w' v (Gr.of g.w g.h (viewRow g H.list (H.list.length - min back.toNat H.list.length))) ∧ Chg [] w w') := by
  have hh1 := hg.h1
  have hw1 := hg.w1
  have hroom := hh.room1
  have hfit := hh.fit
  have hll := H.list_len
  apply history_History_View_link
  intro K hK
  unfold history_History_View
  simp -dsimp (disch := first | omega | (simp only [go_sem, seval]; first | done | omega)) only [go_sem, seval, Gr.val]
  refine OpX.gen fun w0 hw0 => ?_
  have hc0 : Chg [] w w0 := by rw [hw0]; exact chg_a2 _ _ _
  have hg0 : w0.heap[w.heap.size]? = some (.cells #[.int .i64 g.w, .int .i64 g.h, .slice a g.cs.length cap] 54) := by rw [hw0]; simp -dsimp (disch := first | omega | (simp only [go_sem, seval]; first | done | omega)) only [go_sem, seval]
  have ho0 : w0.heap[w.heap.size + 1]? = some (.cells #[.int .i64 0, .int .i64 0, .slice none 0 0] 54) := by rw [hw0]; simp -dsimp (disch := first | omega | (simp only [go_sem, seval]; first | done | omega)) only [go_sem, seval]
  clear hw0
  refine OpX.call grid_Check_b rfl (Calls.ret (gcheck_c hg (hs.chg0 hc0) cap hcap) ?_)
  rintro v w1 ⟨rfl, hc1⟩
  rw [hr]
  simp -dsimp (disch := first | omega | (simp only [go_sem, seval]; first | done | omega)) only [go_sem, seval]
  refine OpX.call history_History_Len_b rfl (Calls.ret (hlen_c ((hh.chg0 hc0).chg0 hc1)) ?_)
  rintro v w2 ⟨rfl, rfl⟩
  simp -dsimp (disch := first | omega | (simp only [go_sem, seval]; first | done | omega)) only [go_sem, seval]
  have hc02 := hc0.trans0 hc1
  have hg2 := hc1.keep hg0 (by simp)
  have ho2 := hc1.keep ho0 (by simp)
  have hlo := lt_of_heap ho2
  have hm : (g.w : Int) * (g.h : Int) = (g.cs.length : Int) := by rw [hg.len]; simp
  have hle := hg.le
  refine Join1.cut (fun v w' => Chg [] w2 w' ∧ ∃ t9 sb, v = .pointer (some ⟨t9, 0, none⟩) ∧ w2.heap.size ≤ t9 ∧ w'.heap[t9]? = some (.cells #[.int .i64 g.w, .int .i64 g.h, .slice (some ⟨sb, 0, none⟩) 0 g.cs.length] 54) ∧ Ox w2.heap.size w' 44 4 Cel.cells (.slice (some ⟨sb, 0, none⟩) 0 g.cs.length) []) ?_ ?_
  · simp -dsimp (disch := first | omega | (simp only [go_sem, seval]; first | done | omega)) only [go_sem, seval, hg2, hm]
    refine ⟨?_, ?_⟩
    · refine make_0 (f := Cel.cells) ty45mk rfl (by omega) (by omega) (by omega) (by omega) (show w2.heap.size ≤ w2.drew.heap.size from Nat.le_refl _) ?_
      intro w3 hw3 ho3
      have hc3 : Chg [] w2 w3 := by rw [hw3]; exact (Chg.refl _ _).drew.alloc _
      rw [Int.toNat_natCast] at ho3 ⊢
      have hg3 := hc3.keep hg2 (by simp)
      have hz3 : w3.heap.size = w2.heap.size + 1 := by rw [hw3]; simp -dsimp (disch := first | omega | (simp only [go_sem, seval]; first | done | omega)) only [go_sem, seval]
      clear hw3
      simp -dsimp (disch := first | omega | (simp only [go_sem, seval]; first | done | omega)) only [go_sem, seval, hg3]
      exact ⟨hc3.alloc _, w3.heap.size, _, rfl, by omega, Lyc.heap_alloc_new _ _ _ rfl, ho3.chg0 (chg_a1 _ _)⟩
    · have hca := (Chg.refl [] w2).drew.alloc (.cells #[.int .i64 0, .int .i64 0, .slice none 0 0] 54)
      refine make_0 (f := Cel.cells) ty45mk rfl (by omega) (by omega) (by omega) (by omega) (show w2.heap.size ≤ _ from hca.size) ?_
      intro w3 hw3 ho3
      have hc3 : Chg [] w2 w3 := by rw [hw3]; exact hca.alloc _
      rw [Int.toNat_natCast] at ho3 ⊢
      have hg3 := hc3.keep hg2 (by simp)
      have ht3 : w3.heap[w2.heap.size]? = some (.cells #[.int .i64 0, .int .i64 0, .slice none 0 0] 54) := by rw [hw3]; simp -dsimp (disch := first | omega | (simp only [go_sem, seval]; first | done | omega)) only [go_sem, seval]
      have hz : ((w2.alloc (.cells #[.int .i64 0, .int .i64 0, .slice none 0 0] 54)).drew).heap.size = w2.heap.size + 1 := by simp -dsimp (disch := first | omega | (simp only [go_sem, seval]; first | done | omega)) only [go_sem, seval]
      have hl3 := lt_of_heap ht3
      clear hw3
      rw [hz] at ho3
      simp -dsimp (disch := first | omega | (simp only [go_sem, seval]; first | done | omega)) only [go_sem, seval, hg3, ht3]
      refine ⟨hc3.set _ _ (.inr (Nat.le_refl _)), w2.heap.size, _, rfl, Nat.le_refl _, heap_set_same _ _ _ _ rfl hl3, ho3.chg (F := [w2.heap.size]) ((Chg.refl _ _).set _ _ (by simp)) fun b hb => ?_⟩
      simp [Value.ownBlock] at hb
      simp; omega
  · rintro v w3 ⟨hc3, t9, sb, rfl, h9, ht9, ho3⟩
    have efst : (H.list.length : Int) - min (max back 0) H.list.length = ((H.list.length - min back.toNat H.list.length : Nat) : Int) := by omega
    have ewr : IntKind.i64.wrap ((H.list.length : Int) - min (max back 0) H.list.length) = ((H.list.length - min back.toNat H.list.length : Nat) : Int) := by rw [wrap_i64 _ (by omega) (by omega), efst]
    have hfl : H.list.length - min back.toNat H.list.length ≤ H.list.length := by omega
    generalize H.list.length - min back.toNat H.list.length = fst at *
    simp -dsimp (disch := first | omega | (simp only [go_sem, seval]; first | done | omega)) only [go_sem, seval, efst]
    rw [ewr]
    have hvl : ∀ y, y < g.h → (viewRow g H.list fst y).length = g.w := by
      intro y hy
      unfold viewRow
      split
      · rename_i h1
        rw [mend_len, List.getD_eq_getElem?_getD, List.getElem?_eq_getElem h1]
        exact hrows _ (List.getElem_mem _)
      · exact hg.row_len (by omega)
    have hrl := fun k (hk : k ≤ g.h) => rowsOf_len (fun y (hy : y < k) => hvl y (by omega))
    have hg3 := hc3.keep hg2 (by simp)
    refine Loop1.st (fun s : Nat × Value => .int .i64 ((fst + s.1 : Nat) : Int)) (fun s w' => s.1 ≤ g.h ∧ Chg [] w2 w' ∧ w'.heap[t9]? = some (.cells #[.int .i64 g.w, .int .i64 g.h, s.2] 54) ∧ Ox w2.heap.size w' 44 4 Cel.cells s.2 (rowsOf (viewRow g H.list fst) s.1)) (fun s => g.h - s.1) (0, _) (by simp) ⟨by simp, hc3, ht9, ho3⟩ ?_
    rintro next ⟨k, v⟩ w4 hn ⟨hk, hc4, ht4, ho4⟩
    dsimp only at hk ht4 ho4 ⊢
    have hg4 := hc4.keep hg2 (by simp)
    simp -dsimp (disch := first | omega | (simp only [go_sem, seval]; first | done | omega)) only [go_sem, seval, hg4]
    refine BrW.dec (fun h1 => ?_) (fun h1 => ?_)
    · refine Join0.cut (fun w' => ∃ v', Chg [] w2 w' ∧ w'.heap[t9]? = some (.cells #[.int .i64 g.w, .int .i64 g.h, v'] 54) ∧ Ox w2.heap.size w' 44 4 Cel.cells v' (rowsOf (viewRow g H.list fst) (k + 1))) ?_ ?_
      · have key : ∀ (w5 : World) (r : Value), Chg [] w4 w5 → Ox w4.heap.size w5 44 4 Cel.cells r (viewRow g H.list fst k) → ∃ a' n' c', r = .slice a' n' c' ∧ OpX Try.prog (.call { callee := .builtin .append, args := #[.const v, .const r], argTypes := #[45, 45] }) 45 (fun t55 => qF 54 (Value.pointer (some ⟨t9, 0, none⟩)) 2 fun t56 => xS 45 t56 t55 (fun w' => ∃ v', Chg [] w2 w' ∧ w'.heap[t9]? = some (.cells #[.int .i64 g.w, .int .i64 g.h, v'] 54) ∧ Ox w2.heap.size w' 44 4 Cel.cells v' (rowsOf (viewRow g H.list fst) (k + 1)))) w5 := by
          intro w5 r hc5 hr5
          obtain ⟨a', c', rfl, _, hs5, -, -⟩ := hr5.form
          refine ⟨a', _, c', rfl, ?_⟩
          have ho5 := ho4.chg0 hc5
          have ht5 := hc5.keep ht4 (by simp)
          have hc25 := hc4.trans0 hc5
          have h6 := Nat.mul_le_mul hk hw1
          refine app_x ty45ap Cel.len Cel.ok ho5 hs5 rfl (by rw [hrl k hk, hvl k (by omega)]; omega) (by omega) (by have := hc25.size; omega) ?_
          intro v6 w6 ho6 hc6 _
          have hof := ho5.off ht5 rfl
          have ht6 := hc6.keep ht5 (by intro hx; apply hof; simpa using hx)
          have hl6 := lt_of_heap ht6
          obtain ⟨a6, c6, rfl, -⟩ := ho6.form
          have hc26 : Chg [] w2 w6 := hc25.trans hc6 fun x hx => .inr (ho5.own_ge x hx)
          simp -dsimp (disch := first | omega | (simp only [go_sem, seval]; first | done | omega)) only [go_sem, seval, ht6]
          exact ⟨_, hc26.set _ _ (.inr h9), rfl, ho6.chg (F := [t9]) ((Chg.refl _ _).set _ _ (by simp)) fun b hb hm => by
            simp at hm; subst hm
            exact ho6.off ht6 rfl hb.symm⟩
        simp -dsimp (disch := first | omega | (simp only [go_sem, seval]; first | done | omega)) only [go_sem, seval, hg4]
        refine BrW.dec (fun h2 => ?_) (fun h2 => ?_)
        · simp -dsimp (disch := first | omega | (simp only [go_sem, seval]; first | done | omega)) only [go_sem, seval, ht4, hg4]
          have e1 : (((fst + k : Nat) : Int) - (H.list.length : Int)) = ((fst + k - H.list.length : Nat) : Int) := by omega
          rw [e1]
          have hcl := grow_c hg ((hs.chg0 hc02).chg0 (hc4.drew)) cap hcap (y := fst + k - H.list.length) (by omega)
          refine OpX.call grid_Row_b rfl (Calls.ret (hcl) ?_)
          rintro r w5 ⟨ho5, hc5⟩
          have ev : viewRow g H.list fst k = g.row (fst + k - H.list.length) := by unfold viewRow; rw [if_neg (by omega)]
          rw [← ev] at ho5
          have hc45 : Chg [] w4 w5 := hc5.low_drew
          have ht5 := hc45.keep ht4 (by simp)
          obtain ⟨a', n', c', rfl, hk5⟩ := key w5 r hc45 ho5
          simp -dsimp (disch := first | omega | (simp only [go_sem, seval]; first | done | omega)) only [go_sem, seval, ht5]
          exact hk5
        · have hi : fst + k < H.list.length := by omega
          have hh4 := ((hh.chg0 hc02).chg0 hc4)
          simp -dsimp (disch := first | omega | (simp only [go_sem, seval]; first | done | omega)) only [go_sem, seval]
          refine OpX.call history_ring_api_Cell_at_b rfl (Calls.ret (hat_some hh4 (fst + k) hi) ?_)
          rintro u w5 ⟨r, rfl, hr5, hs5, hm5, hc5⟩
          have hrl5 : r.cs.length = g.w := hrows _ (List.mem_of_getElem? hr5)
          have hg5 := hc5.keep hg4 (by simp)
          have ht5 := hc5.keep ht4 (by simp)
          simp -dsimp (disch := first | omega | (simp only [go_sem, seval]; first | done | omega)) only [go_sem, seval, ht5, hg5, Rw.val]
          have hf := fitted_c (hs5.chg0 (Chg.refl _ _).drew) r.cap (by omega)
          rw [hrl5] at hf ⊢
          refine OpX.call history_fitted_b rfl (Calls.ret (hf) ?_)
          rintro r6 w6 ⟨ho6, hc6⟩
          have ev : viewRow g H.list fst k = mend r.cs := by unfold viewRow; rw [if_pos hi, List.getD_eq_getElem?_getD, hr5]; rfl
          rw [← ev] at ho6
          have hc46 : Chg [] w4 w6 := hc5.trans0 hc6.low_drew
          have ht6 := hc46.keep ht4 (by simp)
          obtain ⟨a', n', c', rfl, hk6⟩ := key w6 r6 hc46 (ho6.base_le hc5.size)
          simp -dsimp (disch := first | omega | (simp only [go_sem, seval]; first | done | omega)) only [go_sem, seval, ht6]
          exact hk6
      · rintro w5 ⟨v', a1, a2, a3⟩
        simp -dsimp (disch := first | omega | (simp only [go_sem, seval]; first | done | omega)) only [go_sem, seval]
        exact hn (k + 1, v') _ ⟨by dsimp only; omega, a1, a2, a3⟩ (by dsimp only; omega)
    · have hk' : k = g.h := by omega
      subst hk'
      obtain ⟨a', c', rfl, hcl, hs5, -, hne⟩ := ho4.form
      have hn0 : rowsOf (viewRow g H.list fst) g.h ≠ [] := by
        intro h0
        have := hrl g.h (Nat.le_refl _)
        rw [h0] at this
        have h2 := Nat.mul_pos hg.h0 hg.w0
        simp at *
        omega
      obtain ⟨nb, cap', sp, hv, -, h7, h8⟩ := ho4.blk hn0
      rw [Value.slice.injEq] at hv
      obtain ⟨rfl, -, rfl⟩ := hv
      have ho4' := hc4.keep ho2 (by simp)
      have hl4 := lt_of_heap ho4'
      simp -dsimp (disch := first | omega | (simp only [go_sem, seval]; first | done | omega)) only [go_sem, seval, ht4, ho4']
      refine hK _ _ ⟨⟨nb, c', sp, rfl, hcl, by omega, ?_⟩, ?_⟩
      · simp -dsimp (disch := first | omega | (simp only [go_sem, seval]; first | done | omega)) only [go_sem, seval]
        exact h8
      · exact (hc02.trans0 hc4).set _ _ (.inr (by simp))
end Go.Proofs.Ytdjdeahmhenchaa
