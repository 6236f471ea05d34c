/- The contracts of packages runes (Width) and cell: what may be, pairs, rows made right. -/
import Derived.Test.YtdjdeahmhenchaaW5
import Derived.Test.YtdjdeahmhenchaaCel
set_option linter.unusedSimpArgs false
set_option linter.unusedVariables false
namespace Go.Proofs.Ytdjdeahmhenchaa
open Lyc Go


def spanCells (l : List (Int × Int × Int)) : List Value := l.flatMap fun s => [.int .i32 s.1, .int .i32 s.2.1, .int .i64 s.2.2]
theorem span_get (l : List (Int × Int × Int)) (i : Nat) (s : Int × Int × Int) (h : l[i]? = some s) : ((spanCells l).toArray).extract (i * 3) (i * 3 + 3) = #[.int .i32 s.1, .int .i32 s.2.1, .int .i64 s.2.2] := by
  obtain ⟨pre, post, h1, h2⟩ := flat_get (f := fun s : Int × Int × Int => [Value.int .i32 s.1, .int .i32 s.2.1, .int .i64 s.2.2]) (m := 3) (fun _ => rfl) l i s h
  have := aggAt_mid pre [Value.int .i32 s.1, .int .i32 s.2.1, .int .i64 s.2.2] post 0 (0, 0) (i * 3) 3 h2 rfl
  rw [aggAt_cells] at this
  have hs : spanCells l = pre ++ [Value.int .i32 s.1, .int .i32 s.2.1, .int .i64 s.2.2] ++ post := h1
  rw [hs]
  split at this
  · simpa using this
  · simp at this

theorem width_c (w : World) (r : Int) : Calls Try.prog 114 #[.int .i32 r] w (retK fun v w' => v = .int .i64 (width r) ∧ Chg [] w w') := by
  apply runes_Width_link
  intro K hK
  unfold runes_Width
  refine OpX.build (c := #[.int .i32 127, .int .i32 159, .int .i64 0]) (by kernel_rfl) ?_
  refine OpX.build (c := #[.int .i32 768, .int .i32 879, .int .i64 0]) (by kernel_rfl) ?_
  refine OpX.build (c := #[.int .i32 8203, .int .i32 8207, .int .i64 0]) (by kernel_rfl) ?_
  refine OpX.build (c := #[.int .i32 55296, .int .i32 57343, .int .i64 0]) (by kernel_rfl) ?_
  refine OpX.build (c := #[.int .i32 65024, .int .i32 65039, .int .i64 0]) (by kernel_rfl) ?_
  refine OpX.build (c := #[.int .i32 4352, .int .i32 4447, .int .i64 2]) (by kernel_rfl) ?_
  refine OpX.build (c := #[.int .i32 11904, .int .i32 12350, .int .i64 2]) (by kernel_rfl) ?_
  refine OpX.build (c := #[.int .i32 12353, .int .i32 42191, .int .i64 2]) (by kernel_rfl) ?_
  refine OpX.build (c := #[.int .i32 44032, .int .i32 55203, .int .i64 2]) (by kernel_rfl) ?_
  refine OpX.build (c := #[.int .i32 63744, .int .i32 64255, .int .i64 2]) (by kernel_rfl) ?_
  refine OpX.build (c := #[.int .i32 65072, .int .i32 65135, .int .i64 2]) (by kernel_rfl) ?_
  refine OpX.build (c := #[.int .i32 65281, .int .i32 65376, .int .i64 2]) (by kernel_rfl) ?_
  refine OpX.build (c := #[.int .i32 65504, .int .i32 65510, .int .i64 2]) (by kernel_rfl) ?_
  refine OpX.build (c := #[.int .i32 127744, .int .i32 128591, .int .i64 2]) (by kernel_rfl) ?_
  refine OpX.build (c := #[.int .i32 129280, .int .i32 129535, .int .i64 2]) (by kernel_rfl) ?_
  refine OpX.build (c := #[.int .i32 131072, .int .i32 262141, .int .i64 2]) (by kernel_rfl) ?_
  refine OpX.build (c := (spanCells spans).toArray) (by kernel_rfl) ?_
  refine OpX.fresh (z := _) ty151z (by kernel_rfl) (by kernel_rfl) (by kernel_rfl) ?_
  refine Join1.inl ?_
  simp -dsimp (disch := first | omega | (simp only [go_sem, seval]; first | done | omega)) only [go_sem, seval]
  have hc0 := (Chg.refl [] w).alloc (.cells (Value.agg (spanCells spans).toArray).cells 151)
  refine BrW.dec (fun h => ?_) (fun h => ?_)
  · simp -dsimp (disch := first | omega | (simp only [go_sem, seval]; first | done | omega)) only [go_sem, seval]
    exact hK _ _ ⟨by simp [width, h], hc0⟩
  · simp -dsimp (disch := first | omega | (simp only [go_sem, seval]; first | done | omega)) only [go_sem, seval]
    refine BrW.dec (fun h2 => ?_) (fun h2 => ?_)
    · exact hK _ _ ⟨by simp [width, h2], hc0⟩
    · simp -dsimp (disch := first | omega | (simp only [go_sem, seval]; first | done | omega)) only [go_sem, seval]
      refine BrW.dec (fun h3 => ?_) (fun h3 => ?_)
      · exact hK _ _ ⟨by simp [width, h, h2, h3], hc0⟩
      · have hld : aggAt ((w.alloc (.cells (spanCells spans).toArray 151)).heap[w.heap.size]?) 0 48 = some (spanCells spans).toArray := by
          rw [Lyc.heap_alloc_new _ _ _ rfl]
          exact aggAt_mid [] (spanCells spans) [] _ _ 0 48 rfl (by kernel_rfl)
        rw [xL, x_loadA _ _ _ _ _ _ ty151.2.2.2.1, ty151.2.2.2.2.2.1, Option.bind_some, hld, OrK_some]
        refine Loop1.st (fun k : Nat => .int .i64 k) (fun k w' => Chg [] w w' ∧ k ≤ 16 ∧ spanW spans r = spanW (spans.drop k) r) (fun k => 16 - k) 0 rfl ⟨hc0, by omega, rfl⟩ ?_
        rintro next k w' hn ⟨hc, hk, he⟩
        simp -dsimp (disch := first | omega | (simp only [go_sem, seval]; first | done | omega)) only [go_sem, seval]
        refine BrW.dec (fun h4 => ?_) (fun h4 => ?_)
        · have hk' : k < 16 := by omega
          have hs : spans[k]? = some (spans[k]'hk') := List.getElem?_eq_getElem hk'
          have hd : spans.drop k = spans[k]'hk' :: spans.drop (k + 1) := List.drop_eq_getElem_cons hk'
          rw [hd] at he
          generalize spans[k]'hk' = s at hs he
          have hi : idxL Try.prog 151 (spanCells spans).toArray k = some (.agg #[.int .i32 s.1, .int .i32 s.2.1, .int .i64 s.2.2]) := by
            have := span_get _ _ _ hs
            simp [idxL, partL, ty151.2.2.2.2.2.2.1, ty151.2.2.2.2.1, ty150.2.2.2.1, ty150.2.1, h4]
            exact ⟨hk', by simpa using this⟩
          simp -dsimp (disch := first | omega | (simp only [go_sem, seval]; first | done | omega)) only [go_sem, seval, hi]
          have hc1 := hc.alloc (.cells #[.int .i32 s.1, .int .i32 s.2.1, .int .i64 s.2.2] 150)
          refine Join1.inl ?_
          simp -dsimp (disch := first | omega | (simp only [go_sem, seval]; first | done | omega)) only [go_sem, seval]
          refine BrW.dec (fun h5 => ?_) (fun h5 => ?_)
          · simp -dsimp (disch := first | omega | (simp only [go_sem, seval]; first | done | omega)) only [go_sem, seval]
            refine BrW.dec (fun h6 => ?_) (fun h6 => ?_)
            · simp -dsimp (disch := first | omega | (simp only [go_sem, seval]; first | done | omega)) only [go_sem, seval]
              refine hK _ _ ⟨?_, hc1⟩
              simp [width, h, h2, h3, he, spanW, h5, h6]
            · simp -dsimp (disch := first | omega | (simp only [go_sem, seval]; first | done | omega)) only [go_sem, seval]
              refine hn (k + 1) _ ⟨hc1, by omega, ?_⟩ (by omega)
              rw [he]; simp [spanW, h6]
          · simp -dsimp (disch := first | omega | (simp only [go_sem, seval]; first | done | omega)) only [go_sem, seval]
            refine hn (k + 1) _ ⟨hc1, by omega, ?_⟩ (by omega)
            rw [he]; simp [spanW, h5]
        · have hk' : k = 16 := by omega
          subst hk'
          refine hK _ _ ⟨?_, hc⟩
          simp [width, h, h2, h3, he]
          simp [spans, spanW]
theorem check_c (w : World) (c : Cel) : Calls Try.prog 98 #[c.val] w (retK fun v w' => v = .bool c.check ∧ Chg [] w w') := by
  apply cell_Check_link
  intro K hK
  unfold cell_Check
  simp -dsimp (disch := first | omega | (simp only [go_sem, seval]; first | done | omega)) only [go_sem, seval]
  have hc1 := ((Chg.refl [] w).alloc (.cells c.cells.toArray 44)).drew
  refine BrW.dec (fun h => ?_) (fun h => ?_)
  · refine Join1.inl ?_
    simp -dsimp (disch := first | omega | (simp only [go_sem, seval]; first | done | omega)) only [go_sem, seval]
    refine BrW.dec (fun h2 => ?_) (fun h2 => ?_)
    · simp -dsimp (disch := first | omega | (simp only [go_sem, seval]; first | done | omega)) only [go_sem, seval]
      refine hK _ _ ⟨?_, hc1⟩
      simp [Cel.check, Cel.tail, Cel.wide, h, h2]
    · simp -dsimp (disch := first | omega | (simp only [go_sem, seval]; first | done | omega)) only [go_sem, seval]
      refine hK _ _ ⟨?_, hc1⟩
      simp [Cel.check, Cel.tail, Cel.wide, h, h2]
  · simp -dsimp (disch := first | omega | (simp only [go_sem, seval]; first | done | omega)) only [go_sem, seval]
    refine BrW.dec (fun h2 => ?_) (fun h2 => ?_)
    · simp -dsimp (disch := first | omega | (simp only [go_sem, seval]; first | done | omega)) only [go_sem, seval]
      refine OpX.call runes_Width_b rfl (Calls.ret (width_c _ c.r) ?_)
      rintro v w1 ⟨rfl, hc2⟩
      simp -dsimp (disch := first | omega | (simp only [go_sem, seval]; first | done | omega)) only [go_sem, seval]
      refine hK _ _ ⟨?_, hc1.trans0 hc2⟩
      simp [Cel.check, Cel.tail, Cel.wide, h, h2]
    · simp -dsimp (disch := first | omega | (simp only [go_sem, seval]; first | done | omega)) only [go_sem, seval]
      refine OpX.call runes_Width_b rfl (Calls.ret (width_c _ c.r) ?_)
      rintro v w1 ⟨rfl, hc2⟩
      simp -dsimp (disch := first | omega | (simp only [go_sem, seval]; first | done | omega)) only [go_sem, seval]
      refine hK _ _ ⟨?_, hc1.trans0 hc2⟩
      simp [Cel.check, Cel.tail, Cel.wide, h, h2]

theorem tailOf_c (w : World) (c : Cel) : Calls Try.prog 117 #[c.val] w (retK fun v w' => v = c.tailOf.val ∧ Chg [] w w') := by
  apply cell_tailOf_link
  intro K hK
  unfold cell_tailOf
  simp -dsimp (disch := first | omega | (simp only [go_sem, seval]; first | done | omega)) only [go_sem, seval]
  exact hK _ _ ⟨rfl, ((Chg.refl [] w).alloc _).alloc _⟩

theorem single_c (w : World) (c : Cel) : Calls Try.prog 101 #[c.val] w (retK fun v w' => v = .bool c.single ∧ Chg [] w w') := by
  apply cell_single_link
  intro K hK
  unfold cell_single
  simp -dsimp (disch := first | omega | (simp only [go_sem, seval]; first | done | omega)) only [go_sem, seval]
  have hc1 := (Chg.refl [] w).alloc (.cells c.cells.toArray 44)
  refine Join1.inl ?_
  simp -dsimp (disch := first | omega | (simp only [go_sem, seval]; first | done | omega)) only [go_sem, seval]
  refine BrW.dec (fun h => ?_) (fun h => ?_)
  · simp -dsimp (disch := first | omega | (simp only [go_sem, seval]; first | done | omega)) only [go_sem, seval]
    refine OpX.call cell_Check_b rfl (Calls.ret (check_c _ c) ?_)
    rintro v w1 ⟨rfl, hc2⟩
    refine hK _ _ ⟨?_, hc1.trans0 hc2⟩
    simp [Cel.single, Cel.plain, h]
  · simp -dsimp (disch := first | omega | (simp only [go_sem, seval]; first | done | omega)) only [go_sem, seval]
    refine hK _ _ ⟨?_, hc1⟩
    simp [Cel.single, Cel.plain, h]

theorem cblank_c (w : World) : Calls Try.prog 105 #[] w (retK fun v w' => v = Cel.blank.val ∧ Chg [] w w') := by
  apply cell_Blank_link
  intro K hK
  unfold cell_Blank
  simp -dsimp (disch := first | omega | (simp only [go_sem, seval]; first | done | omega)) only [go_sem, seval]
  exact hK _ _ ⟨rfl, (Chg.refl [] w).alloc _⟩

theorem paired_c {w : World} {e : Option TypeId} {a : Option Addr} {l : List Cel} (hs : SxC w e a l) (cap x : Nat) (hx : x < l.length) (hl : l.length ≤ 1000000000) : Calls Try.prog 100 #[.slice a l.length cap, .int .i64 x] w (retK fun v w' => v = .bool (pairAt l x) ∧ Chg [] w w') := by
  obtain ⟨b, o, rfl, hb, h1, -⟩ := SxC.cel hs (List.getElem?_eq_getElem hx)
  have hp : pairAt l x = match l[x + 1]? with | some d => pairOK l[x] d | none => false := by
    unfold pairAt; rw [List.getElem?_eq_getElem hx]; cases l[x + 1]? <;> rfl
  rw [hp]
  generalize l[x] = c at h1 ⊢
  apply cell_paired_link
  intro K hK
  unfold cell_paired
  simp -dsimp (disch := first | omega | (simp only [go_sem, seval]; first | done | omega)) only [go_sem, seval, h1]
  have hc1 := ((Chg.refl [] w).alloc (.cells c.cells.toArray 44)).drew
  refine Join1.inl ?_
  simp -dsimp (disch := first | omega | (simp only [go_sem, seval]; first | done | omega)) only [go_sem, seval]
  refine BrW.dec (fun h => ?_) (fun h => ?_)
  · simp -dsimp (disch := first | omega | (simp only [go_sem, seval]; first | done | omega)) only [go_sem, seval]
    refine OpX.call cell_Check_b rfl (Calls.ret (check_c _ c) ?_)
    rintro v w1 ⟨rfl, hc2⟩
    have hc3 := hc1.trans0 hc2
    refine BrW.by (fun h2 => ?_) (fun h2 => ?_)
    · simp -dsimp (disch := first | omega | (simp only [go_sem, seval]; first | done | omega)) only [go_sem, seval]
      refine BrW.dec (fun h3 => ?_) (fun h3 => ?_)
      · have hx' : x + 1 < l.length := by omega
        have hs1 := hs.chg0 hc3
        obtain ⟨b', o', he, hb', h4, -⟩ := SxC.cel hs1 (List.getElem?_eq_getElem hx')
        cases he
        have h1' := hc2.keep (b := w.heap.size) (o := .cells c.cells.toArray 44) (by simp -dsimp (disch := first | omega | (simp only [go_sem, seval]; first | done | omega)) only [go_sem, seval]) (by simp)
        rw [List.getElem?_eq_getElem hx'] at hK
        dsimp only at hK
        generalize l[x + 1] = d at h4 hK
        have h4' : aggAt w1.heap[b]? (o + ((x : Int) + 1).toNat * 4) 4 = some #[.int .i32 d.r, .int .u8 d.fg.toNat, .int .u8 d.bg.toNat, .int .u8 d.a.toNat] := h4
        simp -dsimp (disch := first | omega | (simp only [go_sem, seval]; first | done | omega)) only [go_sem, seval, h4', h1']
        refine OpX.call cell_tailOf_b rfl (Calls.ret (tailOf_c _ c) ?_)
        rintro v w2 ⟨rfl, hc4⟩
        have h5 : aggAt w2.heap[b]? (o + ((x : Int) + 1).toNat * 4) 4 = some #[.int .i32 d.r, .int .u8 d.fg.toNat, .int .u8 d.bg.toNat, .int .u8 d.a.toNat] := by rw [hc4.same b hb' (by simp)]; exact h4'
        simp -dsimp (disch := first | omega | (simp only [go_sem, seval]; first | done | omega)) only [go_sem, seval, h5, Cel.tailOf]
        refine hK _ _ ⟨?_, hc3.trans0 hc4⟩
        rw [pairOK, h2, Cel.wide, celEq]
        simp [h, Cel.tailOf]
        rfl
      · simp -dsimp (disch := first | omega | (simp only [go_sem, seval]; first | done | omega)) only [go_sem, seval]
        refine hK _ _ ⟨?_, hc3⟩
        rw [List.getElem?_eq_none (by omega)]
    · simp -dsimp (disch := first | omega | (simp only [go_sem, seval]; first | done | omega)) only [go_sem, seval]
      refine hK _ _ ⟨?_, hc3⟩
      cases l[x + 1]? <;> simp [pairOK, h2]
  · simp -dsimp (disch := first | omega | (simp only [go_sem, seval]; first | done | omega)) only [go_sem, seval]
    refine hK _ _ ⟨?_, hc1⟩
    cases l[x + 1]? <;> simp [pairOK, Cel.wide, h]
theorem right_c {w : World} {e : Option TypeId} {a : Option Addr} {l : List Cel} (hs : SxC w e a l) (cap : Nat) (hl : l.length ≤ 1000000000) : Calls Try.prog 95 #[.slice a l.length cap] w (retK fun v w' => v = .bool (right l) ∧ Chg [] w w') := by
  apply cell_Right_link
  intro K hK
  unfold cell_Right
  refine Loop1.st (fun k : Nat => .int .i64 k) (fun k w' => Chg [] w w' ∧ k ≤ l.length ∧ right l = right (l.drop k)) (fun k => l.length - k) 0 rfl ⟨Chg.refl _ _, by omega, rfl⟩ ?_
  rintro next k w' hn ⟨hc, hk, he⟩
  simp -dsimp (disch := first | omega | (simp only [go_sem, seval]; first | done | omega)) only [go_sem, seval]
  refine BrW.dec (fun h1 => ?_) (fun h1 => ?_)
  · have hk' : k < l.length := by omega
    have hst := right_step hk'
    have hs' := hs.chg0 hc
    refine OpX.call cell_paired_b rfl (Calls.ret (paired_c hs' cap k hk' hl) ?_)
    rintro v w1 ⟨rfl, hc1⟩
    refine BrW.by (fun h2 => ?_) (fun h2 => ?_)
    · have := pairAt_lt h2
      simp -dsimp (disch := first | omega | (simp only [go_sem, seval]; first | done | omega)) only [go_sem, seval]
      refine hn (k + 2) _ ⟨hc.trans0 hc1, by omega, ?_⟩ (by omega)
      rw [he, hst, h2]; rfl
    · obtain ⟨b, o, rfl, hb, h3, -⟩ := SxC.cel (hs.chg0 (hc.trans0 hc1)) (List.getElem?_eq_getElem hk')
      simp -dsimp (disch := first | omega | (simp only [go_sem, seval]; first | done | omega)) only [go_sem, seval, h3]
      refine OpX.call cell_single_b rfl (Calls.ret (single_c _ l[k]) ?_)
      rintro v w2 ⟨rfl, hc2⟩
      rw [h2] at hst
      simp only [Bool.false_eq_true, if_false] at hst
      simp -dsimp (disch := first | omega | (simp only [go_sem, seval]; first | done | omega)) only [go_sem, seval]
      refine BrW.by (fun h4 => ?_) (fun h4 => ?_)
      · refine hK _ _ ⟨?_, (hc.trans0 hc1).trans0 hc2⟩
        rw [he, hst]; simp at h4; simp [h4]
      · simp -dsimp (disch := first | omega | (simp only [go_sem, seval]; first | done | omega)) only [go_sem, seval]
        refine hn (k + 1) _ ⟨(hc.trans0 hc1).trans0 hc2, by omega, ?_⟩ (by omega)
        rw [he, hst]; simp at h4; simp [h4]
  · have hk' : k = l.length := by omega
    refine hK _ _ ⟨?_, hc⟩
    rw [he, hk']; simp [right]

theorem mend_c {w : World} {e : Option TypeId} {a : Option Addr} {l : List Cel} (hs : SxC w e a l) (cap : Nat) (hl : l.length ≤ 100000) : Calls Try.prog 65 #[.slice a l.length cap] w (retK fun v w' => Ox w.heap.size w' 44 4 Cel.cells v (mend l) ∧ Chg [] w w') := by
  apply cell_Mend_link
  intro K hK
  unfold cell_Mend
  simp -dsimp (disch := first | omega | (simp only [go_sem, seval]; first | done | omega)) only [go_sem, seval]
  refine make_x (f := Cel.cells) ⟨0, 0, 0, 0⟩ ty45mk Cel.len rfl hl (by omega) (by omega) (Nat.le_refl _) ?_
  intro w1 hw1 ho1
  have hc1 : Chg [] w w1 := by rw [hw1]; exact (Chg.refl _ _).alloc _
  refine copy_x (t := 45) ty45sl Cel.len Cel.ok ho1 (hs.chg0 hc1) rfl (by simp) ?_
  intro w2 ho2 hc3
  have hc2 := own_chg ho1 hc1 hc3
  clear hw1 ho1 hc1 hc3 w1
  refine Loop1.st (fun s : Nat × List Cel => .int .i64 s.1) (fun s w' => Chg [] w w' ∧ Ox w.heap.size w' 44 4 Cel.cells (.slice (some ⟨w.heap.size, 0, none⟩) l.length l.length) s.2 ∧ s.1 ≤ l.length ∧ mend l = s.2.take s.1 ++ mend (l.drop s.1) ∧ s.2.drop s.1 = l.drop s.1 ∧ s.2.length = l.length) (fun s => l.length - s.1) (0, l) rfl ⟨hc2, ho2, by simp, rfl, rfl, rfl⟩ ?_
  rintro next ⟨k, out⟩ w' hn ⟨hc, ho, hk, he, hd, hlen⟩
  dsimp only at ho hk he hd hlen ⊢
  simp -dsimp (disch := first | omega | (simp only [go_sem, seval]; first | done | omega)) only [go_sem, seval]
  refine BrW.dec (fun h1 => ?_) (fun h1 => ?_)
  · have hk' : k < l.length := by omega
    have hst := mend_step hk'
    refine OpX.call cell_paired_b rfl (Calls.ret (paired_c (hs.chg0 hc) cap k hk' (by omega)) ?_)
    rintro v w1 ⟨rfl, hc1⟩
    have hc1' := hc.trans0 hc1
    have ho1 := ho.chg0 hc1
    refine BrW.by (fun h2 => ?_) (fun h2 => ?_)
    · have := pairAt_lt h2
      simp -dsimp (disch := first | omega | (simp only [go_sem, seval]; first | done | omega)) only [go_sem, seval]
      refine hn (k + 2, out) _ ⟨hc1', ho1, by dsimp only; omega, ?_, ?_, hlen⟩ (by dsimp only; omega)
      · dsimp only
        rw [he, hst, h2, ← hd, if_pos rfl, ← List.append_assoc, ← List.take_add]
      · have := congrArg (List.drop 2) hd
        simpa [List.drop_drop] using this
    · rw [h2] at hst
      simp only [Bool.false_eq_true, if_false] at hst
      obtain ⟨b, o, rfl, hb, h3, h4, h5, h6, h7⟩ := SxC.cel (hs.chg0 hc1') (List.getElem?_eq_getElem hk')
      simp -dsimp (disch := first | omega | (simp only [go_sem, seval]; first | done | omega)) only [go_sem, seval, h3]
      refine OpX.call cell_single_b rfl (Calls.ret (single_c _ l[k]) ?_)
      rintro v w2 ⟨rfl, hc2⟩
      have hc2' := hc1'.trans0 hc2
      have ho2 := ho1.chg0 hc2
      simp -dsimp (disch := first | omega | (simp only [go_sem, seval]; first | done | omega)) only [go_sem, seval]
      have hout : out[k]? = some l[k] := by
        have := congrArg (·[0]?) hd
        simpa [List.getElem?_drop, hk'] using this
      refine BrW.by (fun h8 => ?_) (fun h8 => ?_)
      · obtain ⟨b', o', he', hb', h3, h4, h5, h6, h7⟩ := SxC.cel (hs.chg0 hc2') (List.getElem?_eq_getElem hk')
        cases he'
        have hko : k < out.length := by omega
        obtain ⟨g, cp, x', hv, hg, hgl, hput, ho3⟩ := ho2.put Cel.len hko ⟨32, l[k].fg, l[k].bg, 0⟩
        have hv' := hv
        rw [Value.slice.injEq] at hv'
        obtain ⟨hv1, -, -⟩ := hv'
        cases hv1
        have hput' : putAt w2.heap[w.heap.size]? (k * 4) [.int .i32 32, .int .u8 l[k].fg.toNat, .int .u8 l[k].bg.toNat, .int .u8 0] = some x' := hput
        simp -dsimp (disch := first | omega | (simp only [go_sem, seval]; first | done | omega)) only [go_sem, seval, h5, h6, hput']
        refine hn (k + 1, out.set k ⟨32, l[k].fg, l[k].bg, 0⟩) _ ⟨(hc2'.set w.heap.size x' (.inr (Nat.le_refl _))).drew, ho3.chg0 (Chg.refl _ _).drew, by dsimp only; omega, ?_, ?_, by simpa using hlen⟩ (by dsimp only; omega)
        · dsimp only
          rw [he, hst, List.take_add_one, List.take_set_of_le (Nat.le_refl _), List.getElem?_set_self hko]
          simp at h8
          simp [Cel.fix, h8]
        · dsimp only
          rw [List.drop_set_of_lt (by omega)]
          have := congrArg (List.drop 1) hd
          simpa [List.drop_drop] using this
      · simp -dsimp (disch := first | omega | (simp only [go_sem, seval]; first | done | omega)) only [go_sem, seval]
        refine hn (k + 1, out) _ ⟨hc2', ho2, by dsimp only; omega, ?_, ?_, hlen⟩ (by dsimp only; omega)
        · dsimp only
          rw [he, hst, List.take_add_one, hout]
          simp at h8
          simp [Cel.fix, h8]
        · have := congrArg (List.drop 1) hd
          simpa [List.drop_drop] using this
  · have hk' : k = l.length := by omega
    subst hk'
    refine hK _ _ ⟨?_, hc⟩
    rw [he]
    simpa [mend, List.take_of_length_le (Nat.le_of_eq hlen)] using ho
end Go.Proofs.Ytdjdeahmhenchaa
