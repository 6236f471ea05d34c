/- The laws of layer 10, walked: letters, the chapter's example, HistoryOrder, HistoryRoom. -/
import Derived.Test.YtdjdeahmhenchaaHist
import Derived.Test.YtdjdeahmhenchaaText
import Derived.Test.YtdjdeahmhenchaaRef5
import Derived.Test.YtdjdeahmhenchaaArgs
set_option linter.unusedSimpArgs false
set_option linter.unusedVariables false
namespace Go.Proofs.Ytdjdeahmhenchaa
open Lyc Go

def chars10 : List Int := [97, 98, 99, 32, 19968, 97, 120, 32]
def ch10 (n : Int) : Int := chars10.getD (bitV .and .i64 n 7).toNat 0
def letter (n : Int) : List Cel := mkCel (ch10 n) ⟨0, 0, 0, 0⟩
theorem ch10_get (n : Int) : (chars10.map (Value.int .i32))[(bitV .and .i64 n 7).toNat]? = some (.int .i32 (ch10 n)) := by
  have h := and_bd n 7 (by omega) (by omega)
  unfold ch10
  generalize bitV .and .i64 n 7 = x at h
  have : x.toNat < chars10.length := by show x.toNat < 8; omega
  rw [List.getElem?_map, List.getD_eq_getElem?_getD, List.getElem?_eq_getElem this]
  rfl
theorem ch10_bd (n : Int) : -2147483648 ≤ ch10 n ∧ ch10 n ≤ 2147483647 := by
  have h : ∀ i, i < 8 → -2147483648 ≤ chars10.getD i 0 ∧ chars10.getD i 0 ≤ 2147483647 := by decide
  have h2 := and_bd n 7 (by omega) (by omega)
  exact h _ (by omega)
theorem letter_len (n : Int) : (letter n).length ≤ 2 := by
  unfold letter mkCel
  split
  · simp
  · split <;> simp
/-- The row that numbers stand for. -/
def lets (l : List Int) : List Cel := (l.take 10).flatMap letter
theorem lets_len (l : List Int) : (lets l).length ≤ 20 := by
  have : ∀ k : List Int, (k.flatMap letter).length ≤ 2 * k.length := by
    intro k
    induction k with
    | nil => simp
    | cons x k ih => have := letter_len x; simp only [List.flatMap_cons, List.length_append, List.length_cons]; omega
  have h := this (l.take 10)
  have : (l.take 10).length ≤ 10 := by simp; omega
  unfold lets; omega

theorem letters_c {w : World} {e : Option TypeId} {a : Option Addr} {l : List Int} (hs : Sx w e intF a l) (cap : Nat) : Calls Try.prog 34 #[.slice a l.length cap] w (retK fun v w' => Ox w.heap.size w' 44 4 Cel.cells v (lets l) ∧ Chg [] w w') := by
  apply lyceumlaw10_letters_link
  intro K hK
  unfold lyceumlaw10_letters
  refine OpX.build (c := (chars10.map (Value.int .i32)).toArray) (by kernel_rfl) ?_
  refine OpX.fresh ty104z (by kernel_rfl) (by kernel_rfl) (by kernel_rfl) ?_
  generalize hw0 : w.alloc _ = w0
  have hc0 : Chg [] w w0 := by rw [← hw0]; exact (Chg.refl _ _).alloc _
  have hh0 : w0.heap[w.heap.size]? = some (.cells (chars10.map (Value.int .i32)).toArray 104) := by rw [← hw0]; exact Lyc.heap_alloc_new _ _ _ rfl
  refine Loop2.st (fun s : Nat × Value => s.2) (fun s : Nat × Value => .int .i64 s.1) (fun s w' => s.1 ≤ l.length ∧ s.1 ≤ 10 ∧ Ox w.heap.size w' 44 4 Cel.cells s.2 ((l.take s.1).flatMap letter) ∧ Chg [] w w' ∧ w'.heap[w.heap.size]? = some (.cells (chars10.map (Value.int .i32)).toArray 104)) (fun s => l.length - s.1) (0, .slice none 0 0) rfl rfl ⟨by simp, by simp, Ox.nil _ _ _ _ _, hc0, hh0⟩ ?_
  rintro next ⟨k, v⟩ w' hn ⟨hk, hk10, ho, hc, hh⟩
  dsimp only at hk hk10 ho ⊢
  refine Join1.inl ?_
  have hlow := ho
  simp -dsimp (disch := first | omega | (simp only [go_sem, seval]; first | done | omega)) only [go_sem, seval]
  refine BrW.dec (fun h1 => ?_) (fun h1 => ?_)
  · simp -dsimp (disch := first | omega | (simp only [go_sem, seval]; first | done | omega)) only [go_sem, seval]
    refine BrW.dec (fun h2 => ?_) (fun h2 => ?_)
    · have hk' : k < l.length := by omega
      obtain ⟨b, o, rfl, hb, hcell⟩ := (hs.chg0 hc).get1 (g := fun n => .int .i64 n) (fun _ => rfl) (List.getElem?_eq_getElem hk')
      have hi := and_bd l[k] 7 (by omega) (by omega)
      have hch := ch10_get l[k]
      have hbd := ch10_bd l[k]
      have hlen : ((l.take k).flatMap letter).length ≤ 20 := by
        have := lets_len (l.take k)
        simpa [lets, List.take_take, Nat.min_eq_right (show k ≤ 10 from hk10)] using this
      simp -dsimp (disch := first | omega | (simp only [go_sem, seval]; first | done | omega)) only [go_sem, seval, hcell, hh, hch]
      refine OpX.call lyceumref05_Make_b rfl (Calls.ret (rmake_c _ (ch10 l[k]) ⟨0, 0, 0, 0⟩ hbd.1 hbd.2) ?_)
      rintro v1 w1 ⟨ho1, hc1⟩
      obtain ⟨a1, cap1, rfl, -, hs1, -⟩ := ho1.form
      obtain ⟨a2, cap2, rfl, -⟩ := ho.form
      refine app_x (l2 := mkCel (ch10 l[k]) ⟨0, 0, 0, 0⟩) ty45ap Cel.len Cel.ok (ho.chg0 hc1) hs1 rfl ?_ (by omega) ?_ ?_
      · have := letter_len l[k]; unfold letter at this; omega
      · have := hc1.size; have := hc.size; omega
      · intro v' w2 ho2 hc2 hat
        simp -dsimp (disch := first | omega | (simp only [go_sem, seval]; first | done | omega)) only [go_sem, seval]
        refine hn (k + 1, v') _ ⟨by dsimp only; omega, by dsimp only; omega, ?_, own_chg (ho.chg0 hc1) (hc.trans0 hc1) hc2, ?_⟩ (by dsimp only; omega)
        · dsimp only
          rw [take_next hk', List.flatMap_append, List.flatMap_cons, List.flatMap_nil, List.append_nil]
          exact ho2
        · refine hc2.keep (hc1.keep hh (by simp)) fun hm => ?_
          simp only [Value.ownBlock] at hm
          have ht := ho.chg0 hc1
          obtain ⟨hl1, hh9⟩ := ht
          rcases hh9 with ⟨hv, -⟩ | ⟨g, cap', cur, hv, -, hg, -⟩
          · rw [Value.slice.injEq] at hv; rw [hv.1] at hm; simp at hm
          · rw [Value.slice.injEq] at hv; rw [hv.1] at hm; simp at hm
            rw [← hm, hc1.keep hh (by simp)] at hg
            simp at hg
    · refine hK _ _ ⟨?_, hc⟩
      have : k = 10 := by omega
      subst this
      exact ho
  · simp -dsimp (disch := first | omega | (simp only [go_sem, seval]; first | done | omega)) only [go_sem, seval]
    have hk' : k = l.length := by omega
    subst hk'
    refine hK _ _ ⟨?_, hc⟩
    rw [List.take_length] at ho
    unfold lets
    rw [List.take_of_length_le hk10]
    exact ho
theorem awake10_c (w : World) : Calls Try.prog 29 #[] w (retK fun v w' => v = .bool true ∧ Chg [] w w') := by
  have e0 : lets [0] = [⟨97, 0, 0, 0⟩] := by decide +kernel
  have e1 : lets [1] = [⟨98, 0, 0, 0⟩] := by decide +kernel
  have e2 : lets [2] = [⟨99, 0, 0, 0⟩] := by decide +kernel
  apply lyceumlaw10_awake_link
  intro K hK
  unfold lyceumlaw10_awake
  refine OpX.call history_New_b rfl (Calls.ret (hnew_c w 2) ?_)
  rintro v w1 ⟨H, rfl, hH, hblk, hlist, hroom, hc1⟩
  have hr : H.room = 2 := by rw [hroom]; rfl
  have hlt := hH.blk_lt w.heap.size (by simp)
  simp -dsimp (disch := first | omega | (simp only [go_sem, seval]; first | done | omega)) only [go_sem, seval]
  have hd2 := hc1.alloc (.cells #[.int .i64 0] 3)
  have hs0 : Sx (w1.alloc (.cells #[.int .i64 0] 3)) (some 3) intF (some ⟨w1.heap.size, 0, none⟩) [0] := Sx.built (c := [.int .i64 0]) (by simp -dsimp (disch := first | omega | (simp only [go_sem, seval]; first | done | omega)) only [go_sem, seval]) rfl
  have hH2 := hH.chg0 ((Chg.refl [] w1).alloc (.cells #[.int .i64 0] 3))
  have hle2 : w1.heap.size ≤ (w1.alloc (.cells #[.int .i64 0] 3)).heap.size := by simp -dsimp (disch := first | omega | (simp only [go_sem, seval]; first | done | omega)) only [go_sem, seval]; omega
  generalize w1.alloc (.cells #[.int .i64 0] 3) = w2 at hd2 hs0 hH2 hle2 ⊢
  refine OpX.call lyceumlaw10_letters_b rfl (Calls.ret (letters_c hs0 1) ?_)
  rintro v w3 ⟨ho3, hc3⟩
  rw [e0] at ho3
  obtain ⟨a3, cap3, rfl, -, hs3, -⟩ := ho3.form
  have hd3 := hd2.trans0 hc3
  have hH3 := hH2.chg0 hc3
  simp -dsimp (disch := first | omega | (simp only [go_sem, seval]; first | done | omega)) only [go_sem, seval]
  have hd4 := hd3.alloc (.cells #[.int .i64 1] 3)
  have hs1 : Sx (w3.alloc (.cells #[.int .i64 1] 3)) (some 3) intF (some ⟨w3.heap.size, 0, none⟩) [1] := Sx.built (c := [.int .i64 1]) (by simp -dsimp (disch := first | omega | (simp only [go_sem, seval]; first | done | omega)) only [go_sem, seval]) rfl
  have hH4 := hH3.chg0 ((Chg.refl [] w3).alloc (.cells #[.int .i64 1] 3))
  have hs34 := hs3.chg0 ((Chg.refl [] w3).alloc (.cells #[.int .i64 1] 3))
  generalize w3.alloc (.cells #[.int .i64 1] 3) = w4 at hd4 hs1 hH4 hs34 ⊢
  refine OpX.call lyceumlaw10_letters_b rfl (Calls.ret (letters_c hs1 1) ?_)
  rintro v w5 ⟨ho5, hc5⟩
  rw [e1] at ho5
  obtain ⟨a5, cap5, rfl, -, hs5, -⟩ := ho5.form
  have hd5 := hd4.trans0 hc5
  have hH5 := hH4.chg0 hc5
  have hs35 := hs34.chg0 hc5
  simp -dsimp (disch := first | omega | (simp only [go_sem, seval]; first | done | omega)) only [go_sem, seval]
  have hd6 := hd5.alloc (.cells #[.int .i64 2] 3)
  have hs2 : Sx (w5.alloc (.cells #[.int .i64 2] 3)) (some 3) intF (some ⟨w5.heap.size, 0, none⟩) [2] := Sx.built (c := [.int .i64 2]) (by simp -dsimp (disch := first | omega | (simp only [go_sem, seval]; first | done | omega)) only [go_sem, seval]) rfl
  have hH6 := hH5.chg0 ((Chg.refl [] w5).alloc (.cells #[.int .i64 2] 3))
  have hs36 := hs35.chg0 ((Chg.refl [] w5).alloc (.cells #[.int .i64 2] 3))
  have hs56 := hs5.chg0 ((Chg.refl [] w5).alloc (.cells #[.int .i64 2] 3))
  generalize w5.alloc (.cells #[.int .i64 2] 3) = w6 at hd6 hs2 hH6 hs36 hs56 ⊢
  refine OpX.call lyceumlaw10_letters_b rfl (Calls.ret (letters_c hs2 1) ?_)
  rintro v w7 ⟨ho7, hc7⟩
  rw [e2] at ho7
  obtain ⟨a7, cap7, rfl, -, hs7, -⟩ := ho7.form
  have hd7 := hd6.trans0 hc7
  have hH7 := hH6.chg0 hc7
  have hs37 := hs36.chg0 hc7
  have hs57 := hs56.chg0 hc7
  simp -dsimp (disch := first | omega | (simp only [go_sem, seval]; first | done | omega)) only [go_sem, seval]
  generalize hrs : ([⟨a3, cap3, [⟨97, 0, 0, 0⟩]⟩, ⟨a5, cap5, [⟨98, 0, 0, 0⟩]⟩, ⟨a7, cap7, [⟨99, 0, 0, 0⟩]⟩] : List Rw) = rs
  have hlt7 := hH7.blk_lt w.heap.size (by simp)
  have hal := (Chg.refl [] w7).alloc (.cells #[.slice a3 1 cap3, .slice a5 1 cap5, .slice a7 1 cap7] 45)
  have hs8 : Sx (w7.alloc (.cells #[.slice a3 1 cap3, .slice a5 1 cap5, .slice a7 1 cap7] 45)) (some 45) Rw.f (some ⟨w7.heap.size, 0, none⟩) rs := Sx.built (c := [.slice a3 1 cap3, .slice a5 1 cap5, .slice a7 1 cap7]) (by simp -dsimp (disch := first | omega | (simp only [go_sem, seval]; first | done | omega)) only [go_sem, seval]) (by rw [← hrs]; rfl)
  have hd8 := hd7.trans0 hal
  have hH8 := hH7.chg0 hal
  have hr8 : ∀ r ∈ rs, SxC (w7.alloc (.cells #[.slice a3 1 cap3, .slice a5 1 cap5, .slice a7 1 cap7] 45)) (some 44) r.a r.cs := by
    rw [← hrs]
    intro r hr
    simp only [List.mem_cons, List.not_mem_nil, or_false] at hr
    rcases hr with rfl | rfl | rfl
    · exact hs37.chg0 hal
    · exact hs57.chg0 hal
    · exact hs7.chg0 hal
  have hl8 : ∀ r ∈ rs, r.cs.length ≤ 100000 := by
    rw [← hrs]
    intro r hr
    simp only [List.mem_cons, List.not_mem_nil, or_false] at hr
    rcases hr with rfl | rfl | rfl <;> simp
  have hn8 : rs.length = 3 := by rw [← hrs]; rfl
  generalize w7.alloc _ = w8 at hs8 hd8 hH8 hr8 ⊢
  subst hrs
  refine OpX.call history_History_Push_b rfl (Calls.ret (push_c hH8 hs8 (fun b o hb => by rw [hblk]; simp at hb ⊢; omega) hr8 hl8 (by omega) 3) ?_)
  rintro v w9 ⟨H9, hH9, hroom9, hlist9, hc9, hblk9⟩
  have hlast : H9.list = [[⟨98, 0, 0, 0⟩], [⟨99, 0, 0, 0⟩]] := by
    rw [hlist9, hlist, hr]
    show pushAll 2 [] [[⟨97, 0, 0, 0⟩], [⟨98, 0, 0, 0⟩], [⟨99, 0, 0, 0⟩]] = _
    decide +kernel
  have hd9 : Chg [] w w9 := hd8.trans hc9 (by rw [hblk]; simp)
  refine Join1.inl ?_
  refine OpX.call history_History_Len_b rfl (Calls.ret (hlen_c hH9) ?_)
  rintro v w10 ⟨rfl, rfl⟩
  rw [hlast]
  simp -dsimp (disch := first | omega | (simp only [go_sem, seval]; first | done | omega)) only [go_sem, seval]
  refine OpX.call history_History_Row_b rfl (Calls.ret (hrow_some hH9 0 (by rw [hlast]; simp) (by rw [hlast]; simp)) ?_)
  rintro v w11 ⟨r, hr0, ho11, hc11⟩
  rw [hlast] at hr0
  cases hr0
  obtain ⟨a11, cap11, rfl, -, hs11, -⟩ := ho11.form
  refine OpX.call cell_Text_b rfl (Calls.ret (text_asc hs11 cap11 (by simp) (by decide +kernel)) ?_)
  rintro v w12 ⟨rfl, hc12⟩
  have et1 : bstr ((trimE (shown [⟨98, 0, 0, 0⟩])).map ascB) = bstr [98] := by decide +kernel
  rw [et1]
  have el1 : (({ data := #[98] } : ByteArray)).toList = [98] := bstr_toList [98]
  simp -dsimp (disch := first | omega | (simp only [go_sem, seval]; first | done | omega)) only [go_sem, seval, el1]
  have hH12 := (hH9.chg0 hc11).chg0 hc12
  refine OpX.call history_History_Row_b rfl (Calls.ret (hrow_some hH12 1 (by rw [hlast]; simp) (by rw [hlast]; simp)) ?_)
  rintro v w13 ⟨r, hr0, ho13, hc13⟩
  rw [hlast] at hr0
  cases hr0
  obtain ⟨a13, cap13, rfl, -, hs13, -⟩ := ho13.form
  refine OpX.call cell_Text_b rfl (Calls.ret (text_asc hs13 cap13 (by simp) (by decide +kernel)) ?_)
  rintro v w14 ⟨rfl, hc14⟩
  have et2 : bstr ((trimE (shown [⟨99, 0, 0, 0⟩])).map ascB) = bstr [99] := by decide +kernel
  rw [et2]
  have el2 : (({ data := #[99] } : ByteArray)).toList = [99] := bstr_toList [99]
  simp -dsimp (disch := first | omega | (simp only [go_sem, seval]; first | done | omega)) only [go_sem, seval, el2]
  exact hK _ _ ⟨by simp, (((hd9.trans0 hc11).trans0 hc12).trans0 hc13).trans0 hc14⟩
theorem pushed_drop (n : Nat) (l : List (List Cel)) (x : List Cel) : pushed n (l.drop (l.length - n)) x = (l ++ [x]).drop (l.length + 1 - n) := by
  unfold pushed
  by_cases h0 : n = 0
  · subst h0; simp
  · rw [if_neg h0]
    by_cases h : l.length < n
    · have e1 : l.length - n = 0 := by omega
      have e2 : l.length + 1 - n = 0 := by omega
      rw [e1, e2]; simp [h]
    · have e1 : l.length + 1 - n = (l.length - n) + 1 := by omega
      have e2 : (l.drop (l.length - n)).length = n := by simp; omega
      rw [e2, if_neg (by omega), e1, List.tail_drop, List.drop_append_of_le_length (by omega)]
def row10 (i : Nat) : List Cel := [⟨48 + i, 0, 0, 0⟩]
def rows10 (k : Nat) : List (List Cel) := (List.range k).map row10
theorem mend_row10 {i : Nat} (h : i < 51) : mend (row10 i) = row10 i := by
  have : ∀ i, i < 51 → mend (row10 i) = row10 i := by decide +kernel
  exact this i h
theorem emod_pos (a : Int) (n : Int) (hn : 0 < n) : (a.tmod n + n).tmod n = (a.tmod n + n) % n := by
  have := tmod_bd a n hn
  exact Int.tmod_eq_emod_of_nonneg (by omega)

theorem order10_c {w : World} (room many : Int) : Calls Try.prog 7 #[.int .i64 room, .int .i64 many] w (retK fun v w' => v = .bool true ∧ Chg [] w w') := by
  apply lyceumlaw10_HistoryOrder_link
  intro K hK
  unfold lyceumlaw10_HistoryOrder
  refine OpX.call lyceumlaw10_awake_b rfl (Calls.ret (awake10_c w) ?_)
  rintro v w1 ⟨rfl, hc1⟩
  have hr := tmod_bd room 21 (by omega)
  have hm := tmod_bd many 51 (by omega)
  have er := emod_pos room 21 (by omega)
  have em := emod_pos many 51 (by omega)
  simp -dsimp (disch := first | omega | (simp only [go_sem, seval]; first | done | omega)) only [go_sem, seval]
  obtain ⟨n, hn⟩ : ∃ n : Nat, (room.tmod 21 + 21).tmod 21 = n := ⟨((room.tmod 21 + 21).tmod 21).toNat, by omega⟩
  obtain ⟨m, hm'⟩ : ∃ m : Nat, (many.tmod 51 + 51).tmod 51 = m := ⟨((many.tmod 51 + 51).tmod 51).toNat, by omega⟩
  rw [hn] at er ⊢
  rw [hm'] at em ⊢
  have hn20 : n ≤ 20 := by omega
  have hm50 : m ≤ 50 := by omega
  clear er em hn hm' hr hm room many
  refine OpX.call history_New_b rfl (Calls.ret (hnew_c w1 n) ?_)
  rintro v w2 ⟨H, rfl, hH, hblk, hlist, hroom, hc2⟩
  have hr : H.room = n := by rw [hroom]; omega
  have hd2 := hc1.trans0 hc2
  have hsz := hc1.size
  simp -dsimp (disch := first | omega | (simp only [go_sem, seval]; first | done | omega)) only [go_sem, seval]
  refine Loop1.st (fun s : Nat × Hs => .int .i64 s.1) (fun s w' => s.1 ≤ m ∧ HAt w' w1.heap.size s.2 ∧ s.2.room = n ∧ s.2.list = (rows10 s.1).drop (s.1 - n) ∧ (∀ b ∈ s.2.blk, w.heap.size ≤ b) ∧ Chg [] w w') (fun s => m - s.1) (0, H) rfl ⟨by simp, hH, hr, by rw [hlist]; simp [rows10], by rw [hblk]; simp, hd2⟩ ?_
  rintro next ⟨k, G⟩ w' hnx ⟨hk, hG, hGr, hGl, hGb, hc⟩
  dsimp only at hk hG hGr hGl hGb ⊢
  simp -dsimp (disch := first | omega | (simp only [go_sem, seval]; first | done | omega)) only [go_sem, seval]
  refine BrW.dec (fun h1 => ?_) (fun h1 => ?_)
  · have hlt := hG.blk_lt
    simp -dsimp (disch := first | omega | (simp only [go_sem, seval]; first | done | omega)) only [go_sem, seval]
    have hal1 := (Chg.refl [] w').alloc (.cells #[.int .i32 (48 + (k : Int)), .int .u8 0, .int .u8 0, .int .u8 0] 44)
    have hal := hal1.alloc (.cells #[.slice (some ⟨w'.heap.size, 0, none⟩) 1 1] 45)
    have hs2 : Sx ((w'.alloc (.cells #[.int .i32 (48 + (k : Int)), .int .u8 0, .int .u8 0, .int .u8 0] 44)).alloc (.cells #[.slice (some ⟨w'.heap.size, 0, none⟩) 1 1] 45)) (some 45) Rw.f (some ⟨w'.heap.size + 1, 0, none⟩) [⟨some ⟨w'.heap.size, 0, none⟩, 1, row10 k⟩] := Sx.built (c := [.slice (some ⟨w'.heap.size, 0, none⟩) 1 1]) (by simp -dsimp (disch := first | omega | (simp only [go_sem, seval]; first | done | omega)) only [go_sem, seval]) rfl
    have hs1 : SxC ((w'.alloc (.cells #[.int .i32 (48 + (k : Int)), .int .u8 0, .int .u8 0, .int .u8 0] 44)).alloc (.cells #[.slice (some ⟨w'.heap.size, 0, none⟩) 1 1] 45)) (some 44) (some ⟨w'.heap.size, 0, none⟩) (row10 k) := Sx.built (c := [.int .i32 (48 + (k : Int)), .int .u8 0, .int .u8 0, .int .u8 0]) (by simp -dsimp (disch := first | omega | (simp only [go_sem, seval]; first | done | omega)) only [go_sem, seval]) rfl
    have hG2 := hG.chg0 hal
    generalize (w'.alloc _).alloc _ = w3 at hal hs2 hs1 hG2 ⊢
    refine OpX.call history_History_Push_b rfl (Calls.ret (push_c hG2 hs2 (fun b o hb hm => by simp only [Option.some.injEq, Addr.mk.injEq] at hb; have := hlt b hm; omega) (by intro r hr; simp at hr; subst hr; exact hs1) (by intro r hr; simp at hr; subst hr; simp [row10]) (by simp) 1) ?_)
    rintro v w4 ⟨G', hG', hGr', hGl', hc4, hGb'⟩
    simp -dsimp (disch := first | omega | (simp only [go_sem, seval]; first | done | omega)) only [go_sem, seval]
    refine hnx (k + 1, G') _ ⟨by dsimp only; omega, hG', hGr'.trans hGr, ?_, ?_, ?_⟩ (by dsimp only; omega)
    · dsimp only
      rw [hGl', hGl, hGr]
      show pushed n _ (mend (row10 k)) = _
      rw [mend_row10 (by omega)]
      have hlen : (rows10 k).length = k := by simp [rows10]
      have := pushed_drop n (rows10 k) (row10 k)
      rw [hlen] at this
      rw [this]
      simp [rows10, List.range_succ]
    · intro b hb
      dsimp only at hb
      rcases hGb' b hb with h7 | h7
      · exact hGb b h7
      · have := hc.size; have := hal.size; omega
    · refine (hc.trans0 hal).trans hc4 fun x hx => ?_
      right
      rcases List.mem_cons.1 hx with rfl | hx
      · exact hsz
      · exact hGb x hx
  · have hkm : k = m := by omega
    subst hkm
    have hlen : G.list.length = min n k := by rw [hGl]; simp [rows10]; omega
    refine OpX.call history_History_Len_b rfl (Calls.ret (hlen_c hG) ?_)
    rintro v w4 ⟨rfl, rfl⟩
    have hmn : min (n : Int) (k : Int) = (G.list.length : Int) := by rw [hlen]; omega
    simp -dsimp (disch := first | omega | (simp only [go_sem, seval]; first | done | omega)) only [go_sem, seval, hmn]
    have hget : ∀ i, i < G.list.length → G.list[i]? = some (row10 (k - G.list.length + i)) := by
      intro i hi
      conv => lhs; rw [hGl]
      have hi' : (k - n) + i < k := by omega
      simp only [rows10, List.getElem?_drop, List.getElem?_map]
      rw [List.getElem?_range hi']
      simp only [Option.map_some]
      congr 2
      omega
    have hrow1 : ∀ r ∈ G.list, r.length ≤ 100000 := by
      intro r hr
      obtain ⟨i, hi, rfl⟩ := List.mem_iff_getElem.1 hr
      have := hget i hi
      rw [List.getElem?_eq_getElem hi] at this
      rw [Option.some.inj this]
      simp [row10]
    refine Loop1.st (fun j : Nat => .int .i64 j) (fun j w5 => j ≤ G.list.length ∧ HAt w5 w1.heap.size G ∧ Chg [] w w5) (fun j => G.list.length - j) 0 rfl ⟨by omega, hG, hc⟩ ?_
    rintro next2 j w5 hnx2 ⟨hj, hG5, hc5⟩
    refine OpX.call history_History_Len_b rfl (Calls.ret (hlen_c hG5) ?_)
    rintro v w6 ⟨rfl, rfl⟩
    simp -dsimp (disch := first | omega | (simp only [go_sem, seval]; first | done | omega)) only [go_sem, seval]
    refine BrW.dec (fun h2 => ?_) (fun h2 => ?_)
    · have hj' : j < G.list.length := by omega
      refine OpX.call history_History_Row_b rfl (Calls.ret (hrow_some hG5 j hj' hrow1) ?_)
      rintro v w7 ⟨r, hr0, ho7, hc7⟩
      rw [hget j hj'] at hr0
      cases hr0
      obtain ⟨a7, cap7, rfl, -, hs7, -⟩ := ho7.form
      obtain ⟨b, o, rfl, hb, -, hcell, -⟩ := SxC.cel hs7 (i := 0) rfl
      simp only [Nat.zero_mul, Nat.add_zero] at hcell
      refine Join1.inl ?_
      have hl1 : (row10 (k - G.list.length + j)).length = 1 := rfl
      rw [hl1]
      simp -dsimp (disch := first | omega | (simp only [go_sem, seval]; first | done | omega)) only [go_sem, seval, hcell]
      refine OpX.call history_History_Len_b rfl (Calls.ret (hlen_c ((hG5.chg0 hc7).chg0 (Chg.refl _ _).drew)) ?_)
      rintro v w8 ⟨rfl, rfl⟩
      have hv : (48 : Int) + k - (G.list.length : Int) + j = 48 + ((k - G.list.length + j : Nat) : Int) := by omega
      simp -dsimp (disch := first | omega | (simp only [go_sem, seval]; first | done | omega)) only [go_sem, seval, hcell, hv]
      refine hnx2 (j + 1) _ ⟨by omega, (hG5.chg0 hc7).chg0 (Chg.refl _ _).drew, (hc5.trans0 hc7).drew⟩ (by omega)
    · have hj' : j = G.list.length := by omega
      refine Join1.inl ?_
      simp -dsimp (disch := first | omega | (simp only [go_sem, seval]; first | done | omega)) only [go_sem, seval]
      refine OpX.call history_History_Len_b rfl (Calls.ret (hlen_c hG5) ?_)
      rintro v w7 ⟨rfl, rfl⟩
      refine OpX.call history_History_Row_b rfl (Calls.ret (hrow_none hG5 _ (.inr (Int.le_refl _))) ?_)
      rintro v w8 ⟨rfl, hc8⟩
      simp -dsimp (disch := first | omega | (simp only [go_sem, seval]; first | done | omega)) only [go_sem, seval]
      refine OpX.call history_History_Row_b rfl (Calls.ret (hrow_none (hG5.chg0 hc8) (-1) (.inl (by omega))) ?_)
      rintro v w9 ⟨rfl, hc9⟩
      simp -dsimp (disch := first | omega | (simp only [go_sem, seval]; first | done | omega)) only [go_sem, seval]
      exact hK _ _ ⟨by simp, (hc5.trans0 hc8).trans0 hc9⟩
theorem mend_letters : ∀ l : List Int, mend (l.flatMap letter) = l.flatMap letter := by
  have one : ∀ n, letter n = [] ∨ (∃ c, letter n = [c] ∧ c.single = true ∧ c.wide = false) ∨ (∃ c d, letter n = [c, d] ∧ pairOK c d = true) := by
    intro n
    have h : ∀ i, i < 8 → mkCel (chars10.getD i 0) ⟨0, 0, 0, 0⟩ = [] ∨ (∃ c, mkCel (chars10.getD i 0) ⟨0, 0, 0, 0⟩ = [c] ∧ c.single = true ∧ c.wide = false) ∨ (∃ c d, mkCel (chars10.getD i 0) ⟨0, 0, 0, 0⟩ = [c, d] ∧ pairOK c d = true) := by
      intro i hi
      have hcase : i = 0 ∨ i = 1 ∨ i = 2 ∨ i = 3 ∨ i = 4 ∨ i = 5 ∨ i = 6 ∨ i = 7 := by omega
      rcases hcase with rfl | rfl | rfl | rfl | rfl | rfl | rfl | rfl
      · exact .inr (.inl ⟨⟨97, 0, 0, 0⟩, by decide +kernel, by decide +kernel, by decide +kernel⟩)
      · exact .inr (.inl ⟨⟨98, 0, 0, 0⟩, by decide +kernel, by decide +kernel, by decide +kernel⟩)
      · exact .inr (.inl ⟨⟨99, 0, 0, 0⟩, by decide +kernel, by decide +kernel, by decide +kernel⟩)
      · exact .inr (.inl ⟨⟨32, 0, 0, 0⟩, by decide +kernel, by decide +kernel, by decide +kernel⟩)
      · exact .inr (.inr ⟨⟨19968, 0, 0, 64⟩, ⟨0, 0, 0, 128⟩, by decide +kernel, by decide +kernel⟩)
      · exact .inr (.inl ⟨⟨97, 0, 0, 0⟩, by decide +kernel, by decide +kernel, by decide +kernel⟩)
      · exact .inr (.inl ⟨⟨120, 0, 0, 0⟩, by decide +kernel, by decide +kernel, by decide +kernel⟩)
      · exact .inr (.inl ⟨⟨32, 0, 0, 0⟩, by decide +kernel, by decide +kernel, by decide +kernel⟩)
    have h2 := and_bd n 7 (by omega) (by omega)
    exact h _ (by omega)
  intro l
  induction l with
  | nil => rfl
  | cons n l ih =>
    rw [List.flatMap_cons]
    rcases one n with h | ⟨c, h, hs, hw⟩ | ⟨c, d, h, hp⟩
    · rw [h]; exact ih
    · rw [h]
      show mend (c :: l.flatMap letter) = c :: l.flatMap letter
      cases hl : l.flatMap letter with
      | nil => simp [mend, Cel.fix, hs]
      | cons d r =>
        have hp : pairOK c d = false := by simp [pairOK, hw]
        rw [hl] at ih
        simp [mend, hp, Cel.fix, hs, ih]
    · rw [h]
      show mend (c :: d :: l.flatMap letter) = c :: d :: l.flatMap letter
      simp [mend, hp, ih]

theorem room10_c {w : World} (room : Int) {a : Option Addr} {l : List IRow} (cap : Nat) (hs : Sx w none IRow.f a l) (hl : l.length ≤ maxLen) (hr : ∀ r ∈ l, Sx w none intF r.a r.zs ∧ r.zs.length ≤ maxLen) : Calls Try.prog 8 #[.int .i64 room, .slice a l.length cap] w (retK fun v w' => v = .bool true ∧ Chg [] w w') := by
  have hml : maxLen ≤ 1000000000000 * 1000000000 := by simp [maxLen]
  apply lyceumlaw10_HistoryRoom_link
  intro K hK
  unfold lyceumlaw10_HistoryRoom
  refine OpX.call lyceumlaw10_awake_b rfl (Calls.ret (awake10_c w) ?_)
  rintro v w1 ⟨rfl, hc1⟩
  refine OpX.call history_New_b rfl (Calls.ret (hnew_c w1 room) ?_)
  rintro v w2 ⟨H, rfl, hH, hblk, hlist, hroom, hc2⟩
  have hd2 := hc1.trans0 hc2
  have hsz := hc1.size
  obtain ⟨n, hn⟩ : ∃ n : Nat, min (max room 0) 500 = (n : Int) := ⟨(min (max room 0) 500).toNat, by omega⟩
  have hrm : H.room = n := by rw [hroom, hn]; omega
  have hn500 : n ≤ 500 := by omega
  simp -dsimp (disch := first | omega | (simp only [go_sem, seval]; first | done | omega)) only [go_sem, seval]
  rw [hn]
  refine Loop1.st (fun s : Nat × Hs => .int .i64 s.1) (fun s w' => s.1 ≤ l.length ∧ s.1 ≤ 30 ∧ HAt w' w1.heap.size s.2 ∧ s.2.room = n ∧ s.2.list.length = min n s.1 ∧ (∀ r ∈ s.2.list, r.length ≤ 100000) ∧ (∀ b ∈ s.2.blk, w.heap.size ≤ b) ∧ Chg [] w w') (fun s => l.length - s.1) (0, H) rfl ⟨by simp, by simp, hH, hrm, by rw [hlist]; simp, by rw [hlist]; simp, by rw [hblk]; simp, hd2⟩ ?_
  rintro next ⟨k, G⟩ w' hnx ⟨hk, hk30, hG, hGr, hGl, hG1, hGb, hc⟩
  dsimp only at hk hk30 hG hGr hGl hG1 hGb ⊢
  refine Join1.inl ?_
  simp -dsimp (disch := first | omega | (simp only [go_sem, seval]; first | done | omega)) only [go_sem, seval]
  refine BrW.dec (fun h1 => ?_) (fun h1 => ?_)
  · simp -dsimp (disch := first | omega | (simp only [go_sem, seval]; first | done | omega)) only [go_sem, seval]
    refine BrW.dec (fun h2 => ?_) (fun h2 => ?_)
    · have hk' : k < l.length := by omega
      have hlt := hG.blk_lt
      obtain ⟨b, o, rfl, hb, hcell⟩ := (hs.chg0 hc).get1 (g := fun r => .slice r.a r.zs.length r.cap) (fun _ => rfl) (List.getElem?_eq_getElem hk')
      obtain ⟨hrs, -⟩ := hr _ (List.getElem_mem hk')
      generalize l[k] = r at hcell hrs
      simp -dsimp (disch := first | omega | (simp only [go_sem, seval]; first | done | omega)) only [go_sem, seval, hcell]
      refine OpX.call lyceumlaw10_letters_b rfl (Calls.ret (letters_c (hrs.chg0 hc) r.cap) ?_)
      rintro v w3 ⟨ho3, hc3⟩
      obtain ⟨a3, cap3, rfl, -, hs3, -⟩ := ho3.form
      have hll := lets_len r.zs
      have hd3 := hc.trans0 hc3
      simp -dsimp (disch := first | omega | (simp only [go_sem, seval]; first | done | omega)) only [go_sem, seval]
      have hal := (Chg.refl [] w3).alloc (.cells #[.slice a3 (lets r.zs).length cap3] 45)
      have hs4 : Sx (w3.alloc (.cells #[.slice a3 (lets r.zs).length cap3] 45)) (some 45) Rw.f (some ⟨w3.heap.size, 0, none⟩) [⟨a3, cap3, lets r.zs⟩] := Sx.built (c := [.slice a3 (lets r.zs).length cap3]) (by simp -dsimp (disch := first | omega | (simp only [go_sem, seval]; first | done | omega)) only [go_sem, seval]) rfl
      have hs34 := hs3.chg0 hal
      have hG4 := hG.chg0 (hc3.trans0 hal)
      have hle3 := hc3.size
      generalize hw4 : w3.alloc (.cells #[.slice a3 (lets r.zs).length cap3] 45) = w4 at hal hs4 hs34 hG4 ⊢
      refine OpX.call history_History_Push_b rfl (Calls.ret (push_c hG4 hs4 (fun b o hb hm => by simp only [Option.some.injEq, Addr.mk.injEq] at hb; have := hlt b hm; omega) (by intro r hr; simp at hr; subst hr; exact hs34) (by intro r hr; simp at hr; subst hr; dsimp only; omega) (by simp) 1) ?_)
      rintro v w5 ⟨G', hG', hGr', hGl', hc5, hGb'⟩
      have hs35 := hG4.keeps hc5 hs34
      have hG'l : G'.list = pushed n G.list (lets r.zs) := by
        rw [hGl', hGr]
        show pushed n _ (mend (lets r.zs)) = _
        unfold lets
        rw [mend_letters]
      have hlen : G'.list.length = min n (k + 1) := by
        rw [hG'l]
        unfold pushed
        split
        · omega
        · split <;> simp <;> omega
      have hc5' : Chg [] w w5 := (hd3.trans0 hal).trans hc5 fun x hx => by
        right
        rcases List.mem_cons.1 hx with rfl | hx
        · exact hsz
        · exact hGb x hx
      have hG'1 : ∀ x ∈ G'.list, x.length ≤ 100000 := by
        rw [hG'l]
        intro x hx
        unfold pushed at hx
        split at hx
        · exact hG1 x hx
        · split at hx
          · rcases List.mem_append.1 hx with h | h
            · exact hG1 x h
            · simp at h; subst h; omega
          · rcases List.mem_append.1 hx with h | h
            · exact hG1 x (List.mem_of_mem_tail h)
            · simp at h; subst h; omega
      have hG'b : ∀ b ∈ G'.blk, w.heap.size ≤ b := by
        intro b hb
        rcases hGb' b hb with h7 | h7
        · exact hGb b h7
        · have := hc.size; have := hal.size; omega
      refine OpX.call history_History_Len_b rfl (Calls.ret (hlen_c hG') ?_)
      rintro v w6 ⟨rfl, rfl⟩
      have hmin : min (n : Int) ((k : Int) + 1) = (G'.list.length : Int) := by rw [hlen]; omega
      simp -dsimp (disch := first | omega | (simp only [go_sem, seval]; first | done | omega)) only [go_sem, seval, hmin]
      refine OpX.call history_History_Len_b rfl (Calls.ret (hlen_c hG') ?_)
      rintro v w7 ⟨rfl, rfl⟩
      simp -dsimp (disch := first | omega | (simp only [go_sem, seval]; first | done | omega)) only [go_sem, seval]
      by_cases hn0 : n = 0
      · have h0 : G'.list.length = 0 := by rw [hlen]; omega
        refine OpX.call history_History_Row_b rfl (Calls.ret (hrow_none hG' _ (.inl (by omega))) ?_)
        rintro v w8 ⟨rfl, hc8⟩
        refine OpX.call lyceumref05_Same_b rfl (Calls.ret (rsame_c (l := []) (Sx.nil w8 none Cel.cells none) (hs35.chg0 hc8) 0 cap3 (by simp)) ?_)
        rintro v w9 ⟨rfl, hc9⟩
        refine Join1.inl ?_
        simp -dsimp (disch := first | omega | (simp only [go_sem, seval]; first | done | omega)) only [go_sem, seval]
        refine BrW.dec (fun h => absurd h (by omega)) (fun _ => ?_)
        simp -dsimp (disch := first | omega | (simp only [go_sem, seval]; first | done | omega)) only [go_sem, seval]
        exact hnx (k + 1, G') _ ⟨by dsimp only; omega, by dsimp only; omega, (hG'.chg0 hc8).chg0 hc9, hGr'.trans hGr, hlen, hG'1, hG'b, (hc5'.trans0 hc8).trans0 hc9⟩ (by dsimp only; omega)
      · have hpos : 0 < G'.list.length := by rw [hlen]; omega
        have hi : (G'.list.length : Int) - 1 = ((G'.list.length - 1 : Nat) : Int) := by omega
        rw [hi]
        refine OpX.call history_History_Row_b rfl (Calls.ret (hrow_some hG' (G'.list.length - 1) (by omega) hG'1) ?_)
        rintro v w8 ⟨x, hx, ho8, hc8⟩
        have hxe : x = lets r.zs := by
          have hne : G'.list ≠ [] := by intro h; rw [h] at hpos; simp at hpos
          have h1 : G'.list.getLast? = some (lets r.zs) := by
            rw [hG'l]; unfold pushed; rw [if_neg hn0]; split <;> simp
          rw [List.getLast?_eq_getElem?, hx] at h1
          exact Option.some.inj h1
        subst hxe
        obtain ⟨a8, cap8, rfl, -, hs8, -⟩ := ho8.form
        refine OpX.call lyceumref05_Same_b rfl (Calls.ret (rsame_c hs8 (hs35.chg0 hc8) cap8 cap3 (by omega)) ?_)
        rintro v w9 ⟨rfl, hc9⟩
        refine Join1.inl ?_
        simp -dsimp (disch := first | omega | (simp only [go_sem, seval]; first | done | omega)) only [go_sem, seval]
        refine BrW.dec (fun _ => ?_) (fun h => absurd h (by omega))
        simp -dsimp (disch := first | omega | (simp only [go_sem, seval]; first | done | omega)) only [go_sem, seval]
        exact hnx (k + 1, G') _ ⟨by dsimp only; omega, by dsimp only; omega, (hG'.chg0 hc8).chg0 hc9, hGr'.trans hGr, hlen, hG'1, hG'b, (hc5'.trans0 hc8).trans0 hc9⟩ (by dsimp only; omega)
    · refine OpX.call history_History_Clear_b rfl (Calls.ret (hclear_c hG) ?_)
      rintro v w3 ⟨G', hG', hGr', hGl', -, hc3⟩
      refine Join1.inl ?_
      simp -dsimp (disch := first | omega | (simp only [go_sem, seval]; first | done | omega)) only [go_sem, seval]
      refine OpX.call history_History_Len_b rfl (Calls.ret (hlen_c hG') ?_)
      rintro v w4 ⟨rfl, rfl⟩
      rw [hGl']
      simp -dsimp (disch := first | omega | (simp only [go_sem, seval]; first | done | omega)) only [go_sem, seval]
      refine OpX.call history_History_Row_b rfl (Calls.ret (hrow_none hG' 0 (.inr (by rw [hGl']; simp))) ?_)
      rintro v w5 ⟨rfl, hc5⟩
      simp -dsimp (disch := first | omega | (simp only [go_sem, seval]; first | done | omega)) only [go_sem, seval]
      exact hK _ _ ⟨by simp, (hc.trans hc3 (by simp; exact hsz)).trans0 hc5⟩
  · simp -dsimp (disch := first | omega | (simp only [go_sem, seval]; first | done | omega)) only [go_sem, seval]
    refine OpX.call history_History_Clear_b rfl (Calls.ret (hclear_c hG) ?_)
    rintro v w3 ⟨G', hG', hGr', hGl', -, hc3⟩
    refine Join1.inl ?_
    simp -dsimp (disch := first | omega | (simp only [go_sem, seval]; first | done | omega)) only [go_sem, seval]
    refine OpX.call history_History_Len_b rfl (Calls.ret (hlen_c hG') ?_)
    rintro v w4 ⟨rfl, rfl⟩
    rw [hGl']
    simp -dsimp (disch := first | omega | (simp only [go_sem, seval]; first | done | omega)) only [go_sem, seval]
    refine OpX.call history_History_Row_b rfl (Calls.ret (hrow_none hG' 0 (.inr (by rw [hGl']; simp))) ?_)
    rintro v w5 ⟨rfl, hc5⟩
    simp -dsimp (disch := first | omega | (simp only [go_sem, seval]; first | done | omega)) only [go_sem, seval]
    exact hK _ _ ⟨by simp, (hc.trans hc3 (by simp; exact hsz)).trans0 hc5⟩
end Go.Proofs.Ytdjdeahmhenchaa
