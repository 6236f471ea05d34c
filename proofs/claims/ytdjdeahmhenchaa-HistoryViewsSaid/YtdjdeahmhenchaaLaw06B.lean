/- The laws of layer 6, walked: cells that fill, the chapter's example. -/
import Derived.Test.YtdjdeahmhenchaaLaw06A
import Derived.Test.YtdjdeahmhenchaaLines
set_option linter.unusedSimpArgs false
set_option linter.unusedVariables false
namespace Go.Proofs.Ytdjdeahmhenchaa
open Lyc Go

def chars4 : List Int := [32, 46, 45, 122]
def plain06 (n : Int) : Cel := ⟨chars4.getD (bitV .and .i64 n 3).toNat 0, 0, BitVec.ofInt 8 (bitV .and .i64 (n.fdiv (2 ^ min 2 64)) 3), BitVec.ofInt 8 (bitV .and .i64 (n.fdiv (2 ^ min 4 64)) 3)⟩
theorem usual_of {r : Int} {x y : BitVec 8} {k : Nat} (hk : k < 4) (h : k < 4 → r = chars4.getD k 0) (hy : y.toNat ≤ 3) : (⟨r, 0, x, y⟩ : Cel).usual = true := by
  have h1 : ∀ a : BitVec 8, a.toNat ≤ 3 → a &&& 192#8 = 0#8 ∧ a &&& 128#8 = 0#8 ∧ a &&& 64#8 = 0#8 := by decide
  obtain ⟨p1, p2, p3⟩ := h1 y hy
  have h2 : ∀ k, k < 4 → width (chars4.getD k 0) = 1 := by decide
  rw [h hk]
  simp only [Cel.usual, Cel.check, Cel.plain, Cel.tail, Cel.wide, p1, p2, p3, h2 k hk]
  rfl
theorem plain06_usual (n : Int) : (plain06 n).usual = true := by
  have h1 := and_bd n 3 (by omega) (by omega)
  have h2 := and_bd (n.fdiv (2 ^ min 4 64)) 3 (by omega) (by omega)
  refine usual_of (k := (bitV .and .i64 n 3).toNat) (by omega) (fun _ => rfl) ?_
  rw [BitVec.toNat_ofInt]; omega
theorem ch4_get (n : Int) : (chars4.map (Value.int .i32))[(bitV .and .i64 n 3).toNat]? = some (.int .i32 (chars4.getD (bitV .and .i64 n 3).toNat 0)) := by
  have h := and_bd n 3 (by omega) (by omega)
  generalize bitV .and .i64 n 3 = x at h
  have : x.toNat < chars4.length := by show x.toNat < 4; omega
  rw [List.getElem?_map, List.getD_eq_getElem?_getD, List.getElem?_eq_getElem this]
  rfl
theorem plain06_c (w : World) (n : Int) : Calls Try.prog 46 #[.int .i64 n] w (retK fun v w' => v = (plain06 n).val ∧ Chg [] w w') := by
  have h1 := and_bd n 3 (by omega) (by omega)
  have h2 := and_bd (n.fdiv (2 ^ min 2 64)) 3 (by omega) (by omega)
  have h3 := and_bd (n.fdiv (2 ^ min 4 64)) 3 (by omega) (by omega)
  have hch := ch4_get n
  apply lyceumlaw06_plain_link
  intro K hK
  unfold lyceumlaw06_plain
  rw [xA, x_alloc, ty44z, OrK_some]
  refine OpX.build (c := (chars4.map (Value.int .i32)).toArray) (by kernel_rfl) ?_
  refine OpX.fresh ty118z (by kernel_rfl) (by kernel_rfl) (by kernel_rfl) ?_
  have hh : ((w.alloc (.cells (Value.agg #[.int .i32 0, .int .u8 0, .int .u8 0, .int .u8 0]).cells 44)).alloc (.cells (Value.agg (chars4.map (Value.int .i32)).toArray).cells 118)).heap[w.heap.size + 1]? = some (.cells (chars4.map (Value.int .i32)).toArray 118) := Lyc.heap_alloc_new _ _ _ (by simp -dsimp (disch := first | omega | (simp only [go_sem, seval]; first | done | omega)) only [go_sem, seval])
  have hc : Chg [] w ((w.alloc (.cells (Value.agg #[.int .i32 0, .int .u8 0, .int .u8 0, .int .u8 0]).cells 44)).alloc (.cells (Value.agg (chars4.map (Value.int .i32)).toArray).cells 118)) := chg_a2 _ _ _
  have ho : ((w.alloc (.cells (Value.agg #[.int .i32 0, .int .u8 0, .int .u8 0, .int .u8 0]).cells 44)).alloc (.cells (Value.agg (chars4.map (Value.int .i32)).toArray).cells 118)).heap[w.heap.size]? = some (.cells #[.int .i32 0, .int .u8 0, .int .u8 0, .int .u8 0] 44) := (chg_a1 _ _).keep (Lyc.heap_alloc_new _ _ _ rfl) (by simp)
  have hz : (w.alloc (.cells (Value.agg #[.int .i32 0, .int .u8 0, .int .u8 0, .int .u8 0]).cells 44)).heap.size = w.heap.size + 1 := by simp -dsimp (disch := first | omega | (simp only [go_sem, seval]; first | done | omega)) only [go_sem, seval]
  rw [hz]
  generalize ((w.alloc (.cells (Value.agg #[.int .i32 0, .int .u8 0, .int .u8 0, .int .u8 0]).cells 44)).alloc (.cells (Value.agg (chars4.map (Value.int .i32)).toArray).cells 118)) = w1 at hh hc ho ⊢
  have hlo := lt_of_heap ho
  simp -dsimp (disch := first | omega | (simp only [go_sem, seval]; first | done | omega)) only [go_sem, seval, hh, hch, ho]
  refine hK _ _ ⟨?_, hc.set _ _ (.inr (Nat.le_refl _))⟩
  simp only [Cel.val, plain06]
  rw [ofInt8 _ h2.1 (by omega), ofInt8 _ h3.1 (by omega)]
  rfl

theorem awake06_c (w : World) : Calls Try.prog 43 #[] w (retK fun v w' => v = .bool true ∧ Chg [] w w') := by
  have e0 : cells06 [2, 3, 6] = [⟨97, 0, 0, 0⟩, ⟨98, 0, 0, 0⟩, ⟨99, 0, 0, 0⟩] := by decide +kernel
  apply lyceumlaw06_awake_link
  intro K hK
  unfold lyceumlaw06_awake
  refine OpX.call grid_New_b rfl (Calls.ret (gnew_c w 3 1 (by omega) (by omega) (by omega) (by omega)) ?_)
  rintro v w1 ⟨⟨nb, capg, sp, rfl, g1, g2, g3⟩, hc1⟩
  simp -dsimp (disch := first | omega | (simp only [go_sem, seval]; first | done | omega)) only [go_sem, seval]
  have hc2 := hc1.alloc (.cells #[.int .i64 2, .int .i64 3, .int .i64 6] 3)
  have hs2 : Sx (w1.alloc (.cells #[.int .i64 2, .int .i64 3, .int .i64 6] 3)) (some 3) intF (some ⟨w1.heap.size, 0, none⟩) [2, 3, 6] := Sx.built (c := [.int .i64 2, .int .i64 3, .int .i64 6]) (by simp -dsimp (disch := first | omega | (simp only [go_sem, seval]; first | done | omega)) only [go_sem, seval]) rfl
  have g4 := (chg_a1 w1 (.cells #[.int .i64 2, .int .i64 3, .int .i64 6] 3)).keep g3 (by simp)
  generalize w1.alloc (.cells #[.int .i64 2, .int .i64 3, .int .i64 6] 3) = w2 at hc2 hs2 g4 ⊢
  refine OpX.call lyceumlaw06_cells_b rfl (Calls.ret (cells06_c hs2 3) ?_)
  rintro v w3 ⟨ho3, hc3⟩
  rw [e0] at ho3
  obtain ⟨a3, cap3, rfl, -, hs3, -⟩ := ho3.form
  have hP := Gr.plain_ok (w := 3) (h := 1) (by omega) (by omega) (by omega) (by omega) Cel.blank
  have hPr := Gr.plain_right (w := 3) (h := 1) blank_single
  have g5 := hc3.keep g4 (by simp)
  have hsP : SxC w3 (some 44) (some ⟨nb, 0, none⟩) (Gr.plain 3 1 Cel.blank).cs := ⟨fun _ => ⟨nb, 0, _, _, _, [], sp, rfl, g5, by simp [tagOk], by simp, rfl⟩⟩
  refine OpX.call grid_Put_b rfl (Calls.ret (gput_c (X := 0) (Y := 0) hP hPr hsP capg g1 hs3 cap3 (by simp) (by omega) (by omega)) ?_)
  rintro v w4 ⟨⟨nb4, cap4, sp4, rfl, p1, p2, p3⟩, hc4⟩
  have hG4 : (Gr.plain 3 1 Cel.blank).put 0 0 [⟨97, 0, 0, 0⟩, ⟨98, 0, 0, 0⟩, ⟨99, 0, 0, 0⟩] = ⟨3, 1, [⟨97, 0, 0, 0⟩, ⟨98, 0, 0, 0⟩, ⟨99, 0, 0, 0⟩]⟩ := by decide +kernel
  rw [hG4] at p1 p3 ⊢
  have hok4 : (⟨3, 1, [⟨97, 0, 0, 0⟩, ⟨98, 0, 0, 0⟩, ⟨99, 0, 0, 0⟩]⟩ : Gr).ok := ⟨by decide, by decide, by decide, by decide, rfl⟩
  have hri4 : (⟨3, 1, [⟨97, 0, 0, 0⟩, ⟨98, 0, 0, 0⟩, ⟨99, 0, 0, 0⟩]⟩ : Gr).right = true := by decide +kernel
  have hc14 := (hc2.trans0 hc3).trans0 hc4
  simp -dsimp (disch := first | omega | (simp only [go_sem, seval]; first | done | omega)) only [go_sem, seval, Gr.val]
  have hs5 : SxC (w4.alloc (.cells #[.int .i64 3, .int .i64 1, .slice (some ⟨nb4, 0, none⟩) 3 cap4] 54)) (some 44) (some ⟨nb4, 0, none⟩) (⟨3, 1, [⟨97, 0, 0, 0⟩, ⟨98, 0, 0, 0⟩, ⟨99, 0, 0, 0⟩]⟩ : Gr).cs := ⟨fun _ => ⟨nb4, 0, _, _, _, [], sp4, rfl, (chg_a1 _ _).keep p3 (by simp), by simp [tagOk], by simp, rfl⟩⟩
  refine OpX.call grid_Shift_b rfl (Calls.ret (gshift_c (X := 1) (Y := 0) (N := 1) (c := Cel.blank) hok4 hri4 hs5 cap4 p1 (by decide) (by omega) (by omega)) ?_)
  rintro v w6 ⟨⟨nb6, cap6, sp6, rfl, q1, q2, q3⟩, hc6⟩
  have hG6 : (⟨3, 1, [⟨97, 0, 0, 0⟩, ⟨98, 0, 0, 0⟩, ⟨99, 0, 0, 0⟩]⟩ : Gr).shift 1 0 1 Cel.blank = ⟨3, 1, [⟨97, 0, 0, 0⟩, ⟨32, 0, 0, 0⟩, ⟨98, 0, 0, 0⟩]⟩ := by decide +kernel
  rw [hG6] at q1 q3 ⊢
  have hok6 : (⟨3, 1, [⟨97, 0, 0, 0⟩, ⟨32, 0, 0, 0⟩, ⟨98, 0, 0, 0⟩]⟩ : Gr).ok := ⟨by decide, by decide, by decide, by decide, rfl⟩
  have hs6 : SxC w6 (some 44) (some ⟨nb6, 0, none⟩) (⟨3, 1, [⟨97, 0, 0, 0⟩, ⟨32, 0, 0, 0⟩, ⟨98, 0, 0, 0⟩]⟩ : Gr).cs := ⟨fun _ => ⟨nb6, 0, _, _, _, [], sp6, rfl, q3, by simp [tagOk], by simp, rfl⟩⟩
  have h9 : ∀ y, y < (⟨3, 1, [⟨97, 0, 0, 0⟩, ⟨32, 0, 0, 0⟩, ⟨98, 0, 0, 0⟩]⟩ : Gr).h → ∀ r ∈ trimE (shown ((⟨3, 1, [⟨97, 0, 0, 0⟩, ⟨32, 0, 0, 0⟩, ⟨98, 0, 0, 0⟩]⟩ : Gr).row y)), asc r := by
    intro y hy
    have : y = 0 := by have : y < 1 := hy; omega
    subst this
    show ∀ r ∈ trimE (shown ((⟨3, 1, [⟨97, 0, 0, 0⟩, ⟨32, 0, 0, 0⟩, ⟨98, 0, 0, 0⟩]⟩ : Gr).row 0)), 0 ≤ r ∧ r ≤ 127
    decide +kernel
  refine OpX.call grid_Lines_b rfl (Calls.ret (glines_c hok6 hs6 cap6 q1 h9) ?_)
  rintro v w7 ⟨ho7, hc7⟩
  have et : ((List.range (⟨3, 1, [⟨97, 0, 0, 0⟩, ⟨32, 0, 0, 0⟩, ⟨98, 0, 0, 0⟩]⟩ : Gr).h).map fun y => rowText ((⟨3, 1, [⟨97, 0, 0, 0⟩, ⟨32, 0, 0, 0⟩, ⟨98, 0, 0, 0⟩]⟩ : Gr).row y)) = [bstr [97, 32, 98]] := by decide +kernel
  rw [et] at ho7
  obtain ⟨a7, cap7, rfl, -, hs7, -⟩ := ho7.form
  obtain ⟨b7, o7, rfl, hb7, hcell7⟩ := hs7.get1 (g := fun s => .string s) (fun _ => rfl) (i := 0) rfl
  have el : (({ data := #[97, 32, 98] } : ByteArray)).toList = [97, 32, 98] := bstr_toList [97, 32, 98]
  refine Join1.inl ?_
  have hcell7' : cellAt w7.heap[b7]? o7 = some (.string (bstr [97, 32, 98])) := hcell7
  simp -dsimp (disch := first | omega | (simp only [go_sem, seval]; first | done | omega)) only [go_sem, seval, hcell7', el]
  exact hK _ _ ⟨by simp, ((hc14.alloc _).trans0 hc6).trans0 hc7⟩
end Go.Proofs.Ytdjdeahmhenchaa
