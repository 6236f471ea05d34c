/- The law HistoryViews, walked. -/
import Derived.Test.YtdjdeahmhenchaaViewB
import Derived.Test.YtdjdeahmhenchaaRef6B
import Derived.Test.YtdjdeahmhenchaaLaw10
import Derived.Test.YtdjdeahmhenchaaLaw06P
import Derived.Test.YtdjdeahmhenchaaLaw06D
set_option linter.unusedSimpArgs false
set_option linter.unusedVariables false
namespace Go.Proofs.Ytdjdeahmhenchaa
open Lyc Go

def vcel (z : Int) : Cel := ⟨97 + bitV .and .i64 z 7, 0, 0, 0⟩
def dash : Cel := ⟨45, 0, 0, 0⟩
def hash : Cel := ⟨35, 0, 0, 0⟩
def vrow (z : Int) : List Cel := [vcel z, dash, dash]
def vrows (l : List Int) (k : Nat) : List (List Cel) := (l.take k).map vrow
theorem mend_vrow (z : Int) : mend (vrow z) = vrow z := by
  have h := and_bd z 7 (by omega) (by omega)
  unfold vrow vcel
  generalize bitV .and .i64 z 7 = x at h
  obtain ⟨k, rfl⟩ := Int.eq_ofNat_of_zero_le h.1
  have : ∀ k : Nat, k < 8 → mend [⟨97 + (k : Int), 0, 0, 0⟩, dash, dash] = [⟨97 + (k : Int), 0, 0, 0⟩, dash, dash] := by decide +kernel
  exact this k (by omega)
theorem vrows_len (l : List Int) {k : Nat} (hk : k ≤ l.length) : (vrows l k).length = k := by simp [vrows]; omega
theorem vrows_get (l : List Int) {k i : Nat} (hk : k ≤ l.length) (hi : i < k) : (vrows l k)[i]? = some (vrow (l[i]'(by omega))) := by
  unfold vrows
  rw [List.getElem?_map, List.getElem?_take_of_lt hi, List.getElem?_eq_getElem (by omega)]
  rfl
theorem view_zero {g : Gr} (hg : g.ok) (L : List (List Cel)) : Gr.of g.w g.h (viewRow g L L.length) = g := by
  refine Gr.of_rows hg fun y hy => ?_
  unfold viewRow
  rw [if_neg (by omega)]
  congr 1
  omega

theorem views10_c {w : World} {a : Option Addr} {l : List Int} (hs : Sx w none intF a l) (cap : Nat) (high back : Int) : Calls Try.prog 9 #[.slice a l.length cap, .int .i64 high, .int .i64 back] w (retK fun v w' => v = .bool true ∧ Chg [] w w') := by
  apply lyceumlaw10_HistoryViews_link
  intro K hK
  unfold lyceumlaw10_HistoryViews
  refine OpX.call lyceumlaw10_awake_b rfl (Calls.ret (awake10_c w) ?_)
  rintro v w1 ⟨rfl, hc1⟩
  simp -dsimp (disch := first | omega | (simp only [go_sem, seval]; first | done | omega)) only [go_sem, seval]
  refine OpX.call history_New_b rfl (Calls.ret (hnew_c w1 500) ?_)
  rintro v w2 ⟨H, rfl, hH, hblk, hlist, hroom, hc2⟩
  have hr : H.room = 500 := by rw [hroom]; omega
  have hd2 := hc1.trans0 hc2
  have hsz := hc1.size
  simp -dsimp (disch := first | omega | (simp only [go_sem, seval]; first | done | omega)) only [go_sem, seval]
  obtain ⟨n, hn⟩ : ∃ n, n = min l.length 20 := ⟨_, rfl⟩
  have en : min (l.length : Int) 20 = (n : Int) := by omega
  rw [en]
  have hnl : n ≤ l.length := by omega
  refine Loop1.st (fun s : Nat × Hs => .int .i64 s.1) (fun s w' => s.1 ≤ n ∧ HAt w' w1.heap.size s.2 ∧ s.2.room = 500 ∧ s.2.list = vrows l s.1 ∧ (∀ b ∈ s.2.blk, w.heap.size ≤ b) ∧ Chg [] w w') (fun s => n - s.1) (0, H) rfl ⟨by simp, hH, hr, by rw [hlist]; simp [vrows], by rw [hblk]; simp, hd2⟩ ?_
  rintro next ⟨k, G⟩ w' hnx ⟨hk, hG, hGr, hGl, hGb, hc⟩
  dsimp only at hk hG hGr hGl hGb ⊢
  simp -dsimp (disch := first | omega | (simp only [go_sem, seval]; first | done | omega)) only [go_sem, seval]
  refine BrW.dec (fun h1 => ?_) (fun h1 => ?_)
  · have hlt := hG.blk_lt
    have hkl : k < l.length := by omega
    obtain ⟨b, o, rfl, hb, hcell⟩ := (hs.chg0 hc).get1 (g := fun n => .int .i64 n) (fun _ => rfl) (List.getElem?_eq_getElem hkl)
    have hbd := and_bd l[k] 7 (by omega) (by omega)
    simp -dsimp (disch := first | omega | (simp only [go_sem, seval]; first | done | omega)) only [go_sem, seval, hcell]
    refine OpX.gen fun w3 hw3 => ?_
    have hal : Chg [] w' w3 := by rw [hw3]; exact chg_a2 _ _ _
    have hs2 : Sx w3 (some 45) Rw.f (some ⟨w'.heap.size + 1, 0, none⟩) [⟨some ⟨w'.heap.size, 0, none⟩, 3, vrow l[k]⟩] := by rw [hw3]; exact Sx.built (c := [.slice (some ⟨w'.heap.size, 0, none⟩) 3 3]) (by simp -dsimp (disch := first | omega | (simp only [go_sem, seval]; first | done | omega)) only [go_sem, seval]) rfl
    have hs1 : SxC w3 (some 44) (some ⟨w'.heap.size, 0, none⟩) (vrow l[k]) := by rw [hw3]; exact Sx.built (by simp -dsimp (disch := first | omega | (simp only [go_sem, seval]; first | done | omega)) only [go_sem, seval]; rfl) rfl
    have hG2 := hG.chg0 hal
    clear hw3
    refine OpX.call history_History_Push_b rfl (Calls.ret (push_c hG2 hs2 (fun b o hb hm => by simp only [Option.some.injEq, Addr.mk.injEq] at hb; have := hlt b hm; omega) (by intro r hr; simp at hr; subst hr; exact hs1) (by intro r hr; simp at hr; subst hr; simp [vrow]) (by simp) 1) ?_)
    rintro v w4 ⟨G', hG', hGr', hGl', hc4, hGb'⟩
    simp -dsimp (disch := first | omega | (simp only [go_sem, seval]; first | done | omega)) only [go_sem, seval]
    refine hnx (k + 1, G') _ ⟨by dsimp only; omega, hG', hGr'.trans hGr, ?_, ?_, ?_⟩ (by dsimp only; omega)
    · dsimp only
      rw [hGl', hGl, hGr]
      show pushed 500 _ (mend (vrow l[k])) = _
      rw [mend_vrow, pushed, if_neg (by omega), if_pos (by rw [vrows_len l (by omega)]; omega), vrows, vrows, List.take_add_one, List.getElem?_eq_getElem hkl, List.map_append]
      rfl
    · intro b hb
      dsimp only at hb
      rcases hGb' b hb with h7 | h7
      · exact hGb b h7
      · have := hc.size; have := hal.size; omega
    · refine (hc.trans0 hal).trans hc4 fun x hx => ?_
      right
      rcases List.mem_cons.1 hx with rfl | hx
      · exact hsz
      · exact hGb x hx
  · have hkm : k = n := by omega
    subst hkm
    have hLl := vrows_len l hnl
    have hrows : ∀ r ∈ G.list, r.length = 3 := by
      rw [hGl]; intro r hr
      simp only [vrows, List.mem_map] at hr
      obtain ⟨z, -, rfl⟩ := hr
      rfl
    have hm := tmod_bd high 5 (by omega)
    have em := emod_pos high 5 (by omega)
    simp -dsimp (disch := first | omega | (simp only [go_sem, seval]; first | done | omega)) only [go_sem, seval]
    obtain ⟨M, hM⟩ : ∃ M : Nat, 1 + (high.tmod 5 + 5).tmod 5 = M := ⟨(1 + (high.tmod 5 + 5).tmod 5).toNat, by omega⟩
    rw [hM]
    have hM1 : 1 ≤ M ∧ M ≤ 5 := by omega
    clear hM em hm
    refine OpX.call lyceumref06_New_b rfl (Calls.ret (rnew_c w' 3 M (by omega) (by omega) (by omega) (by omega)) ?_)
    rintro v w3 ⟨⟨nb, capg, sp, rfl, g1, g2, g3⟩, hc3⟩
    have hP := Gr.plain_ok (w := 3) (h := M) (by omega) (by omega) (by omega) (by omega) Cel.blank
    have hPr := Gr.plain_right (w := 3) (h := M) blank_single
    simp -dsimp (disch := first | omega | (simp only [go_sem, seval]; first | done | omega)) only [go_sem, seval, Gr.val]
    refine OpX.gen fun w4 hw4 => ?_
    have hc4 : Chg [] w' w4 := by rw [hw4]; exact hc3.trans0 (chg_a2 _ _ _)
    have hv4 : w4.heap[w3.heap.size]? = some (.cells #[.int .i64 3, .int .i64 M, .slice (some ⟨nb, 0, none⟩) (Gr.plain 3 M Cel.blank).cs.length capg] 54) := by rw [hw4]; simp -dsimp (disch := first | omega | (simp only [go_sem, seval]; first | done | omega)) only [go_sem, seval]; rfl
    have hg4 : SxC w4 (some 44) (some ⟨nb, 0, none⟩) (Gr.plain 3 M Cel.blank).cs := by rw [hw4]; exact ⟨fun _ => ⟨nb, 0, _, _, _, [], sp, rfl, (chg_a2 _ _ _).keep g3 (by simp), by simp [tagOk], by simp, rfl⟩⟩
    have hh4 : SxC w4 (some 44) (some ⟨w3.heap.size + 1, 0, none⟩) [hash] := by rw [hw4]; exact Sx.built (by simp -dsimp (disch := first | omega | (simp only [go_sem, seval]; first | done | omega)) only [go_sem, seval]; rfl) rfl
    clear hw4
    refine OpX.call grid_Put_b rfl (Calls.ret (gput_c (X := 1) (Y := 0) (l := [hash]) hP hPr hg4 capg g1 hh4 1 (by simp) (by omega) (by omega)) ?_)
    rintro v w5 ⟨⟨nb5, cap5, sp5, rfl, p1, p2, p3⟩, hc5⟩
    obtain ⟨G5, hG5⟩ : ∃ G5, G5 = (Gr.plain 3 M Cel.blank).put 1 0 [hash] := ⟨_, rfl⟩
    have h5ok : G5.ok := by rw [hG5]; exact Gr.chg_ok hP fun y _ _ _ => lineOf_len _ _
    have h5r : G5.right = true := by rw [hG5]; exact Gr.chg_right hP hPr fun y _ _ _ => lineOf_len _ _
    have h5w : G5.w = 3 := by rw [hG5]; rfl
    have h5h : G5.h = M := by rw [hG5]; rfl
    rw [← hG5] at p1 p3 ⊢
    clear hG5
    have hv5 := hc5.keep hv4 (by simp)
    have hG1 := ((hG.chg0 hc4).chg0 hc5)
    have hl5 := lt_of_heap hv5
    simp -dsimp (disch := first | omega | (simp only [go_sem, seval]; first | done | omega)) only [go_sem, seval, Gr.val, hv5, h5w, h5h]
    refine OpX.gen fun w6 hw6 => ?_
    have hc06 : Chg [] w w6 := by rw [hw6]; exact (((hc.trans0 hc4).trans0 hc5).set _ _ (.inr (by have := hc.size; have := hc3.size; omega))).drew
    have hc56 : Chg [w3.heap.size] w5 w6 := by rw [hw6]; exact ((Chg.refl _ _).set _ _ (by simp)).drew
    have hg6 : GVar w6 w3.heap.size nb5 cap5 sp5 G5 := by
      refine ⟨?_, ?_, p1⟩
      · rw [hw6]; simp -dsimp (disch := first | omega | (simp only [go_sem, seval]; first | done | omega)) only [go_sem, seval, h5w, h5h]
      · exact hc56.keep p3 (by simp; have := lt_of_heap hv4; omega)
    have hG6 : HAt w6 w1.heap.size G := hG1.chg hc56 (by
      intro x hx hm
      simp at hm
      have := hG.blk_lt x hx
      have := hc3.size
      omega) (by
      intro r hr b o hb hne hm
      simp at hm
      have := (hG.rows r hr).lt hne hb
      have := hc3.size
      omega)
    clear hw6
    have hrows' : ∀ r ∈ G.list, r.length = G5.w := by rw [h5w]; exact hrows
    have hv6 := hview_c hG6 h5ok h5r hg6.sx cap5 p1 hrows'
    rw [hGl, hLl] at hv6
    have hv60 := hv6 0
    simp only [Gr.val, h5w, h5h] at hv60
    refine OpX.call history_History_View_b rfl (Calls.ret (hv60) ?_)
    rintro v w7 ⟨⟨nb7, cap7, sp7, rfl, q1, q2, q3⟩, hc7⟩
    have e0 : Gr.of 3 M (viewRow G5 (vrows l k) (k - min (Int.toNat 0) k)) = G5 := by
      have := view_zero h5ok (vrows l k)
      rw [h5w, h5h, hLl] at this
      simpa using this
    rw [e0] at q1 q3 ⊢
    have hg7 := hg6.chg0 hc7
    have hg71 := hg7.1
    rw [h5w, h5h] at hg71
    have hs7 : SxC w7 (some 44) (some ⟨nb7, 0, none⟩) G5.cs := ⟨fun _ => ⟨nb7, 0, _, _, _, [], sp7, rfl, q3, by simp [tagOk], by simp, rfl⟩⟩
    simp -dsimp (disch := first | omega | (simp only [go_sem, seval]; first | done | omega)) only [go_sem, seval, hg71]
    have h5l := h5ok.le
    have hsm := rsame6_c (f := G5) (g := G5) hs7 hg7.sx cap7 cap5 (by omega)
    simp only [Gr.val, h5w, h5h, decide_true] at hsm
    simp only [Gr.val, h5w, h5h]
    refine OpX.call lyceumref06_Same_b rfl (Calls.ret (hsm) ?_)
    rintro v w8 ⟨rfl, hc8⟩
    have hg8 := hg7.chg0 hc8
    have hg81 := hg8.1
    rw [h5w, h5h] at hg81
    have hb := tmod_bd back (k + 1) (by omega)
    obtain ⟨kb, hkb⟩ : ∃ kb : Nat, (back.tmod (k + 1) + k + 1).tmod (k + 1) = kb := ⟨_, (Int.toNat_of_nonneg (Int.tmod_nonneg _ (by omega))).symm⟩
    have hkb1 := tmod_bd (back.tmod (k + 1) + k + 1) (k + 1) (by omega)
    rw [hkb] at hkb1
    simp -dsimp (disch := first | omega | (simp only [go_sem, seval]; first | done | omega)) only [go_sem, seval, hg81, hkb]
    rw [hkb]
    have hc68 := hc7.trans0 hc8
    have hG8 := hG6.chg0 hc68
    have hv8 := hview_c hG8 h5ok h5r hg8.sx cap5 p1 hrows'
    rw [hGl, hLl] at hv8
    have hv8b := hv8 kb
    simp only [Gr.val, h5w, h5h] at hv8b
    refine OpX.call history_History_View_b rfl (Calls.ret (hv8b) ?_)
    rintro v w9 ⟨⟨nb9, cap9, sp9, rfl, r1, r2, r3⟩, hc9⟩
    have efs : k - min (kb : Int).toNat k = k - kb := by omega
    rw [efs] at r1 r3 ⊢
    have hvl : ∀ y, y < M → (viewRow G5 (vrows l k) (k - kb) y).length = 3 := by
      intro y hy
      unfold viewRow
      split
      · rename_i h9
        rw [mend_len, List.getD_eq_getElem?_getD, List.getElem?_eq_getElem h9]
        exact hrows _ (by rw [hGl]; exact List.getElem_mem _)
      · rw [h5ok.row_len (by omega), h5w]
    have hVok : (Gr.of 3 M (viewRow G5 (vrows l k) (k - kb))).ok := Gr.of_ok (by omega) (by omega) (by omega) (by omega) hvl
    have hVat : ∀ x y, x < 3 → y < M → (Gr.of 3 M (viewRow G5 (vrows l k) (k - kb))).at x y = if k - kb + y < k then (if x = 0 then vcel (l.getD (k - kb + y) 0) else dash) else G5.at x (k - kb + y - k) := by
      intro x y hx hy
      have h9 := Gr.of_at (w := 3) (h := M) (R := viewRow G5 (vrows l k) (k - kb)) (by omega) (by omega) (by omega) (by omega) hvl hx hy
      unfold viewRow at h9
      rw [hLl] at h9
      by_cases h8 : k - kb + y < k
      · rw [if_pos h8, List.getD_eq_getElem?_getD, vrows_get l hnl h8] at h9
        simp only [Option.getD_some] at h9
        rw [mend_vrow] at h9
        rw [if_pos h8]
        apply Option.some.inj
        unfold viewRow
        rw [hLl, h9]
        have : x = 0 ∨ x = 1 ∨ x = 2 := by omega
        rw [List.getD_eq_getElem?_getD, List.getElem?_eq_getElem (show k - kb + y < l.length by omega)]
        rcases this with rfl | rfl | rfl <;> rfl
      · rw [if_neg h8, h5ok.row_get (by omega) (by omega)] at h9
        rw [if_neg h8]
        apply Option.some.inj
        unfold viewRow
        rw [hLl, h9]
    generalize hV : Gr.of 3 M (viewRow G5 (vrows l k) (k - kb)) = V at r1 r3 hVok hVat ⊢
    have hVw : V.w = 3 := by rw [← hV]; rfl
    have hVh : V.h = M := by rw [← hV]; rfl
    clear hV
    have hg9 := hg8.chg0 hc9
    have hg91 := hg9.1
    rw [h5w, h5h] at hg91
    have hl9 := lt_of_heap hg91
    simp -dsimp (disch := first | omega | (simp only [go_sem, seval]; first | done | omega)) only [go_sem, seval, Gr.val, hVw, hVh]
    have hv10 := GVar.new r1 r2 r3
    rw [hVw, hVh] at hv10
    have hc10 := hc9.trans0 (chg_a1 w9 (.cells #[.int .i64 (3 : Nat), .int .i64 M, .slice (some ⟨nb9, 0, none⟩) V.cs.length cap9] 54))
    have e3 : ((3 : Nat) : Int) = 3 := rfl
    rw [e3] at hv10 hc10
    generalize w9.alloc _ = w10 at hv10 hc10 ⊢
    have hg10 := hg8.chg0 hc10
    have hg101 := hg10.1
    have hv101 := hv10.1
    rw [h5w, h5h] at hg101
    rw [hVw, hVh] at hv101
    refine Join1.cut (fun v w' => v = .bool false ∧ w' = w10) ?_ ?_
    · simp -dsimp (disch := first | omega | (simp only [go_sem, seval]; first | done | omega)) only [go_sem, seval, hg101, hv101]
    rintro v w11 ⟨rfl, rfl⟩
    simp -dsimp (disch := first | omega | (simp only [go_sem, seval]; first | done | omega)) only [go_sem, seval]
    obtain ⟨t14, ht14⟩ : ∃ t14, t14 = w9.heap.size := ⟨_, rfl⟩
    obtain ⟨t11, ht11⟩ : ∃ t11, t11 = w3.heap.size := ⟨_, rfl⟩
    rw [← ht14] at hv10 hv101 ⊢
    rw [← ht11] at hg10 hg101 ⊢
    have hc010 : Chg [] w w11 := hc06.trans0 (hc68.trans0 hc10)
    have hH10 := hG6.chg0 (hc68.trans0 hc10)
    clear hc9 hc10 hc68 hc06 hc56 hc7 hc8 hg6 hg7 hg71 hg8 hg81 hg9 hg91 ht14 ht11 hl9 hl5 hG6 hG8 hv6 hv60 hv8 hv8b
    refine Loop1.st (fun y : Nat => .int .i64 y) (fun y w' => Chg [] w11 w' ∧ y ≤ M) (fun y => M - y) 0 rfl ⟨Chg.refl _ _, by omega⟩ ?_
    rintro next y w12 hn2 ⟨hc12, hy⟩
    have hg12 := hg10.chg0 hc12
    have hg121 := hg12.1
    rw [h5w, h5h] at hg121
    simp -dsimp (disch := first | omega | (simp only [go_sem, seval]; first | done | omega)) only [go_sem, seval, hg121]
    refine BrW.dec (fun h2 => ?_) (fun h2 => ?_)
    · simp -dsimp (disch := first | omega | (simp only [go_sem, seval]; first | done | omega)) only [go_sem, seval]
      have ei : IntKind.i64.wrap ((k : Int) - kb + y) = ((k - kb + y : Nat) : Int) := by rw [wrap_i64 _ (by omega) (by omega)]; omega
      rw [ei]
      obtain ⟨I, hI⟩ : ∃ I, I = k - kb + y := ⟨_, rfl⟩
      rw [← hI]
      refine Loop1.st (fun x : Nat => .int .i64 x) (fun x w' => Chg [] w11 w' ∧ x ≤ 3) (fun x => 3 - x) 0 rfl ⟨hc12, by omega⟩ ?_
      rintro next3 x w13 hn3 ⟨hc13, hx⟩
      have hg13 := hg10.chg0 hc13
      have hg131 := hg13.1
      rw [h5w, h5h] at hg131
      simp -dsimp (disch := first | omega | (simp only [go_sem, seval]; first | done | omega)) only [go_sem, seval]
      refine BrW.dec (fun h3 => ?_) (fun h3 => ?_)
      · simp -dsimp (disch := first | omega | (simp only [go_sem, seval]; first | done | omega)) only [go_sem, seval, hg131]
        have hat := rat_c h5ok hg13.sx cap5 p1 (x := x) (by omega) (y := (I : Int) - k) (by omega)
        simp only [Gr.val, h5w, h5h] at hat
        refine OpX.call lyceumref06_At_b rfl (Calls.ret (hat) ?_)
        rintro v w14 ⟨rfl, hc14⟩
        have hVx := hVat x y (by omega) (by omega)
        rw [← hI] at hVx
        generalize hQ : (if 0 ≤ (I : Int) - k then G5.at x ((I : Int) - k).toNat else Cel.none) = Q
        simp -dsimp (disch := first | omega | (simp only [go_sem, seval]; first | done | omega)) only [go_sem, seval, Cel.val]
        have hc15 := chg_a1 w14 (.cells #[.int .i32 Q.r, .int .u8 Q.fg.toNat, .int .u8 Q.bg.toNat, .int .u8 Q.a.toNat] 44)
        have hq15 : (w14.alloc (.cells #[.int .i32 Q.r, .int .u8 Q.fg.toNat, .int .u8 Q.bg.toNat, .int .u8 Q.a.toNat] 44)).heap[w14.heap.size]? = some (.cells #[.int .i32 Q.r, .int .u8 Q.fg.toNat, .int .u8 Q.bg.toNat, .int .u8 Q.a.toNat] 44) := by simp -dsimp (disch := first | omega | (simp only [go_sem, seval]; first | done | omega)) only [go_sem, seval]
        generalize w14.alloc _ = w15 at hc15 hq15 ⊢
        have hl15 := lt_of_heap hq15
        have hc1115 := (hc13.trans0 hc14).trans0 hc15
        have hge : w11.heap.size ≤ w14.heap.size := (hc13.trans0 hc14).size
        refine Join0.cut (fun w' => Chg [] w11 w' ∧ w'.heap[w14.heap.size]? = some (.cells (V.at x y).cells.toArray 44)) ?_ ?_
        · simp -dsimp (disch := first | omega | (simp only [go_sem, seval]; first | done | omega)) only [go_sem, seval]
          refine BrW.dec (fun h4 => ?_) (fun h4 => ?_)
          · have hIk : I < k := by omega
            rw [if_pos hIk] at hVx
            simp -dsimp (disch := first | omega | (simp only [go_sem, seval]; first | done | omega)) only [go_sem, seval, hq15]
            refine BrW.dec (fun h5 => ?_) (fun h5 => ?_)
            · have hx0 : x = 0 := by omega
              rw [if_pos hx0] at hVx
              obtain ⟨b, o, rfl, hb', hcell⟩ := (hs.chg0 (hc010.trans0 hc1115)).get1 (g := fun n => .int .i64 n) (fun _ => rfl) (List.getElem?_eq_getElem (show I < l.length by omega))
              have hbd := and_bd l[I] 7 (by omega) (by omega)
              have hbw : b < w.heap.size := hs.lt (by rintro rfl; simp at hnl; omega) rfl
              have hs10 := hc010.size
              simp -dsimp (disch := first | omega | (simp only [go_sem, seval]; first | done | omega)) only [go_sem, seval, hcell]
              refine ⟨(hc1115.set _ _ (.inr hge)), ?_⟩
              rw [hVx, List.getD_eq_getElem?_getD, List.getElem?_eq_getElem (show I < l.length by omega)]
              rfl
            · rw [if_neg (by omega)] at hVx
              rw [hVx]
              exact ⟨hc1115.set _ _ (.inr hge), by simp -dsimp (disch := first | omega | (simp only [go_sem, seval]; first | done | omega)) only [go_sem, seval]; rfl⟩
          · rw [if_neg (by omega)] at hVx
            rw [if_pos (by omega)] at hQ
            have : ((I : Int) - k).toNat = I - k := by omega
            rw [hVx, ← this, hQ]
            exact ⟨hc1115, hq15⟩
        · rintro w16 ⟨hc16, hq16⟩
          have hv16 := hv10.chg0 hc16
          have hv161 := hv16.1
          rw [hVw, hVh] at hv161
          have hga := gat_c hVok (hv16.chg0 (Chg.refl _ _).drew).sx cap9 (x : Int) (y : Int)
          rw [if_pos (by omega)] at hga
          simp only [Gr.val, hVw, hVh, Int.toNat_natCast] at hga
          simp -dsimp (disch := first | omega | (simp only [go_sem, seval]; first | done | omega)) only [go_sem, seval, hv161, hq16]
          refine OpX.call grid_At_b rfl (Calls.ret (hga) ?_)
          rintro v w17 ⟨rfl, hc17⟩
          have hq17 := hc17.keep (show w16.drew.heap[w14.heap.size]? = _ from hq16) (by simp)
          simp -dsimp (disch := first | omega | (simp only [go_sem, seval]; first | done | omega)) only [go_sem, seval, hq17]
          exact hn3 (x + 1) _ ⟨hc16.trans0 ((Chg.refl _ _).drew.trans0 hc17), by omega⟩ (by omega)
      · simp -dsimp (disch := first | omega | (simp only [go_sem, seval]; first | done | omega)) only [go_sem, seval]
        exact hn2 (y + 1) _ ⟨hc13, by omega⟩ (by omega)
    · have hH12 := hH10.chg0 hc12
      simp -dsimp (disch := first | omega | (simp only [go_sem, seval]; first | done | omega)) only [go_sem, seval, hg121]
      have hvw := fun (w' : World) (hc' : Chg [] w12 w') (bk : Int) => hview_c (hH12.chg0 hc') h5ok h5r (hg12.chg0 hc').sx cap5 p1 hrows' bk
      simp only [hGl, hLl, Gr.val, h5w, h5h] at hvw
      refine OpX.call history_History_View_b rfl (Calls.ret (hvw _ (Chg.refl _ _).drew 1000) ?_)
      rintro v w13 ⟨⟨nb13, cap13, sp13, rfl, u1, u2, u3⟩, hc13⟩
      have hc13' : Chg [] w12 w13 := hc13.low_drew
      have hg13 := hg12.chg0 hc13'
      have hg131 := hg13.1
      rw [h5w, h5h] at hg131
      simp -dsimp (disch := first | omega | (simp only [go_sem, seval]; first | done | omega)) only [go_sem, seval, hg131]
      refine OpX.call history_History_View_b rfl (Calls.ret (hvw _ hc13' k) ?_)
      rintro v w14 ⟨⟨nb14, cap14, sp14, rfl, y1, y2, y3⟩, hc14⟩
      have e1 : k - min (Int.toNat 1000) k = 0 := by have : Int.toNat 1000 = 1000 := rfl; omega
      have e2 : k - min (k : Int).toNat k = 0 := by omega
      rw [e1] at u1 u3 ⊢
      rw [e2] at y1 y3 ⊢
      have hl0 : (Gr.of 3 M (viewRow G5 (vrows l k) 0)).cs.length ≤ 1000000000 := by
        refine Nat.le_trans (Gr.ok.le (Gr.of_ok (by omega) (by omega) (by omega) (by omega) fun y hy => ?_)) (by omega)
        unfold viewRow
        split
        · rename_i h9
          rw [mend_len, List.getD_eq_getElem?_getD, List.getElem?_eq_getElem h9]
          exact hrows _ (by rw [hGl]; exact List.getElem_mem _)
        · rw [h5ok.row_len (by omega), h5w]
      have s13 : SxC w14 (some 44) (some ⟨nb13, 0, none⟩) (Gr.of 3 M (viewRow G5 (vrows l k) 0)).cs := ⟨fun _ => ⟨nb13, 0, _, _, _, [], sp13, rfl, hc14.keep u3 (by simp), by simp [tagOk], by simp, rfl⟩⟩
      have s14 : SxC w14 (some 44) (some ⟨nb14, 0, none⟩) (Gr.of 3 M (viewRow G5 (vrows l k) 0)).cs := ⟨fun _ => ⟨nb14, 0, _, _, _, [], sp14, rfl, y3, by simp [tagOk], by simp, rfl⟩⟩
      refine OpX.call lyceumref06_Same_b rfl (Calls.ret (rsame6_c s13 s14 cap13 cap14 hl0) ?_)
      rintro v w15 ⟨rfl, hc15⟩
      refine Join1.inl ?_
      simp -dsimp (disch := first | omega | (simp only [go_sem, seval]; first | done | omega)) only [go_sem, seval]
      exact hK _ _ ⟨by simp, ((hc010.trans0 hc12).trans0 hc13').trans0 (hc14.trans0 hc15)⟩
end Go.Proofs.Ytdjdeahmhenchaa
