/- Helpers of this claim, part 4: engine, translated functions, contracts, plain laws. -/
import Derived.Test.YtjfembffjjijaaaB3
import Derived.Test.YtjfembffjjijaaaB1
import Derived.Test.YtjfembffjjijaaaB2
import Derived.Laws.BytesString
import Derived.Test.YtjfembffjjijaaaRows
import Derived.Lib.SmallJoins
set_option linter.unusedSimpArgs false
set_option linter.unusedVariables false
namespace Lyc
open Go
section
variable {P : Program}
theorem tarr_u {t : TypeId} {q : Nat × Nat} (h : tarr P t = some q) : ∃ e, P.underlying t = some (.array q.1 e) ∧ tsize P e = some q.2 := by
  unfold tarr at h
  cases hu : P.underlying t with
  | none => rw [hu] at h; simp at h
  | some d =>
    rw [hu] at h
    cases d <;> simp at h
    obtain ⟨m, hm, rfl⟩ := h
    exact ⟨_, rfl, hm⟩
theorem r_sliceA_hi (t ty : TypeId) (b o : Nat) (q : Nat × Nat) (k : IntKind) (i : Int) (h : tarr P t = some q) (h0 : 0 ≤ i) (h1 : i ≤ q.1) : PureRun P (.slice t (.const (.pointer (some ⟨b, o, none⟩))) none (some (.const (.int k i))) none) ty (.slice (some ⟨b, o, none⟩) i.toNat q.1) := by
  obtain ⟨e, hu, hs⟩ := tarr_u h
  refine ⟨fun ρ hg w => ?_⟩
  simp [execOp, mkOper, hg.1, Instr.sliceAt, Instr.sureAddr, Instr.sliceBounds, Instr.sliceBound, asIntOf, run_underlying hu, run_size hs, h0, h1, Addr.add]
@[go_sem] theorem x_sliceA_hi (t ty : TypeId) (b o : Nat) (k : IntKind) (i : Int) (K : Value → World → Prop) (w : World) (h0 : 0 ≤ i) (h1 : i ≤ ((tarr P t).getD (0, 0)).1) : OpX P (.slice t (.const (.pointer (some ⟨b, o, none⟩))) none (some (.const (.int k i))) none) ty K w = OrK (tarr P t) (fun q => K (.slice (some ⟨b, o, none⟩) i.toNat q.1) w) (OpX P (.slice t (.const (.pointer (some ⟨b, o, none⟩))) none (some (.const (.int k i))) none) ty K w) () :=
  OrK_by (fun q h => (r_sliceA_hi t ty b o q k i h h0 (by rw [h] at h1; exact h1)).op K w) rfl
theorem r_slice3_hi (t ty : TypeId) (a : Option Addr) (len cap n : Nat) (k k' : IntKind) (i q : Int) (h : tslice P t = some n) (h0 : 0 ≤ i) (h1 : i ≤ q) (h2 : q ≤ cap) : PureRun P (.slice t (.const (.slice a len cap)) none (some (.const (.int k i))) (some (.const (.int k' q)))) ty (.slice a i.toNat q.toNat) := by
  obtain ⟨e, hu, hs⟩ := tslice_u h
  refine ⟨fun ρ hg w => ?_⟩
  have h4 : 0 ≤ q := by omega
  have h6 : i ≤ max q 0 := by omega
  cases a with
  | none =>
    simp [execOp, mkOper, hg.1, Instr.sliceAt, Instr.slice, Instr.sliceBounds, Instr.sliceBound, asIntOf, run_underlying hu, run_size hs, h0, h2, h4]
    intro hc; omega
  | some a =>
    obtain ⟨b, o, sp⟩ := a
    simp [execOp, mkOper, hg.1, Instr.sliceAt, Instr.slice, Instr.sliceBounds, Instr.sliceBound, asIntOf, run_underlying hu, run_size hs, h0, h2, h4, Addr.add]
    intro hc; omega
@[go_sem] theorem x_slice3_hi (t ty : TypeId) (a : Option Addr) (len cap : Nat) (k k' : IntKind) (i q : Int) (K : Value → World → Prop) (w : World) (h0 : 0 ≤ i) (h1 : i ≤ q) (h2 : q ≤ cap) : OpX P (.slice t (.const (.slice a len cap)) none (some (.const (.int k i))) (some (.const (.int k' q)))) ty K w = OrK (tslice P t) (fun _ => K (.slice a i.toNat q.toNat) w) (OpX P (.slice t (.const (.slice a len cap)) none (some (.const (.int k i))) (some (.const (.int k' q)))) ty K w) () :=
  OrK_by (fun n h => (r_slice3_hi t ty a len cap n k k' i q h h0 h1 h2).op K w) rfl
end
theorem wrap_u8_bv (x : Int) : IntKind.u8.wrap x = ((BitVec.ofInt 8 x).toNat : Int) := by
  rw [BitVec.toNat_ofInt]
  show x % 256 = _
  omega
end Lyc
namespace Go.Proofs.Ytjfembffjjijaaa
open Lyc Go
theorem pcolour_c (w : World) (n : Int) : Calls Try.prog 103 #[.int .i64 n] w (retK fun v w' => v = .int .u8 (hue n).toNat ∧ w = w') := by
  apply pen_colour_link
  intro K hK
  unfold pen_colour
  simp -dsimp (disch := first | omega | (simp only [go_sem, seval]; first | done | omega)) only [go_sem, seval]
  refine hK _ _ ⟨?_, rfl⟩
  rw [wrap_u8_bv]
  rfl
theorem ppart_c (w : World) (n : Int) : Calls Try.prog 107 #[.int .i64 n] w (retK fun v w' => v = .int .i64 (part43 n) ∧ w = w') := by
  apply pen_Colour_1_link
  intro K hK
  unfold pen_Colour_1
  simp -dsimp (disch := first | omega | (simp only [go_sem, seval]; first | done | omega)) only [go_sem, seval]
  have e : (min (max n 0) 255).tdiv 43 = part43 n := by unfold part43; rw [Int.tdiv_eq_ediv_of_nonneg (by omega)]
  have hb : 0 ≤ part43 n ∧ part43 n ≤ 255 := by unfold part43; omega
  rw [e, wrap_i64 _ (by omega) (by omega)]
  exact hK _ _ ⟨rfl, rfl⟩
theorem part43_bd (n : Int) : 0 ≤ part43 n ∧ part43 n ≤ 5 := by unfold part43; omega
theorem pColour_c (w : World) (r g b : Int) : Calls Try.prog 104 #[.int .i64 r, .int .i64 g, .int .i64 b] w (retK fun v w' => v = .int .u8 (rgb r g b).toNat ∧ w = w') := by
  have h1 := part43_bd r
  have h2 := part43_bd g
  have h3 := part43_bd b
  apply pen_Colour_link
  intro K hK
  unfold pen_Colour
  refine OpX.callV (us := []) (cs := []) pen_Colour_1_b rfl (Calls.ret (ppart_c w r) ?_)
  rintro v w1 ⟨rfl, rfl⟩
  simp -dsimp (disch := first | omega | (simp only [go_sem, seval]; first | done | omega)) only [go_sem, seval]
  refine OpX.callV (us := []) (cs := []) pen_Colour_1_b rfl (Calls.ret (ppart_c w g) ?_)
  rintro v w1 ⟨rfl, rfl⟩
  simp -dsimp (disch := first | omega | (simp only [go_sem, seval]; first | done | omega)) only [go_sem, seval]
  refine OpX.callV (us := []) (cs := []) pen_Colour_1_b rfl (Calls.ret (ppart_c w b) ?_)
  rintro v w1 ⟨rfl, rfl⟩
  simp -dsimp (disch := first | omega | (simp only [go_sem, seval]; first | done | omega)) only [go_sem, seval]
  refine hK _ _ ⟨congrArg (Value.int .u8) ?_, rfl⟩
  unfold rgb
  rw [← wrap_u8_bv, wrap_u8 _ (by omega) (by omega)]
section
attribute [-go_sem] x_build x_buildA
theorem pways_c (w : World) : Calls Try.prog 105 #[] w (retK fun v w' => v = .agg #[.int .u8 0, .int .u8 1, .int .u8 2, .int .u8 4, .int .u8 8, .int .u8 16, .int .u8 0, .int .u8 32] ∧ Chg [] w w') := by
  apply pen_ways_link
  intro K hK
  unfold pen_ways
  simp -dsimp (disch := first | omega | (simp only [go_sem, seval]; first | done | omega)) only [go_sem, seval]
  refine OpX.build (c := #[.int .u8 0, .int .u8 1, .int .u8 2, .int .u8 4, .int .u8 8, .int .u8 16, .int .u8 0, .int .u8 32]) (by kernel_rfl) ?_
  simp -dsimp (disch := first | omega | (simp only [go_sem, seval]; first | done | omega)) only [go_sem, seval]
  exact hK _ _ ⟨rfl, (Chg.refl _ _).alloc _⟩
end
def fI (n : Int) : List Value := [.int .i64 n]
def LeftAt (w : World) (b5 : Nat) (l : List Int) : Prop := ∃ g o cap, w.heap[b5]? = some (.cells #[.slice (some ⟨g, o, none⟩) l.length cap] 42) ∧ l.length ≤ cap ∧ l.length ≤ 8 ∧ g ≠ b5 ∧ ∃ e, (e = 35 ∨ e = 3) ∧ Sx w (some e) fI (some ⟨g, o, none⟩) l
theorem LeftAt.chg0 {w w' : World} {b5 : Nat} {l : List Int} (h : LeftAt w b5 l) (hc : Chg [] w w') : LeftAt w' b5 l := by
  obtain ⟨g, o, cap, h1, h2, h3, h4, e, he, h5⟩ := h
  exact ⟨g, o, cap, hc.keep h1 (by simp), h2, h3, h4, e, he, h5.chg0 hc⟩
theorem LeftAt.low {w w' : World} {b b5 : Nat} {l : List Int} (h : LeftAt w b5 l) (hc : Chg [b] w w') (hb : b ≠ b5) {c : Array Value} {fr : Nat × Nat} (hg : w.heap[b]? = some (.cells c 39 fr)) : LeftAt w' b5 l := by
  obtain ⟨g, o, cap, h1, h2, h3, h4, e, he, h5⟩ := h
  refine ⟨g, o, cap, hc.keep h1 (by simp; omega), h2, h3, h4, e, he, h5.chg hc ?_⟩
  intro b' o' ha hne hm
  rw [List.mem_singleton.1 hm] at ha
  rcases he with rfl | rfl
  · exact h5.ne ha hne hg rfl rfl
  · exact h5.ne ha hne hg rfl rfl
theorem ptake_c {w : World} {b5 : Nat} {l : List Int} (hL : LeftAt w b5 l) (k : Nat) (hk : k ≤ 8) : Calls Try.prog 92 #[.int .i64 k, .pointer (some ⟨b5, 0, none⟩)] w
    (retK fun v w' => (∃ g o cap, v = .slice (some ⟨g, o, none⟩) (l.take k).length cap ∧ g ≠ b5 ∧ Sx w' none fI (some ⟨g, o, none⟩) (l.take k)) ∧ LeftAt w' b5 (l.drop k) ∧ Chg [b5] w w') := by
  obtain ⟨g, o, cap, h1, h2, h3, h4, e5, he5, h5⟩ := hL
  have hl := lt_of_heap h1
  apply pen_Apply_1_link
  intro K hK
  unfold pen_Apply_1
  have e : min (k : Int) (l.length : Int) = ((min k l.length : Nat) : Int) := by omega
  simp -dsimp (disch := first | omega | (simp only [go_sem, seval]; first | done | omega)) only [go_sem, seval, h1, e]
  have hc : Chg [b5] w (setBlk w b5 (.cells #[.slice (some ⟨g, slo o cap (min k l.length) 1, none⟩) (l.length - min k l.length) (cap - min k l.length)] 42)) := (Chg.refl _ _).set _ _ (by simp)
  have h5' := h5.chg hc (fun b o' ha hne hm => by cases ha; exact h4 (List.mem_singleton.1 hm))
  have ht : l.take k = (l.drop 0).take (min k l.length) := by rw [List.drop_zero]; exact (List.take_eq_take_min ..).trans (by rfl)
  have hd : l.drop k = (l.drop (min k l.length)).take (l.length - min k l.length) := by
    rcases Nat.le_total k l.length with hkl | hkl
    · rw [Nat.min_eq_left hkl, List.take_of_length_le (by simp)]
    · rw [Nat.min_eq_right hkl, List.drop_eq_nil_of_le hkl, List.drop_eq_nil_of_le (Nat.le_refl _)]; simp
  refine hK _ _ ⟨⟨g, o, min k l.length, by rw [List.length_take], h4, ?_⟩, ⟨g, slo o cap (min k l.length) 1, cap - min k l.length, ?_, ?_, ?_, h4, e5, he5, ?_⟩, hc⟩
  · rw [ht]
    exact (h5'.sub (m := 1) (fun _ => rfl) 0 _ _ (.inr (.inr (by simp)))).untag
  · have : (l.drop k).length = l.length - min k l.length := by rw [List.length_drop]; omega
    rw [this]
    simp -dsimp (disch := first | omega | (simp only [go_sem, seval]; first | done | omega)) only [go_sem, seval]
  · rw [List.length_drop]; omega
  · rw [List.length_drop]; omega
  · rw [hd]
    refine h5'.sub (m := 1) (fun _ => rfl) (min k l.length) _ _ ?_
    unfold slo
    split
    · left; omega
    · right; right; rfl
theorem fI_cell {w : World} {g o : Nat} {l : List Int} (h : Sx w none fI (some ⟨g, o, none⟩) l) {i : Nat} {n : Int} (hi : l[i]? = some n) : cellAt w.heap[g]? (o + i) = some (.int .i64 n) := by
  obtain ⟨b, o', h1, h2, h3⟩ := h.get1 (g := fun n => Value.int .i64 n) (fun _ => rfl) hi
  cases h1; exact h3
def takeF (b5 : Nat) : Value := .func (.func 92) #[] #[.pointer (some ⟨b5, 0, none⟩)]
theorem pchosen_c {w : World} {b5 : Nat} {l : List Int} (hL : LeftAt w b5 l) : Calls Try.prog 93 #[takeF b5] w
    (retK fun v w' => v = .tuple #[.int .u8 ((chosenP l).1.getD 0).toNat, .bool (chosenP l).1.isSome] ∧ LeftAt w' b5 (chosenP l).2 ∧ Chg [b5] w w') := by
  apply pen_chosen_link
  intro K hK
  unfold pen_chosen
  refine OpX.callV (us := []) (cs := [_]) pen_Apply_1_b rfl (Calls.ret (ptake_c hL 1 (by omega)) ?_)
  rintro v w1 ⟨⟨g, o, cap, rfl, hg, hs⟩, hL1, hc1⟩
  have last : ∀ (w2 : World) (l2 : List Int), Chg [b5] w w2 → LeftAt w2 b5 l2 → chosenP l = (none, []) → OpX Try.prog (.call { callee := .value (.const (takeF b5)), args := #[.const (.int .i64 8)], argTypes := #[3] }) 42 (fun _ => K (.tuple #[(.int .u8 0), (.bool false)])) w2 := by
    intro w2 l2 hc2 hL2 e
    have hl2 : l2.length ≤ 8 := by obtain ⟨_, _, _, _, _, h3, _⟩ := hL2; exact h3
    refine OpX.callV (us := []) (cs := [_]) pen_Apply_1_b rfl (Calls.ret (ptake_c hL2 8 (by omega)) ?_)
    rintro v w3 ⟨-, hL3, hc3⟩
    rw [List.drop_eq_nil_of_le hl2] at hL3
    refine hK _ _ ⟨by rw [e]; rfl, by rw [e]; exact hL3, hc2.trans hc3 (by simp)⟩
  rcases l with _ | ⟨n, l⟩
  · refine Join0.cut (fun w' => w1 = w') ?_ ?_
    · refine Join1.cut (fun v w' => v = .bool false ∧ w1 = w') ?_ ?_
      · simp -dsimp (disch := first | omega | (simp only [go_sem, seval]; first | done | omega)) only [go_sem, seval]
        exact BrW.dec (fun h => by simp at h) (fun _ => ⟨rfl, rfl⟩)
      · rintro v w2 ⟨rfl, rfl⟩
        simp -dsimp (disch := first | omega | (simp only [go_sem, seval]; first | done | omega)) only [go_sem, seval]
    · rintro w2 rfl
      refine Join0.cut (fun w' => w1 = w') ?_ ?_
      · refine Join1.cut (fun v w' => v = .bool false ∧ w1 = w') ?_ ?_
        · simp -dsimp (disch := first | omega | (simp only [go_sem, seval]; first | done | omega)) only [go_sem, seval]
          exact BrW.dec (fun h => by simp at h) (fun _ => ⟨rfl, rfl⟩)
        · rintro v w2 ⟨rfl, rfl⟩
          simp -dsimp (disch := first | omega | (simp only [go_sem, seval]; first | done | omega)) only [go_sem, seval]
      · rintro w2 rfl
        exact last _ _ hc1 hL1 rfl
  · have e1 : (n :: l).take 1 = [n] := rfl
    have e2 : (n :: l).drop 1 = l := rfl
    rw [e1] at hs ⊢
    rw [e2] at hL1
    have hcell := fI_cell hs (i := 0) rfl
    simp only [Nat.add_zero] at hcell
    refine Join0.cut (fun w' => (∃ l2, LeftAt w' b5 l2 ∧ (n ≠ 5 → l2 = l)) ∧ (n = 5 → chosenP (n :: l) = (none, [])) ∧ Chg [b5] w w' ∧ Sx w' none fI (some ⟨g, o, none⟩) [n]) ?_ ?_
    · refine Join1.cut (fun v w' => v = .bool (decide (n = 5)) ∧ w1 = w') ?_ ?_
      · simp -dsimp (disch := first | omega | (simp only [go_sem, seval]; first | done | omega)) only [go_sem, seval, hcell]
      · rintro v w2 ⟨rfl, rfl⟩
        refine BrW.dec (fun h5 => ?_) (fun h5 => ?_)
        · subst h5
          refine OpX.callV (us := []) (cs := [_]) pen_Apply_1_b rfl (Calls.ret (ptake_c hL1 1 (by omega)) ?_)
          rintro v w2 ⟨⟨g2, o2, cap2, rfl, hg2, hs2⟩, hL2, hc2⟩
          have hs' := hs.chg hc2 (fun b o' ha hne hm => by cases ha; exact hg (List.mem_singleton.1 hm))
          have hc3 := hc1.trans hc2 (by simp)
          rcases l with _ | ⟨m, l⟩
          · simp -dsimp (disch := first | omega | (simp only [go_sem, seval]; first | done | omega)) only [go_sem, seval]
            refine BrW.dec (fun h => by simp at h) (fun _ => ?_)
            exact ⟨⟨_, hL2, fun h => absurd rfl h⟩, fun _ => rfl, hc3, hs'⟩
          · have e3 : (m :: l).take 1 = [m] := rfl
            have e4 : (m :: l).drop 1 = l := rfl
            rw [e3] at hs2 ⊢
            rw [e4] at hL2
            have hcell2 := fI_cell hs2 (i := 0) rfl
            simp only [Nat.add_zero] at hcell2
            simp -dsimp (disch := first | omega | (simp only [go_sem, seval]; first | done | omega)) only [go_sem, seval, hcell2]
            refine Join1.cut (fun v w' => v = .bool (decide (m < 0 ∨ 255 < m)) ∧ w2 = w') ?_ ?_
            · simp -dsimp (disch := first | omega | (simp only [go_sem, seval]; first | done | omega)) only [go_sem, seval]
              refine BrW.dec (fun d1 => ?_) (fun d1 => ?_)
              · exact ⟨congrArg Value.bool (decide_eq_true (.inl d1)).symm, rfl⟩
              · simp -dsimp (disch := first | omega | (simp only [go_sem, seval]; first | done | omega)) only [go_sem, seval]
                exact congrArg Value.bool (decide_eq_decide.2 (by omega))
            · rintro v w3 ⟨rfl, rfl⟩
              refine BrW.dec (fun d1 => ?_) (fun d1 => ?_)
              · have e : chosenP (5 :: m :: l) = (none, l) := by unfold chosenP; simp; omega
                rw [e] at hK
                exact hK _ _ ⟨rfl, hL2, hc3⟩
              · have e : chosenP (5 :: m :: l) = (some (hue m), l) := by unfold chosenP; simp; omega
                rw [e] at hK
                refine OpX.call pen_colour_b rfl (Calls.ret (pcolour_c w2 m) ?_)
                rintro v w3 ⟨rfl, rfl⟩
                exact hK _ _ ⟨rfl, hL2, hc3⟩
        · exact ⟨⟨_, hL1, fun _ => rfl⟩, fun h => absurd h h5, hc1, hs⟩
    · rintro w2 ⟨⟨l2, hL2, hl2⟩, h5, hc2, hs2⟩
      have hcell2 := fI_cell hs2 (i := 0) rfl
      simp only [Nat.add_zero] at hcell2
      refine Join0.cut (fun w' => (∃ l2, LeftAt w' b5 l2) ∧ chosenP (n :: l) = (none, []) ∧ Chg [b5] w w') ?_ ?_
      · refine Join1.cut (fun v w' => v = .bool (decide (n = 2)) ∧ w2 = w') ?_ ?_
        · simp -dsimp (disch := first | omega | (simp only [go_sem, seval]; first | done | omega)) only [go_sem, seval, hcell2]
        · rintro v w3 ⟨rfl, rfl⟩
          refine BrW.dec (fun d1 => ?_) (fun d1 => ?_)
          · subst d1
            have := hl2 (by decide)
            subst this
            refine OpX.callV (us := []) (cs := [_]) pen_Apply_1_b rfl (Calls.ret (ptake_c hL2 3 (by omega)) ?_)
            rintro v w3 ⟨⟨g3, o3, cap3, rfl, hg3, hs3⟩, hL3, hc3⟩
            have hc4 := hc2.trans hc3 (by simp)
            simp -dsimp (disch := first | omega | (simp only [go_sem, seval]; first | done | omega)) only [go_sem, seval]
            refine BrW.dec (fun h => ?_) (fun h => ?_)
            · rcases l2 with _ | ⟨r, _ | ⟨gg, _ | ⟨bb, l3⟩⟩⟩
              · simp at h
              · simp at h
              · simp at h
              have e3 : (r :: gg :: bb :: l3).take 3 = [r, gg, bb] := rfl
              rw [e3] at hs3 ⊢
              have q0 := fI_cell hs3 (i := 0) rfl
              have q1 := fI_cell hs3 (i := 1) rfl
              have q2 := fI_cell hs3 (i := 2) rfl
              simp only [Nat.add_zero] at q0
              have e : chosenP (2 :: r :: gg :: bb :: l3) = (some (rgb r gg bb), l3) := rfl
              rw [e] at hK
              simp -dsimp (disch := first | omega | (simp only [go_sem, seval]; first | done | omega)) only [go_sem, seval, q0, q1, q2]
              refine OpX.call pen_Colour_b rfl (Calls.ret (pColour_c _ r gg bb) ?_)
              rintro v w4 ⟨rfl, rfl⟩
              exact hK _ _ ⟨rfl, hL3.chg0 (Chg.refl _ _).drew, hc4.drew⟩
            · refine ⟨⟨_, hL3⟩, ?_, hc4⟩
              rcases l2 with _ | ⟨r, _ | ⟨gg, _ | ⟨bb, l3⟩⟩⟩
              · rfl
              · rfl
              · rfl
              · simp at h
          · refine ⟨⟨_, hL2⟩, ?_, hc2⟩
            by_cases h : n = 5
            · exact h5 h
            · unfold chosenP
              split
              · simp_all
              · simp_all
              · rfl
      · rintro w3 ⟨⟨l3, hL3⟩, e, hc3⟩
        exact last _ _ hc3 hL3 e
def ObeyR (w : World) (d : Cel) (w' : World) : Prop := Chg [] w w' ∧ w'.heap[w.heap.size]? = some (.cells d.cells.toArray 39) ∧ w'.heap[w.heap.size + 1]? = some (.cells #[.int .i32 0, .int .u8 0, .int .u8 0, .int .u8 0] 39)
theorem pobey_c (w : World) (c : Cel) (n : Int) (n0 : i64ok n) : Calls Try.prog 94 #[c.val, .int .i64 n] w (retK fun v w' => v = (obeyP c n).val ∧ Chg [] w w') := by
  unfold i64ok at n0
  apply pen_obey_link
  intro K hK
  unfold pen_obey
  simp -dsimp (disch := first | omega | (simp only [go_sem, seval]; first | done | omega)) only [go_sem, seval]
  have hc1 : Chg [] w ((w.alloc (.cells c.cells.toArray 39)).alloc (.cells #[.int .i32 0, .int .u8 0, .int .u8 0, .int .u8 0] 39)) := chg_a2 _ _ _
  have hz : (w.alloc (.cells #[.int .i32 c.r, .int .u8 c.fg.toNat, .int .u8 c.bg.toNat, .int .u8 c.a.toNat] 39)).heap.size = w.heap.size + 1 := by simp -dsimp (disch := first | omega | (simp only [go_sem, seval]; first | done | omega)) only [go_sem, seval]
  rw [hz]
  obtain ⟨w1, hw1⟩ : ∃ w1, w1 = ((w.alloc (.cells #[.int .i32 c.r, .int .u8 c.fg.toNat, .int .u8 c.bg.toNat, .int .u8 c.a.toNat] 39)).alloc (.cells #[.int .i32 0, .int .u8 0, .int .u8 0, .int .u8 0] 39)) := ⟨_, rfl⟩
  rw [← hw1]
  simp only [Cel.cells] at hc1
  rw [← hw1] at hc1
  have hp1 : w1.heap[w.heap.size]? = some (.cells #[.int .i32 c.r, .int .u8 c.fg.toNat, .int .u8 c.bg.toNat, .int .u8 c.a.toNat] 39) := by rw [hw1]; simp -dsimp (disch := first | omega | (simp only [go_sem, seval]; first | done | omega)) only [go_sem, seval]
  have ho1 : w1.heap[w.heap.size + 1]? = some (.cells #[.int .i32 0, .int .u8 0, .int .u8 0, .int .u8 0] 39) := by rw [hw1]; simp -dsimp (disch := first | omega | (simp only [go_sem, seval]; first | done | omega)) only [go_sem, seval]
  clear hw1 hz
  refine OpX.call pen_ways_b rfl (Calls.ret (pways_c w1) ?_)
  rintro v w2 ⟨rfl, hc2⟩
  have hl1 := lt_of_heap (hc2.keep ho1 (by simp))
  simp -dsimp (disch := first | omega | (simp only [go_sem, seval]; first | done | omega)) only [go_sem, seval]
  obtain ⟨w3, hw3⟩ : ∃ w3, w3 = (w2.alloc (.cells #[.int .u8 0, .int .u8 1, .int .u8 2, .int .u8 4, .int .u8 8, .int .u8 16, .int .u8 0, .int .u8 32] 131)) := ⟨_, rfl⟩
  rw [← hw3]
  have hc3 : Chg [] w w3 := by rw [hw3]; exact (hc1.trans0 hc2).alloc _
  have hp : w3.heap[w.heap.size]? = some (.cells #[.int .i32 c.r, .int .u8 c.fg.toNat, .int .u8 c.bg.toNat, .int .u8 c.a.toNat] 39) := by rw [hw3]; exact ((Chg.refl [] _).alloc _).keep (hc2.keep hp1 (by simp)) (by simp)
  have ho : w3.heap[w.heap.size + 1]? = some (.cells #[.int .i32 0, .int .u8 0, .int .u8 0, .int .u8 0] 39) := by rw [hw3]; exact ((Chg.refl [] _).alloc _).keep (hc2.keep ho1 (by simp)) (by simp)
  have hq : w3.heap[w2.heap.size]? = some (.cells #[.int .u8 0, .int .u8 1, .int .u8 2, .int .u8 4, .int .u8 8, .int .u8 16, .int .u8 0, .int .u8 32] 131) := by rw [hw3]; simp -dsimp (disch := first | omega | (simp only [go_sem, seval]; first | done | omega)) only [go_sem, seval]
  have hl3 := lt_of_heap ho
  clear hw3 hc1 hc2 hp1 ho1
  obtain ⟨D, hD⟩ : ∃ D, D = obeyP c n := ⟨_, rfl⟩
  rw [← hD] at hK
  refine Join0.cut (fun w' => ObeyR w D w') ?_ ?_
  · have done : ∀ (f b a : BitVec 8) (w4 : World), (w4 = setBlk w3 w.heap.size (.cells #[.int .i32 c.r, .int .u8 f.toNat, .int .u8 b.toNat, .int .u8 a.toNat] 39) ∨ w4 = (setBlk w3 w.heap.size (.cells #[.int .i32 c.r, .int .u8 f.toNat, .int .u8 b.toNat, .int .u8 a.toNat] 39)).drew) → D = ⟨c.r, f, b, a⟩ →
        ObeyR w D w4 := by
      intro f b a w4 h4 e
      rw [e]
      have hcc := hc3.set w.heap.size (.cells #[.int .i32 c.r, .int .u8 f.toNat, .int .u8 b.toNat, .int .u8 a.toNat] 39) (.inr (Nat.le_refl _))
      rcases h4 with rfl | rfl
      · exact ⟨hcc, (by simp -dsimp (disch := first | omega | (simp only [go_sem, seval]; first | done | omega)) only [go_sem, seval]), (by simp -dsimp (disch := first | omega | (simp only [go_sem, seval]; first | done | omega)) only [go_sem, seval, ho])⟩
      · exact ⟨hcc.drew, (by simp -dsimp (disch := first | omega | (simp only [go_sem, seval]; first | done | omega)) only [go_sem, seval]), (by simp -dsimp (disch := first | omega | (simp only [go_sem, seval]; first | done | omega)) only [go_sem, seval, ho])⟩
    unfold obeyP at hD
    simp -dsimp (disch := first | omega | (simp only [go_sem, seval]; first | done | omega)) only [go_sem, seval]
    refine BrW.dec (fun d1 => ?_) (fun d1 => ?_)
    · rw [if_pos d1] at hD
      simp -dsimp (disch := first | omega | (simp only [go_sem, seval]; first | done | omega)) only [go_sem, seval, hp]
      exact done 0 0 0 _ (.inl rfl) hD
    rw [if_neg d1] at hD
    refine Join1.cut (fun v w' => v = .bool (decide (0 < n ∧ n < 8)) ∧ w3 = w') ?_ ?_
    · simp -dsimp (disch := first | omega | (simp only [go_sem, seval]; first | done | omega)) only [go_sem, seval]
      refine BrW.dec (fun g1 => ?_) (fun g1 => ?_)
      · simp -dsimp (disch := first | omega | (simp only [go_sem, seval]; first | done | omega)) only [go_sem, seval]
        exact congrArg Value.bool (decide_eq_decide.2 (by omega))
      · exact ⟨congrArg Value.bool (decide_eq_false (by omega)).symm, rfl⟩
    rintro v w4 ⟨rfl, rfl⟩
    refine BrW.dec (fun d2 => ?_) (fun d2 => ?_)
    · rw [if_pos d2] at hD
      have hn : n = 1 ∨ n = 2 ∨ n = 3 ∨ n = 4 ∨ n = 5 ∨ n = 6 ∨ n = 7 := by omega
      rcases hn with rfl | rfl | rfl | rfl | rfl | rfl | rfl <;> (simp -dsimp (disch := first | omega | (simp only [go_sem, seval]; first | done | omega)) only [go_sem, seval, hp, hq, bitV_or_u8]; exact done c.fg c.bg _ _ (.inr rfl) hD)
    rw [if_neg d2] at hD
    simp -dsimp (disch := first | omega | (simp only [go_sem, seval]; first | done | omega)) only [go_sem, seval]
    refine BrW.dec (fun d3 => ?_) (fun d3 => ?_)
    · rw [if_pos d3] at hD
      simp -dsimp (disch := first | omega | (simp only [go_sem, seval]; first | done | omega)) only [go_sem, seval, hp, bitV_andNot_u8]
      exact done c.fg c.bg _ _ (.inl rfl) hD
    rw [if_neg d3] at hD
    refine Join1.cut (fun v w' => v = .bool (decide (23 ≤ n ∧ n ≤ 27)) ∧ w3 = w') ?_ ?_
    · simp -dsimp (disch := first | omega | (simp only [go_sem, seval]; first | done | omega)) only [go_sem, seval]
      refine BrW.dec (fun g1 => ?_) (fun g1 => ?_)
      · simp -dsimp (disch := first | omega | (simp only [go_sem, seval]; first | done | omega)) only [go_sem, seval]
        exact congrArg Value.bool (decide_eq_decide.2 (by omega))
      · exact ⟨congrArg Value.bool (decide_eq_false (by omega)).symm, rfl⟩
    rintro v w4 ⟨rfl, rfl⟩
    refine BrW.dec (fun d4 => ?_) (fun d4 => ?_)
    · rw [if_pos d4] at hD
      have hn : n = 23 ∨ n = 24 ∨ n = 25 ∨ n = 26 ∨ n = 27 := by omega
      rcases hn with rfl | rfl | rfl | rfl | rfl <;> (simp -dsimp (disch := first | omega | (simp only [go_sem, seval]; first | done | omega)) only [go_sem, seval, hp, hq, bitV_andNot_u8]; exact done c.fg c.bg _ _ (.inr rfl) hD)
    rw [if_neg d4] at hD
    refine Join1.cut (fun v w' => v = .bool (decide (30 ≤ n ∧ n ≤ 37)) ∧ w3 = w') ?_ ?_
    · simp -dsimp (disch := first | omega | (simp only [go_sem, seval]; first | done | omega)) only [go_sem, seval]
      refine BrW.dec (fun g1 => ?_) (fun g1 => ?_)
      · simp -dsimp (disch := first | omega | (simp only [go_sem, seval]; first | done | omega)) only [go_sem, seval]
        exact congrArg Value.bool (decide_eq_decide.2 (by omega))
      · exact ⟨congrArg Value.bool (decide_eq_false (by omega)).symm, rfl⟩
    rintro v w4 ⟨rfl, rfl⟩
    refine BrW.dec (fun d5 => ?_) (fun d5 => ?_)
    · rw [if_pos d5] at hD
      simp -dsimp (disch := first | omega | (simp only [go_sem, seval]; first | done | omega)) only [go_sem, seval]
      refine OpX.call pen_colour_b rfl (Calls.ret (pcolour_c _ (n - 30)) ?_)
      rintro v w4 ⟨rfl, rfl⟩
      simp -dsimp (disch := first | omega | (simp only [go_sem, seval]; first | done | omega)) only [go_sem, seval, hp]
      exact done (hue (n - 30)) c.bg c.a _ (.inl rfl) hD
    rw [if_neg d5] at hD
    simp -dsimp (disch := first | omega | (simp only [go_sem, seval]; first | done | omega)) only [go_sem, seval]
    refine BrW.dec (fun d6 => ?_) (fun d6 => ?_)
    · rw [if_pos d6] at hD
      simp -dsimp (disch := first | omega | (simp only [go_sem, seval]; first | done | omega)) only [go_sem, seval, hp]
      exact done 0 c.bg c.a _ (.inl rfl) hD
    rw [if_neg d6] at hD
    refine Join1.cut (fun v w' => v = .bool (decide (40 ≤ n ∧ n ≤ 47)) ∧ w3 = w') ?_ ?_
    · simp -dsimp (disch := first | omega | (simp only [go_sem, seval]; first | done | omega)) only [go_sem, seval]
      refine BrW.dec (fun g1 => ?_) (fun g1 => ?_)
      · simp -dsimp (disch := first | omega | (simp only [go_sem, seval]; first | done | omega)) only [go_sem, seval]
        exact congrArg Value.bool (decide_eq_decide.2 (by omega))
      · exact ⟨congrArg Value.bool (decide_eq_false (by omega)).symm, rfl⟩
    rintro v w4 ⟨rfl, rfl⟩
    refine BrW.dec (fun d7 => ?_) (fun d7 => ?_)
    · rw [if_pos d7] at hD
      simp -dsimp (disch := first | omega | (simp only [go_sem, seval]; first | done | omega)) only [go_sem, seval]
      refine OpX.call pen_colour_b rfl (Calls.ret (pcolour_c _ (n - 40)) ?_)
      rintro v w4 ⟨rfl, rfl⟩
      simp -dsimp (disch := first | omega | (simp only [go_sem, seval]; first | done | omega)) only [go_sem, seval, hp]
      exact done c.fg (hue (n - 40)) c.a _ (.inl rfl) hD
    rw [if_neg d7] at hD
    simp -dsimp (disch := first | omega | (simp only [go_sem, seval]; first | done | omega)) only [go_sem, seval]
    refine BrW.dec (fun d8 => ?_) (fun d8 => ?_)
    · rw [if_pos d8] at hD
      simp -dsimp (disch := first | omega | (simp only [go_sem, seval]; first | done | omega)) only [go_sem, seval, hp]
      exact done c.fg 0 c.a _ (.inl rfl) hD
    rw [if_neg d8] at hD
    refine Join1.cut (fun v w' => v = .bool (decide (90 ≤ n ∧ n ≤ 97)) ∧ w3 = w') ?_ ?_
    · simp -dsimp (disch := first | omega | (simp only [go_sem, seval]; first | done | omega)) only [go_sem, seval]
      refine BrW.dec (fun g1 => ?_) (fun g1 => ?_)
      · simp -dsimp (disch := first | omega | (simp only [go_sem, seval]; first | done | omega)) only [go_sem, seval]
        exact congrArg Value.bool (decide_eq_decide.2 (by omega))
      · exact ⟨congrArg Value.bool (decide_eq_false (by omega)).symm, rfl⟩
    rintro v w4 ⟨rfl, rfl⟩
    refine BrW.dec (fun d9 => ?_) (fun d9 => ?_)
    · rw [if_pos d9] at hD
      simp -dsimp (disch := first | omega | (simp only [go_sem, seval]; first | done | omega)) only [go_sem, seval]
      refine OpX.call pen_colour_b rfl (Calls.ret (pcolour_c _ (n - 82)) ?_)
      rintro v w4 ⟨rfl, rfl⟩
      simp -dsimp (disch := first | omega | (simp only [go_sem, seval]; first | done | omega)) only [go_sem, seval, hp]
      exact done (hue (n - 82)) c.bg c.a _ (.inl rfl) hD
    rw [if_neg d9] at hD
    refine Join1.cut (fun v w' => v = .bool (decide (100 ≤ n ∧ n ≤ 107)) ∧ w3 = w') ?_ ?_
    · simp -dsimp (disch := first | omega | (simp only [go_sem, seval]; first | done | omega)) only [go_sem, seval]
      refine BrW.dec (fun g1 => ?_) (fun g1 => ?_)
      · simp -dsimp (disch := first | omega | (simp only [go_sem, seval]; first | done | omega)) only [go_sem, seval]
        exact congrArg Value.bool (decide_eq_decide.2 (by omega))
      · exact ⟨congrArg Value.bool (decide_eq_false (by omega)).symm, rfl⟩
    rintro v w4 ⟨rfl, rfl⟩
    refine BrW.dec (fun d10 => ?_) (fun d10 => ?_)
    · rw [if_pos d10] at hD
      simp -dsimp (disch := first | omega | (simp only [go_sem, seval]; first | done | omega)) only [go_sem, seval]
      refine OpX.call pen_colour_b rfl (Calls.ret (pcolour_c _ (n - 92)) ?_)
      rintro v w4 ⟨rfl, rfl⟩
      simp -dsimp (disch := first | omega | (simp only [go_sem, seval]; first | done | omega)) only [go_sem, seval, hp]
      exact done c.fg (hue (n - 92)) c.a _ (.inl rfl) hD
    rw [if_neg d10] at hD
    subst hD
    exact ⟨hc3, hp, ho⟩
  · rintro w4 ⟨hc4, hp4, ho4⟩
    have hl4 := lt_of_heap ho4
    simp -dsimp (disch := first | omega | (simp only [go_sem, seval]; first | done | omega)) only [go_sem, seval, hp4, ho4]
    exact hK _ _ ⟨rfl, hc4.set _ _ (.inr (by omega))⟩
end Go.Proofs.Ytjfembffjjijaaa
namespace Go.Proofs.Ytjfembffjjijaaa
open Lyc Go
theorem chosenP_mem {l : List Int} {x : Int} (h : x ∈ (chosenP l).2) : x ∈ l := by
  unfold chosenP at h
  split at h
  · exact List.mem_cons_of_mem _ (List.mem_cons_of_mem _ h)
  · exact List.mem_cons_of_mem _ (List.mem_cons_of_mem _ (List.mem_cons_of_mem _ (List.mem_cons_of_mem _ h)))
  · simp at h
theorem left_i64 {a : Act'} (hf : a.fits) : ∀ x ∈ a.left, i64ok x := by
  intro x hx
  unfold Act'.left at hx
  dsimp only at hx
  split at hx
  · simp at hx; subst hx; unfold i64ok; omega
  · exact hf.nums x (List.mem_of_mem_take hx)
def PenI (w : World) (b b5 : Nat) (R : Cel) (l : List Int) (c : Cel) (w' : World) : Prop :=
  Chg [] w w' ∧ w'.heap[b]? = some (.cells c.cells.toArray 39) ∧ w'.heap[b + 2]? = some (.cells #[.int .i32 0, .int .u8 0, .int .u8 0, .int .u8 0] 39) ∧ LeftAt w' b5 l ∧ (∀ x ∈ l, i64ok x) ∧ ∃ k, l.length ≤ k ∧ penGo k l c = R
theorem penGo_nil (k : Nat) (c : Cel) : penGo k [] c = c := by cases k <;> rfl
theorem papply_c (w : World) (c : Cel) (a : Act') (hf : a.fits) : Calls Try.prog 75 #[c.val, a.val] w (retK fun v w' => v = (penP c a).val ∧ Chg [] w w') := by
  apply pen_Apply_link
  intro K hK
  unfold pen_Apply
  simp -dsimp (disch := first | omega | (simp only [go_sem, seval]; first | done | omega)) only [go_sem, seval]
  have hz : (w.alloc (.cells #[.int .i32 c.r, .int .u8 c.fg.toNat, .int .u8 c.bg.toNat, .int .u8 c.a.toNat] 39)).heap.size = w.heap.size + 1 := by simp -dsimp (disch := first | omega | (simp only [go_sem, seval]; first | done | omega)) only [go_sem, seval]
  have hz2 : ((w.alloc (.cells #[.int .i32 c.r, .int .u8 c.fg.toNat, .int .u8 c.bg.toNat, .int .u8 c.a.toNat] 39)).alloc (.cells a.cells.toArray 35)).heap.size = w.heap.size + 2 := by simp -dsimp (disch := first | omega | (simp only [go_sem, seval]; first | done | omega)) only [go_sem, seval]
  simp only [Act'.cells] at hz2
  rw [hz2, hz]
  obtain ⟨w1, hw1⟩ : ∃ w1, w1 = (((w.alloc (.cells c.cells.toArray 39)).alloc (.cells a.cells.toArray 35)).alloc (.cells #[.int .i32 0, .int .u8 0, .int .u8 0, .int .u8 0] 39)) := ⟨_, rfl⟩
  have hc1 : Chg [] w w1 := by rw [hw1]; exact chg_a3 _ _ _ _
  have hp1 : w1.heap[w.heap.size]? = some (.cells c.cells.toArray 39) := by rw [hw1]; simp -dsimp (disch := first | omega | (simp only [go_sem, seval]; first | done | omega)) only [go_sem, seval]
  have ha1 : w1.heap[w.heap.size + 1]? = some (.cells a.cells.toArray 35) := by rw [hw1]; simp -dsimp (disch := first | omega | (simp only [go_sem, seval]; first | done | omega)) only [go_sem, seval]
  have ho1 : w1.heap[w.heap.size + 2]? = some (.cells #[.int .i32 0, .int .u8 0, .int .u8 0, .int .u8 0] 39) := by rw [hw1]; simp -dsimp (disch := first | omega | (simp only [go_sem, seval]; first | done | omega)) only [go_sem, seval]
  have hl1 := lt_of_heap ho1
  simp only [Act'.cells, Cel.cells] at hw1
  rw [← hw1]
  clear hw1 hz hz2
  refine Join1.cut (fun v w' => v = .bool (decide (a.kind ≠ 4 ∨ a.r ≠ 109 ∨ a.priv ≠ 0 ∨ a.mid ≠ 0)) ∧ w1 = w') ?_ ?_
  · simp -dsimp (disch := first | omega | (simp only [go_sem, seval]; first | done | omega)) only [go_sem, seval, ha1]
    refine BrW.dec (fun g1 => ?_) (fun g1 => ?_)
    · exact ⟨congrArg Value.bool (decide_eq_true (.inl g1)).symm, rfl⟩
    simp -dsimp (disch := first | omega | (simp only [go_sem, seval]; first | done | omega)) only [go_sem, seval, ha1]
    refine BrW.dec (fun g2 => ?_) (fun g2 => ?_)
    · exact ⟨congrArg Value.bool (decide_eq_true (.inr (.inl g2))).symm, rfl⟩
    simp -dsimp (disch := first | omega | (simp only [go_sem, seval]; first | done | omega)) only [go_sem, seval, ha1]
    refine BrW.dec (fun g3 => ?_) (fun g3 => ?_)
    · exact ⟨congrArg Value.bool (decide_eq_true (.inr (.inr (.inl g3)))).symm, rfl⟩
    simp -dsimp (disch := first | omega | (simp only [go_sem, seval]; first | done | omega)) only [go_sem, seval, ha1]
    refine congrArg Value.bool (decide_eq_decide.2 ⟨fun h => .inr (.inr (.inr h)), fun h => ?_⟩)
    rcases h with h | h | h | h
    · exact absurd h g1
    · exact absurd h g2
    · exact absurd h g3
    · exact h
  rintro v w2 ⟨rfl, rfl⟩
  unfold penP at hK
  refine BrW.dec (fun d1 => ?_) (fun d1 => ?_)
  · rw [if_pos d1] at hK
    simp -dsimp (disch := first | omega | (simp only [go_sem, seval]; first | done | omega)) only [go_sem, seval, hp1, ho1]
    exact hK _ _ ⟨rfl, hc1.set _ _ (.inr (by omega))⟩
  rw [if_neg d1] at hK
  obtain ⟨R, hR⟩ : ∃ R, R = penGo 9 a.left c := ⟨_, rfl⟩
  rw [← hR] at hK
  simp -dsimp (disch := first | omega | (simp only [go_sem, seval]; first | done | omega)) only [go_sem, seval, ha1]
  refine Join0.cut (fun w' => PenI w w.heap.size w1.heap.size R a.left c w') ?_ ?_
  · obtain ⟨n, hn⟩ : ∃ n, n = (min (max a.n 0) 8).toNat := ⟨_, rfl⟩
    have hn8 : n ≤ 8 := by omega
    rw [← hn]
    obtain ⟨w2, hw2⟩ : ∃ w2, w2 = w1.alloc (.cells #[.slice (some ⟨w.heap.size + 1, 5, none⟩) n 8] 42) := ⟨_, rfl⟩
    have hc2 : Chg [] w1 w2 := by rw [hw2]; exact chg_a1 _ _
    have h52 : w2.heap[w1.heap.size]? = some (.cells #[.slice (some ⟨w.heap.size + 1, 5, none⟩) n 8] 42) := by rw [hw2]; simp -dsimp (disch := first | omega | (simp only [go_sem, seval]; first | done | omega)) only [go_sem, seval]
    have hl52 := lt_of_heap h52
    have ha2 := hc2.keep ha1 (by simp)
    have hsx : Sx w2 (some 35) fI (some ⟨w.heap.size + 1, 5, none⟩) (a.nums.take n) := by
      have h0 : Sx w2 (some 35) fI (some ⟨w.heap.size + 1, 5, none⟩) a.nums := ⟨fun _ => ⟨w.heap.size + 1, 5, _, _, _, a.cells.take 5, [], rfl, ha2, by simp [tagOk], rfl, rfl⟩⟩
      have := h0.sub (m := 1) (fun _ => rfl) 0 n (some ⟨w.heap.size + 1, 5, none⟩) (.inr (.inr rfl))
      simpa using this
    have hlen : (a.nums.take n).length = n := by rw [List.length_take, show a.nums.length = 8 from rfl]; omega
    rw [← hw2]
    have hp2 := hc2.keep hp1 (by simp)
    have ho2 := hc2.keep ho1 (by simp)
    clear hw2
    simp -dsimp (disch := first | omega | (simp only [go_sem, seval]; first | done | omega)) only [go_sem, seval, h52]
    refine BrW.dec (fun d2 => ?_) (fun d2 => ?_)
    · have hleft : a.left = [0] := by
        unfold Act'.left
        dsimp only
        rw [← hn, if_pos (List.eq_nil_of_length_eq_zero (by omega))]
      simp -dsimp (disch := first | omega | (simp only [go_sem, seval]; first | done | omega)) only [go_sem, seval, h52]
      rw [hleft] at hR ⊢
      refine ⟨?_, ?_, ?_, ⟨w2.heap.size, 0, 1, ?_, by simp, by simp, Nat.ne_of_gt hl52, 3, .inr rfl, ?_⟩, by simp [i64ok], 9, by simp, hR.symm⟩
      · exact ((hc1.trans0 hc2).set w1.heap.size _ (.inr (by omega))).alloc _
      · simp -dsimp (disch := first | omega | (simp only [go_sem, seval]; first | done | omega)) only [go_sem, seval, hp2]
      · simp -dsimp (disch := first | omega | (simp only [go_sem, seval]; first | done | omega)) only [go_sem, seval, ho2]
      · simp -dsimp (disch := first | omega | (simp only [go_sem, seval]; first | done | omega)) only [go_sem, seval]
      · refine Sx.built (c := [.int .i64 0]) ?_ rfl
        simp -dsimp (disch := first | omega | (simp only [go_sem, seval]; first | done | omega)) only [go_sem, seval]
    · have hleft : a.left = a.nums.take n := by
        unfold Act'.left
        dsimp only
        rw [← hn, if_neg (fun h => d2 (by rw [h] at hlen; simp at hlen; omega))]
      refine ⟨hc1.trans0 hc2, hp2, ho2, ⟨w.heap.size + 1, 5, 8, ?_, ?_, ?_, by omega, 35, .inl rfl, ?_⟩, left_i64 hf, 9, ?_, hR.symm⟩
      · rw [hleft, hlen]; exact h52
      · rw [hleft, hlen]; exact hn8
      · rw [hleft, hlen]; exact hn8
      · rw [hleft]; exact hsx
      · rw [hleft, hlen]; omega
  · intro w2 hI
    simp -dsimp (disch := first | omega | (simp only [go_sem, seval]; first | done | omega)) only [go_sem, seval]
    refine Loop0.st (fun (st : List Int × Cel) w' => PenI w w.heap.size w1.heap.size R st.1 st.2 w') (fun st => st.1.length) (a.left, c) hI ?_
    clear hI hp1 ha1 ho1 w2
    rintro next ⟨l, c2⟩ w2 hn ⟨hc2, hp2, ho2, hL, hi, k, hk, hR⟩
    dsimp only at hp2 hL hi hk hR
    have hl2 := lt_of_heap ho2
    have hL' := hL
    obtain ⟨g, o, cap, q1, q2, q3, q4, -⟩ := hL'
    have hl3 := lt_of_heap q1
    simp -dsimp (disch := first | omega | (simp only [go_sem, seval]; first | done | omega)) only [go_sem, seval, q1]
    refine BrW.dec (fun d2 => ?_) (fun d2 => ?_)
    · rcases l with _ | ⟨n, l⟩
      · simp at d2
      obtain ⟨k, rfl⟩ : ∃ k', k = k' + 1 := ⟨k - 1, by simp at hk; omega⟩
      refine OpX.callV (us := []) (cs := [_]) pen_Apply_1_b rfl (Calls.ret (ptake_c hL 1 (by omega)) ?_)
      rintro v w3 ⟨⟨g3, o3, cap3, rfl, hg3, hs3⟩, hL3, hc3⟩
      have e1 : (n :: l).take 1 = [n] := rfl
      have e2 : (n :: l).drop 1 = l := rfl
      rw [e1] at hs3 ⊢
      rw [e2] at hL3
      have hcell := fI_cell hs3 (i := 0) rfl
      simp only [Nat.add_zero] at hcell
      have hc4 : Chg [] w w3 := hc2.trans hc3 (by simp; omega)
      have hp3 := hc3.keep hp2 (by simp; omega)
      have ho3 := hc3.keep ho2 (by simp; omega)
      have hl4 := lt_of_heap ho3
      simp -dsimp (disch := first | omega | (simp only [go_sem, seval]; first | done | omega)) only [go_sem, seval, hcell]
      refine Join1.cut (fun v w' => v = .bool (decide (n = 38 ∨ n = 48)) ∧ w3 = w') ?_ ?_
      · simp -dsimp (disch := first | omega | (simp only [go_sem, seval]; first | done | omega)) only [go_sem, seval]
        refine BrW.dec (fun g1 => ?_) (fun g1 => ?_)
        · exact ⟨congrArg Value.bool (decide_eq_true (.inl g1)).symm, rfl⟩
        · simp -dsimp (disch := first | omega | (simp only [go_sem, seval]; first | done | omega)) only [go_sem, seval]
          simp [g1]
      rintro v w4 ⟨rfl, rfl⟩
      unfold penGo at hR
      refine BrW.dec (fun d3 => ?_) (fun d3 => ?_)
      · refine OpX.call pen_chosen_b rfl (Calls.ret (pchosen_c hL3) ?_)
        rintro v w4 ⟨rfl, hL4, hc5⟩
        have hc6 : Chg [] w w4 := hc4.trans hc5 (by simp; omega)
        have hp4 := hc5.keep hp3 (by simp; omega)
        have ho4 := hc5.keep ho3 (by simp; omega)
        have hl5 := lt_of_heap ho4
        have hi' : ∀ x ∈ (chosenP l).2, i64ok x := fun x hx => hi x (List.mem_cons_of_mem _ (chosenP_mem hx))
        have hlen := chosenP_len l
        have hlk : (chosenP l).2.length ≤ k := by simp at hk; omega
        have hlt : (chosenP l).2.length < (n :: l).length := by simp; omega
        have hlt4 : w.heap.size < w4.heap.size := by omega
        obtain ⟨q, hq⟩ : ∃ q, q = (chosenP l).1 := ⟨_, rfl⟩
        rw [← hq] at hR ⊢
        have nx : ∀ (f b : BitVec 8) (w5 : World), w5 = setBlk w4 w.heap.size (.cells #[.int .i32 c2.r, .int .u8 f.toNat, .int .u8 b.toNat, .int .u8 c2.a.toNat] 39) → penGo k (chosenP l).2 ⟨c2.r, f, b, c2.a⟩ = R → next w5 := by
          intro f b w5 h5 e
          subst h5
          refine hn ((chosenP l).2, ⟨c2.r, f, b, c2.a⟩) _ ⟨hc6.set _ _ (.inr (Nat.le_refl _)), ?_, ?_, ?_, hi', k, hlk, e⟩ hlt
          · simp -dsimp (disch := first | omega | (simp only [go_sem, seval]; first | done | omega)) only [go_sem, seval]
          · simp -dsimp (disch := first | omega | (simp only [go_sem, seval]; first | done | omega)) only [go_sem, seval, ho4]
          · exact hL4.low ((Chg.refl [w.heap.size] w4).set _ _ (by simp)) (by omega) hp4
        simp -dsimp (disch := first | omega | (simp only [go_sem, seval]; first | done | omega)) only [go_sem, seval]
        rcases q with _ | x
        · refine Join1.cut (fun v w' => v = .bool false ∧ w4 = w') ?_ ?_
          · exact BrW.by (fun h => by simp at h) (fun _ => ⟨rfl, rfl⟩)
          rintro v w5 ⟨rfl, rfl⟩
          simp -dsimp (disch := first | omega | (simp only [go_sem, seval]; first | done | omega)) only [go_sem, seval]
          refine hn ((chosenP l).2, c2) _ ⟨hc6, hp4, ho4, hL4, hi', k, hlk, ?_⟩ hlt
          rw [← hR]
          split
          · rfl
          · split
            · rfl
            · omega
        · refine Join1.cut (fun v w' => v = .bool (decide (n = 38)) ∧ w4 = w') ?_ ?_
          · refine BrW.by (fun _ => ?_) (fun h => by simp at h)
            simp -dsimp (disch := first | omega | (simp only [go_sem, seval]; first | done | omega)) only [go_sem, seval]
          rintro v w5 ⟨rfl, rfl⟩
          refine BrW.dec (fun g1 => ?_) (fun g1 => ?_)
          · rw [if_pos g1] at hR
            simp -dsimp (disch := first | omega | (simp only [go_sem, seval]; first | done | omega)) only [go_sem, seval, hp4]
            exact nx x c2.bg _ rfl hR
          · rw [if_neg g1, if_pos (by omega)] at hR
            refine BrW.by (fun _ => ?_) (fun h => by simp at h)
            simp -dsimp (disch := first | omega | (simp only [go_sem, seval]; first | done | omega)) only [go_sem, seval, hp4]
            exact nx c2.fg x _ rfl hR
      · rw [if_neg (by omega), if_neg (by omega)] at hR
        simp -dsimp (disch := first | omega | (simp only [go_sem, seval]; first | done | omega)) only [go_sem, seval, hp3]
        refine OpX.call pen_obey_b rfl (Calls.ret (pobey_c _ c2 n (hi n (by simp))) ?_)
        rintro v w4 ⟨rfl, hc5⟩
        have hp4 := hc5.keep hp3 (by simp)
        have ho4 := hc5.keep ho3 (by simp)
        have hl5 := lt_of_heap ho4
        have hc6 := hc4.trans0 hc5
        simp -dsimp (disch := first | omega | (simp only [go_sem, seval]; first | done | omega)) only [go_sem, seval, hp4]
        refine hn (l, obeyP c2 n) _ ⟨hc6.set _ _ (.inr (Nat.le_refl _)), ?_, ?_, ?_, fun x hx => hi x (List.mem_cons_of_mem _ hx), k, by simp at hk; exact hk, hR⟩ (by simp)
        · simp -dsimp (disch := first | omega | (simp only [go_sem, seval]; first | done | omega)) only [go_sem, seval]
        · simp -dsimp (disch := first | omega | (simp only [go_sem, seval]; first | done | omega)) only [go_sem, seval, ho4]
        · exact (hL3.chg0 hc5).low ((Chg.refl [w.heap.size] w4).set _ _ (by simp)) (by omega) hp4
    · have hl0 : l = [] := by cases l with | nil => rfl | cons x l => simp at d2
      subst hl0
      rw [penGo_nil] at hR
      simp -dsimp (disch := first | omega | (simp only [go_sem, seval]; first | done | omega)) only [go_sem, seval, hp2, ho2]
      exact hK _ _ ⟨by rw [hR]; rfl, hc2.set _ _ (.inr (by omega))⟩
end Go.Proofs.Ytjfembffjjijaaa
namespace Go.Proofs.Ytjfembffjjijaaa
open Lyc Go
theorem Scm.wTabs (M : Scm) (h : M.S.tabs.length = 200) : putAt (some M.obj) 29 (List.replicate 200 (.bool false)) = some ({ M with S := { M.S with tabs := List.replicate 200 false } } : Scm).obj := by
  refine M.put _ 29 _ h (by rw [List.length_replicate]; omega) ?_
  have e1 : M.cells = M.cells.take 29 ++ (M.S.tabs.map Value.bool ++ [.bool M.S.wraps, .bool M.S.waits, .bool M.S.shown, M.gv]) := rfl
  have e2 : M.cells.drop (29 + (List.replicate 200 (Value.bool false)).length) = [.bool M.S.wraps, .bool M.S.waits, .bool M.S.shown, M.gv] := by
    rw [List.length_replicate, e1, ← List.append_assoc]
    exact List.drop_left' (by rw [List.length_append, List.length_map, h]; rfl)
  rw [e2]
  unfold Scm.cells Scm.end
  dsimp only
  rw [List.map_replicate]
  rfl
section
attribute [-go_sem] x_build x_buildA
theorem sset_c {w : World} {s : Nat} {M : Scm} (h : SAt w s M) (ok : M.S.ok) (a : Act') (hf : a.fits) : Calls Try.prog 56 #[.pointer (some ⟨s, 0, none⟩), a.val] w
    (retK fun v w' => v = .bool (M.S.set a).isSome ∧ Did w s M w' ((M.S.set a).getD M.S)) := by
  have hls := lt_of_heap h.hb
  have tl := h.tl
  have w1b := ok.w1
  have nx := ok.nx
  apply screen_Screen_set_link
  intro K hK
  unfold screen_Screen_set
  simp -dsimp (disch := first | omega | (simp only [go_sem, seval]; first | done | omega)) only [go_sem, seval]
  obtain ⟨w1, hw1⟩ : ∃ w1, w1 = w.alloc (.cells a.cells.toArray 35) := ⟨_, rfl⟩
  have hc1 : Chg [] w w1 := by rw [hw1]; exact chg_a1 _ _
  have ha1 : w1.heap[w.heap.size]? = some (.cells a.cells.toArray 35) := by rw [hw1]; simp -dsimp (disch := first | omega | (simp only [go_sem, seval]; first | done | omega)) only [go_sem, seval]
  simp only [Act'.cells] at hw1
  rw [← hw1]
  clear hw1
  have hla := lt_of_heap ha1
  have hA := h.chg0 hc1
  have hb := hA.hb
  have base : ∀ w' T, Did w1 s M w' T → Did w s M w' T := fun w' T hd => Did.trans (M1 := M) (hc1.mono (by simp)) (fun b hb => .inl hb) hd
  refine Join0.cut (fun w' => ∃ T, Did w s M w' T ∧ M.S.set a = some T) ?_ ?_
  · simp -dsimp (disch := first | omega | (simp only [go_sem, seval]; first | done | omega)) only [go_sem, seval, ha1]
    refine BrW.dec (fun c1 => ?_) (fun c1 => ?_)
    · simp -dsimp (disch := first | omega | (simp only [go_sem, seval]; first | done | omega)) only [go_sem, seval, ha1, hb]
      refine OpX.call pen_Apply_b rfl (Calls.ret (papply_c _ M.S.now.pen a hf) ?_)
      rintro v w2 ⟨rfl, hc2⟩
      have hc3 : Chg [] w1 w2 := (Chg.refl _ _).drew.trans0 hc2
      have hA2 := hA.chg0 hc3
      have hb2 := hA2.hb
      have hl2 := lt_of_heap hb2
      simp -dsimp (disch := first | omega | (simp only [go_sem, seval]; first | done | omega)) only [go_sem, seval, hb2]
      refine ⟨_, base _ _ (Did.set hA2 (hc3.mono (by simp)) (fun b hb => .inl hb) { M.S with now := { M.S.now with pen := penP M.S.now.pen a } } rfl rfl tl rfl), ?_⟩
      unfold Scr.set
      rw [if_pos c1]
    simp -dsimp (disch := first | omega | (simp only [go_sem, seval]; first | done | omega)) only [go_sem, seval, ha1]
    refine BrW.dec (fun c2 => ?_) (fun c2 => ?_)
    · simp -dsimp (disch := first | omega | (simp only [go_sem, seval]; first | done | omega)) only [go_sem, seval, ha1]
      refine OpX.call escape_Num_b rfl (Calls.ret (snum_c _ a 0 0) ?_)
      rintro v w2 ⟨rfl, hc2⟩
      have hA2 := hA.chg0 hc2
      have hb2 := hA2.hb
      have hl2 := lt_of_heap hb2
      have e : M.S.set a = some (if a.num 0 0 = 0 then { M.S with tabs := M.S.tabs.set M.S.now.x false } else if a.num 0 0 = 3 then { M.S with tabs := List.replicate 200 false } else M.S) := by
        unfold Scr.set
        rw [if_neg c1, if_pos c2]
      simp -dsimp (disch := first | omega | (simp only [go_sem, seval]; first | done | omega)) only [go_sem, seval]
      refine BrW.dec (fun d1 => ?_) (fun d1 => ?_)
      · rw [if_pos d1] at e
        simp -dsimp (disch := first | omega | (simp only [go_sem, seval]; first | done | omega)) only [go_sem, seval, hb2]
        exact ⟨_, base _ _ (Did.set (hA2.chg0 (Chg.refl _ _).drew) (hc2.mono (by simp)).drew (fun b hb => .inl hb) { M.S with tabs := M.S.tabs.set M.S.now.x false } rfl rfl (by rw [List.length_set]; exact tl) rfl), e⟩
      rw [if_neg d1] at e
      simp -dsimp (disch := first | omega | (simp only [go_sem, seval]; first | done | omega)) only [go_sem, seval]
      refine BrW.dec (fun d2 => ?_) (fun d2 => ?_)
      · rw [if_pos d2] at e
        refine OpX.build (c := (List.replicate 200 (.bool false)).toArray) (by kernel_rfl) ?_
        obtain ⟨z, hz⟩ : ∃ z, z = (List.replicate 200 (Value.bool false)).toArray := ⟨_, rfl⟩
        rw [← hz]
        simp -dsimp (disch := first | omega | (simp only [go_sem, seval]; first | done | omega)) only [go_sem, seval]
        rw [x_store _ _ _ _ _ _ _ (by rw [hz]; kernel_rfl) (by rw [hz]; kernel_rfl)]
        have hp : putAt w2.heap[s]? 29 (Value.agg z).cells.toList = some ({ M with S := { M.S with tabs := List.replicate 200 false } } : Scm).obj := by
          rw [hz, hb2]
          exact M.wTabs tl
        rw [hp, StX_some]
        exact ⟨_, base _ _ (Did.set hA2 (hc2.mono (by simp)) (fun b hb => .inl hb) { M.S with tabs := List.replicate 200 false } rfl rfl (by rw [List.length_replicate]) rfl), e⟩
      · rw [if_neg d2] at e
        exact ⟨_, base _ _ (Did.trans (M1 := M) (hc2.mono (by simp)) (fun b hb => .inl hb) (Did.refl hA2)), e⟩
    simp -dsimp (disch := first | omega | (simp only [go_sem, seval]; first | done | omega)) only [go_sem, seval]
    refine BrW.dec (fun c3 => ?_) (fun c3 => ?_)
    · simp -dsimp (disch := first | omega | (simp only [go_sem, seval]; first | done | omega)) only [go_sem, seval]
      refine OpX.call screen_Screen_save_b rfl (Calls.ret (ssave_c hA) ?_)
      rintro v w2 hd
      refine ⟨_, base _ _ hd, ?_⟩
      unfold Scr.set
      rw [if_neg c1, if_neg c2, if_pos c3]
    have e : M.S.set a = none := by
      unfold Scr.set
      rw [if_neg c1, if_neg c2, if_neg c3]
    rw [e] at hK
    exact hK _ _ ⟨rfl, base _ _ (Did.refl hA)⟩
  · rintro w2 ⟨T, hd, e⟩
    rw [e] at hK
    exact hK _ _ ⟨rfl, hd⟩
end
end Go.Proofs.Ytjfembffjjijaaa
namespace Go.Proofs.Ytjfembffjjijaaa
open Lyc Go
theorem modes_snoc (S : Scr) (l : List Int) (x : Int) (on : Bool) : S.modes (l ++ [x]) on = (S.modes l on).mode x on := by unfold Scr.modes; rw [List.foldl_append]; rfl
theorem nums_sx {w : World} {b : Nat} {a : Act'} (h : w.heap[b]? = some (.cells a.cells.toArray 35)) : Sx w none fI (some ⟨b, 5, none⟩) a.nums := ⟨fun _ => ⟨b, 5, _, _, _, a.cells.take 5, [], rfl, h, by simp [tagOk], rfl, rfl⟩⟩
theorem scsi_c {w : World} {s : Nat} {M : Scm} (h : SAt w s M) (ok : M.S.ok) (a : Act') (hf : a.fits) : Calls Try.prog 30 #[.pointer (some ⟨s, 0, none⟩), a.val] w
    (retK fun _ w' => Did w s M w' (M.S.csi a)) := by
  have hls := lt_of_heap h.hb
  have hlt := h.lt
  have tl := h.tl
  apply screen_Screen_csi_link
  intro K hK
  unfold screen_Screen_csi
  simp -dsimp (disch := first | omega | (simp only [go_sem, seval]; first | done | omega)) only [go_sem, seval]
  obtain ⟨w1, hw1⟩ : ∃ w1, w1 = w.alloc (.cells a.cells.toArray 35) := ⟨_, rfl⟩
  have hc1 : Chg [] w w1 := by rw [hw1]; exact chg_a1 _ _
  have ha1 : w1.heap[w.heap.size]? = some (.cells a.cells.toArray 35) := by rw [hw1]; simp -dsimp (disch := first | omega | (simp only [go_sem, seval]; first | done | omega)) only [go_sem, seval]
  simp only [Act'.cells] at hw1
  rw [← hw1]
  clear hw1
  have hla := lt_of_heap ha1
  have hA := h.chg0 hc1
  have hoa : w.heap.size ∉ s :: M.blk := fun hm => by have := hlt _ hm; omega
  have base : ∀ w' T, Did w1 s M w' T → Did w s M w' T := fun w' T hd => Did.trans (M1 := M) (hc1.mono (by simp)) (fun b hb => .inl hb) hd
  obtain ⟨C, hC⟩ : ∃ C, C = M.S.csi a := ⟨_, rfl⟩
  rw [← hC] at hK
  unfold Scr.csi at hC
  refine Join1.cut (fun v w' => v = .bool (decide (a.priv = 63 ∧ a.mid = 0 ∧ (a.r = 104 ∨ a.r = 108))) ∧ w1 = w') ?_ ?_
  · simp -dsimp (disch := first | omega | (simp only [go_sem, seval]; first | done | omega)) only [go_sem, seval, ha1]
    refine BrW.dec (fun g1 => ?_) (fun g1 => ?_)
    · simp -dsimp (disch := first | omega | (simp only [go_sem, seval]; first | done | omega)) only [go_sem, seval, ha1]
      refine BrW.dec (fun g2 => ?_) (fun g2 => ?_)
      · simp -dsimp (disch := first | omega | (simp only [go_sem, seval]; first | done | omega)) only [go_sem, seval, ha1]
        refine BrW.dec (fun g3 => ?_) (fun g3 => ?_)
        · exact ⟨congrArg Value.bool (decide_eq_true ⟨g1, g2, .inl g3⟩).symm, rfl⟩
        · simp -dsimp (disch := first | omega | (simp only [go_sem, seval]; first | done | omega)) only [go_sem, seval, ha1]
          exact congrArg Value.bool (decide_eq_decide.2 ⟨fun h => ⟨g1, g2, .inr h⟩, fun h => h.2.2.resolve_left g3⟩)
      · exact ⟨congrArg Value.bool (decide_eq_false (fun h => g2 h.2.1)).symm, rfl⟩
    · exact ⟨congrArg Value.bool (decide_eq_false (fun h => g1 h.1)).symm, rfl⟩
  rintro v w2 ⟨rfl, rfl⟩
  refine BrW.dec (fun d1 => ?_) (fun d1 => ?_)
  · rw [if_pos d1] at hC
    obtain ⟨n, hn⟩ : ∃ n, n = (min (max a.n 0) 8).toNat := ⟨_, rfl⟩
    have hn8 : n ≤ 8 := by omega
    rw [← hn] at hC
    simp -dsimp (disch := first | omega | (simp only [go_sem, seval]; first | done | omega)) only [go_sem, seval, ha1]
    rw [← hn]
    refine Loop1.st (fun i : Nat => .int .i64 (i : Int)) (fun i w' => i ≤ n ∧ Did w1 s M w' (M.S.modes (a.nums.take i) (decide (a.r = 104)))) (fun i => n - i) 0 rfl ⟨by omega, Did.refl hA⟩ ?_
    rintro next i w2 hnx ⟨hi, hd⟩
    have ha2 := hd.keep ha1 hoa
    have hl2 := lt_of_heap ha2
    simp -dsimp (disch := first | omega | (simp only [go_sem, seval]; first | done | omega)) only [go_sem, seval]
    refine BrW.dec (fun d2 => ?_) (fun d2 => ?_)
    · have hi8 : i < a.nums.length := by rw [show a.nums.length = 8 from rfl]; omega
      have hcell := fI_cell (nums_sx ha2) (i := i) (List.getElem?_eq_getElem hi8)
      have hx := hf.nums _ (List.getElem_mem hi8)
      obtain ⟨M2, hA2, hS2, hc2, hbl2⟩ := hd
      have ok2 : M2.S.ok := by rw [hS2]; exact ok.modes.ok
      simp -dsimp (disch := first | omega | (simp only [go_sem, seval]; first | done | omega)) only [go_sem, seval, hcell]
      simp -dsimp (disch := first | omega | (simp only [go_sem, seval]; first | done | omega)) only [go_sem, seval, ha2]
      refine OpX.call screen_Screen_mode_b rfl (Calls.ret (smode_c hA2 ok2 (a.nums[i]) (decide (a.r = 104))) ?_)
      rintro v w3 hd3
      have e1 : (i : Int) + 1 = ((i + 1 : Nat) : Int) := by omega
      simp -dsimp (disch := first | omega | (simp only [go_sem, seval]; first | done | omega)) only [go_sem, seval, e1]
      refine hnx (i + 1) _ ⟨by omega, ?_⟩ (by omega)
      rw [take_next hi8, modes_snoc, ← hS2]
      exact Did.trans hc2 hbl2 hd3
    · have : i = n := by omega
      subst this
      exact hK _ _ (base _ _ (by rw [hC]; exact hd))
  rw [if_neg d1] at hC
  refine Join1.cut (fun v w' => v = .bool (decide (a.priv ≠ 0 ∨ a.mid ≠ 0)) ∧ w1 = w') ?_ ?_
  · simp -dsimp (disch := first | omega | (simp only [go_sem, seval]; first | done | omega)) only [go_sem, seval, ha1]
    refine BrW.dec (fun g1 => ?_) (fun g1 => ?_)
    · exact ⟨congrArg Value.bool (decide_eq_true (.inl g1)).symm, rfl⟩
    · simp -dsimp (disch := first | omega | (simp only [go_sem, seval]; first | done | omega)) only [go_sem, seval, ha1]
      refine congrArg Value.bool (decide_eq_decide.2 ⟨fun h => .inr h, fun h => ?_⟩)
      rcases h with h | h
      · exact absurd h g1
      · exact h
  rintro v w2 ⟨rfl, rfl⟩
  refine BrW.dec (fun d2 => ?_) (fun d2 => ?_)
  · rw [if_pos d2] at hC
    exact hK _ _ (base _ _ (by rw [hC]; exact Did.refl hA))
  rw [if_neg d2] at hC
  simp -dsimp (disch := first | omega | (simp only [go_sem, seval]; first | done | omega)) only [go_sem, seval, ha1]
  refine OpX.call screen_Screen_set_b rfl (Calls.ret (sset_c hA ok a hf) ?_)
  rintro v w2 ⟨rfl, hd2⟩
  have ha2 := hd2.keep ha1 hoa
  rcases hs : M.S.set a with _ | T
  · rw [hs] at hd2 hC
    dsimp only [Option.getD] at hd2 hC
    obtain ⟨M2, hA2, hS2, hc2, hbl2⟩ := hd2
    have ok2 : M2.S.ok := by rw [hS2]; exact ok
    have hz2 := hc2.size
    have hoa2 := blk_off hbl2 hoa hla
    rw [← hS2] at hC
    refine BrW.by (fun h => by simp at h) (fun _ => ?_)
    refine Join1.cut (fun v w' => ∃ b T, v = .bool b ∧ Did w1 s M w' T ∧ C = bif b then T.calm else T) ?_ ?_
    · simp -dsimp (disch := first | omega | (simp only [go_sem, seval]; first | done | omega)) only [go_sem, seval, ha2]
      refine OpX.call screen_Screen_moved_b rfl (Calls.ret (smoved_c hA2 ok2 a hf) ?_)
      rintro v w3 ⟨rfl, hd3⟩
      have ha3 := hd3.keep ha2 hoa2
      rcases hm : M2.S.moved a with _ | T
      · rw [hm] at hd3 hC
        dsimp only [Option.getD] at hd3 hC
        obtain ⟨M3, hA3, hS3, hc3, hbl3⟩ := hd3
        have ok3 : M3.S.ok := by rw [hS3]; exact ok2
        rw [← hS3] at hC
        refine BrW.by (fun h => by simp at h) (fun _ => ?_)
        simp -dsimp (disch := first | omega | (simp only [go_sem, seval]; first | done | omega)) only [go_sem, seval, ha3]
        refine OpX.call screen_Screen_changed_b rfl (Calls.ret (schanged_c hA3 ok3 a hf) ?_)
        rintro v w4 ⟨rfl, hd4⟩
        rcases hch : M3.S.changed a with _ | T
        · rw [hch] at hd4 hC
          exact ⟨false, _, rfl, Did.trans hc2 hbl2 (Did.trans hc3 hbl3 hd4), hC⟩
        · rw [hch] at hd4 hC
          exact ⟨true, _, rfl, Did.trans hc2 hbl2 (Did.trans hc3 hbl3 hd4), hC⟩
      · rw [hm] at hd3 hC
        exact BrW.by (fun _ => ⟨true, _, rfl, Did.trans hc2 hbl2 hd3, hC⟩) (fun h => by simp at h)
    · rintro v w3 ⟨b, T, rfl, hd3, e⟩
      cases b with
      | true =>
        obtain ⟨M4, hb4, hS4, tl4, hd4⟩ := hd3.calm
        refine BrW.by (fun _ => ?_) (fun h => by simp at h)
        simp -dsimp (disch := first | omega | (simp only [go_sem, seval]; first | done | omega)) only [go_sem, seval, hb4]
        exact hK _ _ (base _ _ (by rw [e]; exact hd4))
      | false => exact BrW.by (fun h => by simp at h) (fun _ => hK _ _ (base _ _ (by rw [e]; exact hd3)))
  · rw [hs] at hd2 hC
    exact BrW.by (fun _ => hK _ _ (base _ _ (by rw [hC]; exact hd2))) (fun h => by simp at h)
theorem sdo_c {w : World} {s : Nat} {M : Scm} (h : SAt w s M) (ok : M.S.ok) {e : Option TypeId} {ad : Option Addr} {l : List Act'} (hs : Sx w e Act'.cells ad l) (hfar : ∀ b o, ad = some ⟨b, o, none⟩ → l ≠ [] → b ∉ s :: M.blk) (cap : Nat) (hl : l.length ≤ 1000000) (hf : ∀ a ∈ l, a.fits) : Calls Try.prog 11 #[.pointer (some ⟨s, 0, none⟩), .slice ad l.length cap] w
    (retK fun _ w' => Did w s M w' (M.S.acts l)) := by
  have w0 := ok.w0
  apply screen_Screen_Do_link
  intro K hK
  unfold screen_Screen_Do
  refine OpX.call screen_Screen_none_b rfl (Calls.ret (snone_c h w0) ?_)
  rintro v w1 ⟨rfl, rfl⟩
  simp -dsimp (disch := first | omega | (simp only [go_sem, seval]; first | done | omega)) only [go_sem, seval]
  refine Loop1.st (fun i : Nat => .int .i64 (i : Int)) (fun i w' => i ≤ l.length ∧ Did w s M w' (M.S.acts (l.take i))) (fun i => l.length - i) 0 rfl ⟨by omega, Did.refl h⟩ ?_
  rintro next i w2 hnx ⟨hi, hd⟩
  simp -dsimp (disch := first | omega | (simp only [go_sem, seval]; first | done | omega)) only [go_sem, seval]
  refine BrW.dec (fun d2 => ?_) (fun d2 => ?_)
  · have hi8 : i < l.length := by omega
    have hne : l ≠ [] := by rintro rfl; simp at hi8
    obtain ⟨M2, hA2, hS2, hc2, hbl2⟩ := hd
    have ok2 : M2.S.ok := by rw [hS2]; exact ok.acts.ok
    have hs2 := hs.chg hc2 hfar
    obtain ⟨b, o, rfl, hlb, hag⟩ := hs2.get (m := 13) Act'.len (List.getElem?_eq_getElem hi8)
    have hfa := hf _ (List.getElem_mem hi8)
    have e2 : M.S.acts (l.take (i + 1)) = M2.S.act l[i] := by rw [take_next hi8, hS2]; unfold Scr.acts; rw [List.foldl_append]; rfl
    obtain ⟨a, ha⟩ : ∃ a, a = l[i] := ⟨_, rfl⟩
    rw [← ha] at hag hfa e2
    have e1 : (i : Int) + 1 = ((i + 1 : Nat) : Int) := by omega
    refine Join0.cut (fun w' => Did w2 s M2 w' (M2.S.act a)) ?_ ?_
    · simp -dsimp (disch := first | omega | (simp only [go_sem, seval]; first | done | omega)) only [go_sem, seval, hag]
      obtain ⟨w3, hw3⟩ : ∃ w3, w3 = w2.alloc (.cells a.cells.toArray 35) := ⟨_, rfl⟩
      have hc3 : Chg [] w2 w3 := by rw [hw3]; exact chg_a1 _ _
      have ha3 : w3.heap[w2.heap.size]? = some (.cells a.cells.toArray 35) := by rw [hw3]; simp -dsimp (disch := first | omega | (simp only [go_sem, seval]; first | done | omega)) only [go_sem, seval]
      simp only [Act'.cells] at hw3
      rw [← hw3]
      clear hw3
      have hA3 := hA2.chg0 hc3
      have base : ∀ w' T, Did w3 s M2 w' T → Did w2 s M2 w' T := fun w' T hd => Did.trans (M1 := M2) (hc3.mono (by simp)) (fun b hb => .inl hb) hd
      obtain ⟨C, hC⟩ : ∃ C, C = M2.S.act a := ⟨_, rfl⟩
      rw [← hC]
      unfold Scr.act at hC
      refine BrW.dec (fun c1 => ?_) (fun c1 => ?_)
      · rw [if_pos c1] at hC
        simp -dsimp (disch := first | omega | (simp only [go_sem, seval]; first | done | omega)) only [go_sem, seval, ha3]
        refine OpX.call screen_Screen_print_b rfl (Calls.ret (sprint_c hA3 ok2 a.r) ?_)
        rintro v w4 hd
        rw [hC]; exact base _ _ hd
      rw [if_neg c1] at hC
      simp -dsimp (disch := first | omega | (simp only [go_sem, seval]; first | done | omega)) only [go_sem, seval]
      refine BrW.dec (fun c2 => ?_) (fun c2 => ?_)
      · rw [if_pos c2] at hC
        simp -dsimp (disch := first | omega | (simp only [go_sem, seval]; first | done | omega)) only [go_sem, seval, ha3]
        refine OpX.call screen_Screen_ctl_b rfl (Calls.ret (sctl_c hA3 ok2 a.r) ?_)
        rintro v w4 hd
        rw [hC]; exact base _ _ hd
      rw [if_neg c2] at hC
      simp -dsimp (disch := first | omega | (simp only [go_sem, seval]; first | done | omega)) only [go_sem, seval]
      refine BrW.dec (fun c3 => ?_) (fun c3 => ?_)
      · rw [if_pos c3] at hC
        simp -dsimp (disch := first | omega | (simp only [go_sem, seval]; first | done | omega)) only [go_sem, seval, ha3]
        refine BrW.dec (fun c4 => ?_) (fun c4 => ?_)
        · rw [if_pos c4] at hC
          simp -dsimp (disch := first | omega | (simp only [go_sem, seval]; first | done | omega)) only [go_sem, seval, ha3]
          refine OpX.call screen_Screen_esc_b rfl (Calls.ret (sesc_c hA3 ok2 a.r) ?_)
          rintro v w4 hd
          rw [hC]; exact base _ _ hd
        · rw [if_neg c4] at hC
          rw [hC]; exact base _ _ (Did.refl hA3)
      rw [if_neg c3] at hC
      simp -dsimp (disch := first | omega | (simp only [go_sem, seval]; first | done | omega)) only [go_sem, seval]
      refine BrW.dec (fun c4 => ?_) (fun c4 => ?_)
      · rw [if_pos c4] at hC
        simp -dsimp (disch := first | omega | (simp only [go_sem, seval]; first | done | omega)) only [go_sem, seval, ha3]
        refine OpX.call screen_Screen_csi_b rfl (Calls.ret (scsi_c hA3 ok2 a hfa) ?_)
        rintro v w4 hd
        rw [hC]; exact base _ _ hd
      rw [if_neg c4] at hC
      rw [hC]; exact base _ _ (Did.refl hA3)
    · intro w3 hd3
      simp -dsimp (disch := first | omega | (simp only [go_sem, seval]; first | done | omega)) only [go_sem, seval, e1]
      refine hnx (i + 1) _ ⟨by omega, ?_⟩ (by omega)
      rw [e2]
      exact Did.trans hc2 hbl2 hd3
  · have : i = l.length := by omega
    subst this
    rw [List.take_length] at hd
    exact hK _ _ hd
end Go.Proofs.Ytjfembffjjijaaa
namespace Go.Proofs.Ytjfembffjjijaaa
open Lyc Go
def noGrid : Value := .agg #[.int .i64 0, .int .i64 0, .slice none 0 0]
theorem gnew_bad (w : World) (x y : Int) (hf : fitsG x y = false) : Calls Try.prog 23 #[.int .i64 x, .int .i64 y] w (retK fun v w' => v = noGrid ∧ Chg [] w w') := by
  apply grid_New_link
  intro K hK
  unfold grid_New
  simp -dsimp (disch := first | omega | (simp only [go_sem, seval]; first | done | omega)) only [go_sem, seval]
  refine OpX.call grid_fits_b rfl (Calls.ret (fits_c _ x y) ?_)
  rintro v w1 ⟨rfl, rfl⟩
  simp -dsimp (disch := first | omega | (simp only [go_sem, seval]; first | done | omega)) only [go_sem, seval, hf]
  have hc1 := chg_a1 w (.cells #[.int .i64 0, .int .i64 0, .slice none 0 0] 48)
  exact hK _ _ ⟨rfl, hc1⟩
theorem gcheck_bad (w : World) : Calls Try.prog 24 #[noGrid] w (retK fun v w' => v = .bool false ∧ Chg [] w w') := by
  have hf : fitsG 0 0 = false := by decide
  apply grid_Check_link
  intro K hK
  unfold grid_Check
  simp -dsimp (disch := first | omega | (simp only [go_sem, seval]; first | done | omega)) only [go_sem, seval, noGrid]
  refine Join1.inl ?_
  simp -dsimp (disch := first | omega | (simp only [go_sem, seval]; first | done | omega)) only [go_sem, seval]
  refine OpX.call grid_fits_b rfl (Calls.ret (fits_c _ 0 0) ?_)
  rintro v w1 ⟨rfl, rfl⟩
  simp -dsimp (disch := first | omega | (simp only [go_sem, seval]; first | done | omega)) only [go_sem, seval, hf]
  exact hK _ _ ⟨rfl, chg_a2 _ _ _⟩
theorem snew_bad (w : World) (x y : Int) (hf : fitsG x y = false) : Calls Try.prog 10 #[.int .i64 x, .int .i64 y] w (retK fun v w' => v = .pointer none ∧ Chg [] w w') := by
  apply screen_New_link
  intro K hK
  unfold screen_New
  refine OpX.call grid_New_b rfl (Calls.ret (gnew_bad w x y hf) ?_)
  rintro v w1 ⟨rfl, hc1⟩
  simp -dsimp (disch := first | omega | (simp only [go_sem, seval]; first | done | omega)) only [go_sem, seval, noGrid]
  refine OpX.call grid_Check_b rfl (Calls.ret (gcheck_bad _) ?_)
  rintro v w2 ⟨rfl, hc2⟩
  simp -dsimp (disch := first | omega | (simp only [go_sem, seval]; first | done | omega)) only [go_sem, seval]
  exact hK _ _ ⟨rfl, ((hc1.alloc _).trans0 hc2)⟩
def new0 (W H : Nat) : List Value :=
  [(.int .i64 W : Value), .int .i64 H] ++ noGr ++ noGr ++ [(.int .i64 0 : Value), .int .i64 0, .int .i32 0, .int .u8 0, .int .u8 0, .int .u8 0, .int .i64 0, .int .i64 0, .int .i32 0, .int .u8 0, .int .u8 0, .int .u8 0, .int .i64 0, .int .i64 0, .int .i64 0, .int .i32 0, .int .u8 0, .int .u8 0, .int .u8 0, .int .i64 0, .int .i64 0] ++ List.replicate 200 (.bool false) ++ [.bool false, .bool false, .bool false, .slice none 0 0]
section
attribute [-go_sem] x_build x_buildA
theorem snew_c (w : World) (W H : Nat) (W0 : 0 < W) (W1 : W ≤ 200) (H0 : 0 < H) (H1 : H ≤ 60) : Calls Try.prog 10 #[.int .i64 W, .int .i64 H] w
    (retK fun v w' => ∃ s M, v = .pointer (some ⟨s, 0, none⟩) ∧ SAt w' s M ∧ M.S = Scr.new W H ∧ Chg [] w w' ∧ w.heap.size ≤ s ∧ ∀ b ∈ M.blk, w.heap.size ≤ b) := by
  apply screen_New_link
  intro K hK
  unfold screen_New
  refine OpX.call grid_New_b rfl (Calls.ret (gnew_c w W H W0 W1 H0 H1) ?_)
  rintro v w1 ⟨hg, hc1⟩
  obtain ⟨nb, cap, rfl, q1, q2, q3, q4⟩ := hg.sx
  simp -dsimp (disch := first | omega | (simp only [go_sem, seval]; first | done | omega)) only [go_sem, seval, Gr.val]
  refine OpX.gen fun w2 hw2 => ?_
  have hc2 : Chg [] w1 w2 := by rw [hw2]; exact chg_a1 _ _
  clear hw2
  have hfit := Gr.fit_plain W0 W1 H0 H1
  refine OpX.call grid_Check_b rfl (Calls.ret (gcheck_c hfit.ok (q4.chg0 hc2) cap q1) ?_)
  rintro v w3 ⟨rfl, hc3⟩
  simp -dsimp (disch := first | omega | (simp only [go_sem, seval]; first | done | omega)) only [go_sem, seval, hfit.r]
  refine OpX.build (c := (new0 W H).toArray) (by kernel_rfl) ?_
  rw [x_box]
  obtain ⟨z, hz⟩ : ∃ z, z = (Value.agg (new0 W H).toArray).cells := ⟨_, rfl⟩
  rw [← hz]
  have hb : (w3.alloc (.cells z 65)).heap[w3.heap.size]? = some (.cells (new0 W H).toArray 65) := by
    rw [hz]
    exact Lyc.heap_alloc_new _ _ _ rfl
  have hc4 : Chg [] w w3 := (hc1.trans0 hc2).trans0 hc3
  have hc5 : Chg [] w3 (w3.alloc (.cells z 65)) := chg_a1 _ _
  have hs5 : (w3.alloc (.cells z 65)).heap.size = w3.heap.size + 1 := by simp -dsimp (disch := first | omega | (simp only [go_sem, seval]; first | done | omega)) only [go_sem, seval]
  have hlen : (new0 W H).length = 233 := by unfold new0; simp only [List.length_append, List.length_replicate, List.length_cons, List.length_nil, noGr]
  have hz3 := hc4.size
  clear hz
  refine OpX.call screen_Screen_renew_b rfl (Calls.ret (srenew_c (W := W) (H := H) (rows := []) hb hlen rfl rfl rfl W0 W1 H0 H1 (Ox.nil _ _ _ _ _) (by simp)) ?_)
  rintro v w4 ⟨M, hA, hS, hgv, hc6, k1, k2⟩
  refine hK _ _ ⟨w3.heap.size, M, rfl, hA, ?_, (hc4.trans0 hc5).trans hc6 (by simp; omega), hz3, ?_⟩
  · rw [hS, snew_new]; rfl
  · intro b hb
    simp only [Scm.blk, List.mem_cons] at hb
    rcases hb with rfl | rfl | hb
    · omega
    · omega
    · rw [hgv] at hb; simp [Value.ownBlock] at hb
end
end Go.Proofs.Ytjfembffjjijaaa
namespace Go.Proofs.Ytjfembffjjijaaa
open Lyc Go
structure PSt where
  inn : Int
  A : Act'
  any : Bool
@[go_sem] def PSt.obj (P : PSt) : Obj := .cells #[.int .i64 P.inn, .int .i64 P.A.kind, .int .i32 P.A.r, .int .u8 P.A.priv, .int .u8 P.A.mid, .int .i64 P.A.n, .int .i64 P.A.n0, .int .i64 P.A.n1, .int .i64 P.A.n2, .int .i64 P.A.n3, .int .i64 P.A.n4, .int .i64 P.A.n5, .int .i64 P.A.n6, .int .i64 P.A.n7, .bool P.any] 70
structure PSt.ok (P : PSt) : Prop where
  n0 : 0 ≤ P.A.n
  n1 : P.A.n ≤ 9
  k : ∀ x ∈ P.A.nums, 0 ≤ x ∧ x ≤ 9999
  r : P.A.r = 0
def zeroA : Act' := ⟨0, 0, 0, 0, 0, 0, 0, 0, 0, 0, 0, 0, 0⟩
def printA (r : Int) : Act' := ⟨1, r, 0, 0, 0, 0, 0, 0, 0, 0, 0, 0, 0⟩
theorem fits_of {a : Act'} (r0 : -2147483648 ≤ a.r) (r1 : a.r ≤ 2147483647) (n0 : 0 ≤ a.n) (n1 : a.n ≤ 9) (k : ∀ x ∈ a.nums, 0 ≤ x ∧ x ≤ 9999) : a.fits :=
  ⟨r0, r1, by unfold i64ok; omega, fun x hx => by have := k x hx; unfold i64ok; omega⟩
theorem zeros_ok : ∀ x ∈ [(0 : Int), 0, 0, 0, 0, 0, 0, 0], 0 ≤ x ∧ x ≤ 9999 := by intro x hx; simp at hx; omega
theorem zeroA_fits : zeroA.fits := fits_of (by decide) (by decide) (by decide) (by decide) zeros_ok
def StepR (w : World) (p : Nat) (v : Value) (w' : World) : Prop := ∃ (P' : PSt) (a : Act'), w'.heap[p]? = some P'.obj ∧ P'.ok ∧ v = a.val ∧ a.fits ∧ Chg [p] w w'
theorem StepR.low {w w1 w' : World} {p : Nat} {v : Value} (h : StepR w1 p v w') (hc : Chg [] w w1) : StepR w p v w' := by
  obtain ⟨P', a, h1, h2, h3, h4, h5⟩ := h
  exact ⟨P', a, h1, h2, h3, h4, (hc.mono (by simp)).trans h5 (fun x hx => .inl hx)⟩
theorem pescape_c {w : World} {p : Nat} {P : PSt} (hb : w.heap[p]? = some P.obj) (ok : P.ok) (r : Int) (r0 : -2147483648 ≤ r) (r1 : r ≤ 2147483647) :
    Calls Try.prog 83 #[.pointer (some ⟨p, 0, none⟩), .int .i32 r] w (retK (StepR w p)) := by
  have hl := lt_of_heap hb
  apply lyceumref07_Parser_escape_link
  intro K hK
  unfold lyceumref07_Parser_escape
  have fin0 : ∀ (w4 : World) (P' : PSt), w4.heap[p]? = some P'.obj → P'.ok → Chg [p] w w4 → K zeroA.val w4 := fun w4 P' h1 h2 h3 => hK _ _ ⟨P', zeroA, h1, h2, rfl, zeroA_fits, h3⟩
  simp -dsimp (disch := first | omega | (simp only [go_sem, seval]; first | done | omega)) only [go_sem, seval]
  refine BrW.dec (fun c1 => ?_) (fun c1 => ?_)
  · refine Join0.inl ?_
    simp -dsimp (disch := first | omega | (simp only [go_sem, seval]; first | done | omega)) only [go_sem, seval, hb]
    refine BrW.dec (fun c2 => ?_) (fun c2 => ?_)
    · simp -dsimp (disch := first | omega | (simp only [go_sem, seval]; first | done | omega)) only [go_sem, seval, hb]
      refine fin0 _ ⟨P.inn, { P.A with mid := IntKind.u8.wrap r }, P.any⟩ ?_ ⟨ok.n0, ok.n1, ok.k, ok.r⟩ ?_
      · simp -dsimp (disch := first | omega | (simp only [go_sem, seval]; first | done | omega)) only [go_sem, seval]
      · (repeat (first | exact Chg.refl _ _ | apply Chg.drew | apply Chg.alloc | (refine Chg.set ?_ _ _ (by first | (left; simp; done) | (right; omega)))))
    · simp -dsimp (disch := first | omega | (simp only [go_sem, seval]; first | done | omega)) only [go_sem, seval, hb]
      refine fin0 _ ⟨P.inn, { P.A with mid := 255 }, P.any⟩ ?_ ⟨ok.n0, ok.n1, ok.k, ok.r⟩ ?_
      · simp -dsimp (disch := first | omega | (simp only [go_sem, seval]; first | done | omega)) only [go_sem, seval]
      · (repeat (first | exact Chg.refl _ _ | apply Chg.drew | apply Chg.alloc | (refine Chg.set ?_ _ _ (by first | (left; simp; done) | (right; omega)))))
  refine Join1.cut (fun v w' => ∃ b, v = .bool b ∧ w' = w.alloc (.cells zeroA.cells.toArray 35)) ?_ ?_
  · simp -dsimp (disch := first | omega | (simp only [go_sem, seval]; first | done | omega)) only [go_sem, seval, hb]
    refine BrW.dec (fun c2 => ?_) (fun c2 => ?_)
    · simp -dsimp (disch := first | omega | (simp only [go_sem, seval]; first | done | omega)) only [go_sem, seval]
      first | exact ⟨_, rfl, rfl⟩ | exact ⟨_, rfl⟩
    · first | exact ⟨_, rfl, rfl⟩ | exact ⟨_, rfl⟩
  rintro v w1 ⟨b, rfl, rfl⟩
  refine BrW.by (fun c2 => ?_) (fun c2 => ?_)
  · simp -dsimp (disch := first | omega | (simp only [go_sem, seval]; first | done | omega)) only [go_sem, seval, hb, zeroA]
    refine fin0 _ ⟨2, P.A, P.any⟩ ?_ ⟨ok.n0, ok.n1, ok.k, ok.r⟩ ?_
    · simp -dsimp (disch := first | omega | (simp only [go_sem, seval]; first | done | omega)) only [go_sem, seval]
    · (repeat (first | exact Chg.refl _ _ | apply Chg.drew | apply Chg.alloc | (refine Chg.set ?_ _ _ (by first | (left; simp; done) | (right; omega)))))
  clear c2 b
  refine Join1.cut (fun v w' => ∃ b, v = .bool b ∧ w' = w.alloc (.cells zeroA.cells.toArray 35)) ?_ ?_
  · simp -dsimp (disch := first | omega | (simp only [go_sem, seval]; first | done | omega)) only [go_sem, seval, hb]
    refine BrW.dec (fun c2 => ?_) (fun c2 => ?_)
    · simp -dsimp (disch := first | omega | (simp only [go_sem, seval]; first | done | omega)) only [go_sem, seval]
      refine BrW.dec (fun c3 => ?_) (fun c3 => ?_)
      · first | exact ⟨_, rfl, rfl⟩ | exact ⟨_, rfl⟩
      simp -dsimp (disch := first | omega | (simp only [go_sem, seval]; first | done | omega)) only [go_sem, seval]
      refine BrW.dec (fun c4 => ?_) (fun c4 => ?_)
      · first | exact ⟨_, rfl, rfl⟩ | exact ⟨_, rfl⟩
      simp -dsimp (disch := first | omega | (simp only [go_sem, seval]; first | done | omega)) only [go_sem, seval]
      refine BrW.dec (fun c5 => ?_) (fun c5 => ?_)
      · simp -dsimp (disch := first | omega | (simp only [go_sem, seval]; first | done | omega)) only [go_sem, seval]
        first | exact ⟨_, rfl, rfl⟩ | exact ⟨_, rfl⟩
      · first | exact ⟨_, rfl, rfl⟩ | exact ⟨_, rfl⟩
    · first | exact ⟨_, rfl, rfl⟩ | exact ⟨_, rfl⟩
  rintro v w1 ⟨b, rfl, rfl⟩
  refine BrW.by (fun c2 => ?_) (fun c2 => ?_)
  · simp -dsimp (disch := first | omega | (simp only [go_sem, seval]; first | done | omega)) only [go_sem, seval, hb, zeroA]
    refine fin0 _ ⟨4, P.A, P.any⟩ ?_ ⟨ok.n0, ok.n1, ok.k, ok.r⟩ ?_
    · simp -dsimp (disch := first | omega | (simp only [go_sem, seval]; first | done | omega)) only [go_sem, seval]
    · (repeat (first | exact Chg.refl _ _ | apply Chg.drew | apply Chg.alloc | (refine Chg.set ?_ _ _ (by first | (left; simp; done) | (right; omega)))))
  clear c2 b
  simp -dsimp (disch := first | omega | (simp only [go_sem, seval]; first | done | omega)) only [go_sem, seval, hb, zeroA]
  refine Join1.inl ?_
  simp -dsimp (disch := first | omega | (simp only [go_sem, seval]; first | done | omega)) only [go_sem, seval]
  refine BrW.dec (fun c2 => ?_) (fun c2 => ?_)
  · simp -dsimp (disch := first | omega | (simp only [go_sem, seval]; first | done | omega)) only [go_sem, seval]
    refine fin0 _ ⟨0, P.A, P.any⟩ ?_ ⟨ok.n0, ok.n1, ok.k, ok.r⟩ ?_
    · simp -dsimp (disch := first | omega | (simp only [go_sem, seval]; first | done | omega)) only [go_sem, seval]
    · (repeat (first | exact Chg.refl _ _ | apply Chg.drew | apply Chg.alloc | (refine Chg.set ?_ _ _ (by first | (left; simp; done) | (right; omega)))))
  simp -dsimp (disch := first | omega | (simp only [go_sem, seval]; first | done | omega)) only [go_sem, seval, hb]
  refine BrW.dec (fun c3 => ?_) (fun c3 => ?_)
  · simp -dsimp (disch := first | omega | (simp only [go_sem, seval]; first | done | omega)) only [go_sem, seval]
    refine fin0 _ ⟨0, P.A, P.any⟩ ?_ ⟨ok.n0, ok.n1, ok.k, ok.r⟩ ?_
    · simp -dsimp (disch := first | omega | (simp only [go_sem, seval]; first | done | omega)) only [go_sem, seval]
    · (repeat (first | exact Chg.refl _ _ | apply Chg.drew | apply Chg.alloc | (refine Chg.set ?_ _ _ (by first | (left; simp; done) | (right; omega)))))
  simp -dsimp (disch := first | omega | (simp only [go_sem, seval]; first | done | omega)) only [go_sem, seval, hb]
  refine hK _ _ ⟨⟨0, P.A, P.any⟩, ⟨3, r, 0, P.A.mid, 0, 0, 0, 0, 0, 0, 0, 0, 0⟩, ?_, ⟨ok.n0, ok.n1, ok.k, ok.r⟩, rfl, fits_of r0 r1 (Int.le_refl 0) (by show (0 : Int) ≤ 9; decide) zeros_ok, ?_⟩
  · simp -dsimp (disch := first | omega | (simp only [go_sem, seval]; first | done | omega)) only [go_sem, seval]
  · (repeat (first | exact Chg.refl _ _ | apply Chg.drew | apply Chg.alloc | (refine Chg.set ?_ _ _ (by first | (left; simp; done) | (right; omega)))))
def CsiI (w : World) (p : Nat) (i : Int) (A : Act') (w' : World) : Prop := w'.heap[p]? = some (PSt.mk i A true).obj ∧ (PSt.mk i A true).ok ∧ w'.heap[w.heap.size]? = some (.cells zeroA.cells.toArray 35) ∧ Chg [p] w w'
theorem pcsi_c {w : World} {p : Nat} {P : PSt} (hb : w.heap[p]? = some P.obj) (ok : P.ok) (r : Int) (r0 : -2147483648 ≤ r) (r1 : r ≤ 2147483647) :
    Calls Try.prog 84 #[.pointer (some ⟨p, 0, none⟩), .int .i32 r] w (retK (StepR w p)) := by
  have hl := lt_of_heap hb
  apply lyceumref07_Parser_csi_link
  intro K hK
  unfold lyceumref07_Parser_csi
  have fin0 : ∀ (w4 : World) (P' : PSt), w4.heap[p]? = some P'.obj → P'.ok → Chg [p] w w4 → K zeroA.val w4 := fun w4 P' h1 h2 h3 => hK _ _ ⟨P', zeroA, h1, h2, rfl, zeroA_fits, h3⟩
  simp -dsimp (disch := first | omega | (simp only [go_sem, seval]; first | done | omega)) only [go_sem, seval, hb]
  obtain ⟨w1, hw1⟩ : ∃ w1, w1 = (setBlk w p (PSt.mk P.inn P.A true).obj).alloc (.cells zeroA.cells.toArray 35) := ⟨_, rfl⟩
  have hI : CsiI w p P.inn P.A w1 := by
    refine ⟨?_, ⟨ok.n0, ok.n1, ok.k, ok.r⟩, ?_, ?_⟩
    · rw [hw1]; simp -dsimp (disch := first | omega | (simp only [go_sem, seval]; first | done | omega)) only [go_sem, seval]
    · rw [hw1]; simp -dsimp (disch := first | omega | (simp only [go_sem, seval]; first | done | omega)) only [go_sem, seval, zeroA]
    · rw [hw1]; (repeat (first | exact Chg.refl _ _ | apply Chg.drew | apply Chg.alloc | (refine Chg.set ?_ _ _ (by first | (left; simp; done) | (right; omega)))))
  simp only [PSt.obj, zeroA, Act'.cells] at hw1
  rw [← hw1]
  clear hw1
  have hne : p ≠ w.heap.size := by omega
  have fz : ∀ (w4 : World) (i : Int) (A : Act'), CsiI w p i A w4 → OpX Try.prog (.build 35 #[]) 35 (fun t76 => xS 35 (.pointer (some ⟨w.heap.size, 0, none⟩)) t76 (xD 35 (.pointer (some ⟨w.heap.size, 0, none⟩)) fun t4_1 => K t4_1)) w4 := by
    rintro w4 i A ⟨h1, h2, h3, h4⟩
    have hl4 := lt_of_heap h3
    simp -dsimp (disch := first | omega | (simp only [go_sem, seval]; first | done | omega)) only [go_sem, seval, h3, zeroA]
    refine fin0 _ _ ?_ h2 (h4.set _ _ (.inr (Nat.le_refl _)))
    simp -dsimp (disch := first | omega | (simp only [go_sem, seval]; first | done | omega)) only [go_sem, seval]
    exact h1
  obtain ⟨hb1, ok1, ho1, hc1⟩ := hI
  have hl1 := lt_of_heap hb1
  have hlo1 := lt_of_heap ho1
  have step : ∀ (i : Int) (A : Act') (w4 : World), CsiI w p P.inn P.A w1 → (PSt.mk i A true).ok → w4 = setBlk w1 p (PSt.mk i A true).obj → CsiI w p i A w4 := by
    rintro i A w4 - h2 rfl
    refine ⟨?_, h2, ?_, hc1.set _ _ (.inl (by simp))⟩
    · simp -dsimp (disch := first | omega | (simp only [go_sem, seval]; first | done | omega)) only [go_sem, seval]
    · simp -dsimp (disch := first | omega | (simp only [go_sem, seval]; first | done | omega)) only [go_sem, seval, ho1]
  refine Join1.cut (fun v w' => ∃ b, v = .bool b ∧ (b = true → 48 ≤ r ∧ r ≤ 57) ∧ w1 = w') ?_ ?_
  · simp -dsimp (disch := first | omega | (simp only [go_sem, seval]; first | done | omega)) only [go_sem, seval]
    refine BrW.dec (fun c1 => ?_) (fun c1 => ?_)
    · simp -dsimp (disch := first | omega | (simp only [go_sem, seval]; first | done | omega)) only [go_sem, seval]
      refine BrW.dec (fun c2 => ?_) (fun c2 => ?_)
      · simp -dsimp (disch := first | omega | (simp only [go_sem, seval]; first | done | omega)) only [go_sem, seval, hb1]
        first | exact ⟨_, rfl, fun _ => ⟨c1, c2⟩, rfl⟩ | exact ⟨_, rfl, fun _ => ⟨c1, c2⟩⟩
      · exact ⟨_, rfl, fun h => by simp at h, rfl⟩
    · exact ⟨_, rfl, fun h => by simp at h, rfl⟩
  rintro v w2 ⟨b, rfl, hbr, rfl⟩
  refine BrW.by (fun c2 => ?_) (fun c2 => ?_)
  · have hr := hbr c2
    refine Join0.cut (fun w' => ∃ A, 1 ≤ A.n ∧ CsiI w p P.inn A w') ?_ ?_
    · simp -dsimp (disch := first | omega | (simp only [go_sem, seval]; first | done | omega)) only [go_sem, seval, hb1]
      refine BrW.dec (fun d1 => ?_) (fun d1 => ?_)
      · simp -dsimp (disch := first | omega | (simp only [go_sem, seval]; first | done | omega)) only [go_sem, seval, hb1]
        exact ⟨{ P.A with n := 1 }, Int.le_refl 1, step _ _ _ ⟨hb1, ok1, ho1, hc1⟩ ⟨by show (0 : Int) ≤ 1; decide, by show (1 : Int) ≤ 9; decide, ok1.k, ok1.r⟩ rfl⟩
      · exact ⟨P.A, by have := ok1.n0; have h9 : (PSt.mk P.inn P.A true).A.n = P.A.n := rfl; omega, hb1, ok1, ho1, hc1⟩
    rintro w2 ⟨A, n1, hb2, ok2, ho2, hc2⟩
    have hl2 := lt_of_heap hb2
    have hlo2 := lt_of_heap ho2
    refine Join0.cut (fun w' => ∃ A, CsiI w p P.inn A w') ?_ ?_
    · obtain ⟨ak, ar, ap, am, an, a0, a1, a2, a3, a4, a5, a6, a7⟩ := A
      have k0 := ok2.k a0 (by simp [Act'.nums])
      have k1 := ok2.k a1 (by simp [Act'.nums])
      have k2 := ok2.k a2 (by simp [Act'.nums])
      have k3 := ok2.k a3 (by simp [Act'.nums])
      have k4 := ok2.k a4 (by simp [Act'.nums])
      have k5 := ok2.k a5 (by simp [Act'.nums])
      have k6 := ok2.k a6 (by simp [Act'.nums])
      have k7 := ok2.k a7 (by simp [Act'.nums])
      have n9 : an ≤ 9 := ok2.n1
      have rr : ar = 0 := ok2.r
      replace n1 : 1 ≤ an := n1
      simp -dsimp (disch := first | omega | (simp only [go_sem, seval]; first | done | omega)) only [go_sem, seval, hb2]
      refine BrW.dec (fun d1 => ?_) (fun d1 => ?_)
      · have hn : an = 1 ∨ an = 2 ∨ an = 3 ∨ an = 4 ∨ an = 5 ∨ an = 6 ∨ an = 7 ∨ an = 8 := by omega
        rcases hn with rfl | rfl | rfl | rfl | rfl | rfl | rfl | rfl
        · simp -dsimp (disch := first | omega | (simp only [go_sem, seval]; first | done | omega)) only [go_sem, seval, hb2]
          rw [wrap_i64 _ (by omega) (by omega)]
          refine Join1.cut (fun v w' => ∃ k : Int, v = .int .i64 k ∧ 0 ≤ k ∧ k ≤ 9999 ∧ w' = w2.drew) ?_ ?_
          · simp -dsimp (disch := first | omega | (simp only [go_sem, seval]; first | done | omega)) only [go_sem, seval]
            refine BrW.dec (fun d2 => ?_) (fun d2 => ?_)
            · exact ⟨9999, rfl, by omega, by omega, rfl⟩
            · exact ⟨_, rfl, by omega, by omega, rfl⟩
          rintro v w3 ⟨k, rfl, q0, q1, rfl⟩
          simp -dsimp (disch := first | omega | (simp only [go_sem, seval]; first | done | omega)) only [go_sem, seval, hb2]
          refine ⟨⟨ak, ar, ap, am, 1, k, a1, a2, a3, a4, a5, a6, a7⟩, ?_, ⟨by show (0 : Int) ≤ 1; decide, by show (1 : Int) ≤ 9; decide, ?_, rr⟩, ?_, ?_⟩
          · simp -dsimp (disch := first | omega | (simp only [go_sem, seval]; first | done | omega)) only [go_sem, seval]
          · intro x hx
            simp [Act'.nums] at hx
            rcases hx with rfl | rfl | rfl | rfl | rfl | rfl | rfl | rfl <;> omega
          · simp -dsimp (disch := first | omega | (simp only [go_sem, seval]; first | done | omega)) only [go_sem, seval, ho2]
          · exact ((hc2.drew.set _ _ (.inl (by simp)))).drew
        · simp -dsimp (disch := first | omega | (simp only [go_sem, seval]; first | done | omega)) only [go_sem, seval, hb2]
          rw [wrap_i64 _ (by omega) (by omega)]
          refine Join1.cut (fun v w' => ∃ k : Int, v = .int .i64 k ∧ 0 ≤ k ∧ k ≤ 9999 ∧ w' = w2.drew) ?_ ?_
          · simp -dsimp (disch := first | omega | (simp only [go_sem, seval]; first | done | omega)) only [go_sem, seval]
            refine BrW.dec (fun d2 => ?_) (fun d2 => ?_)
            · exact ⟨9999, rfl, by omega, by omega, rfl⟩
            · exact ⟨_, rfl, by omega, by omega, rfl⟩
          rintro v w3 ⟨k, rfl, q0, q1, rfl⟩
          simp -dsimp (disch := first | omega | (simp only [go_sem, seval]; first | done | omega)) only [go_sem, seval, hb2]
          refine ⟨⟨ak, ar, ap, am, 2, a0, k, a2, a3, a4, a5, a6, a7⟩, ?_, ⟨by show (0 : Int) ≤ 2; decide, by show (2 : Int) ≤ 9; decide, ?_, rr⟩, ?_, ?_⟩
          · simp -dsimp (disch := first | omega | (simp only [go_sem, seval]; first | done | omega)) only [go_sem, seval]
          · intro x hx
            simp [Act'.nums] at hx
            rcases hx with rfl | rfl | rfl | rfl | rfl | rfl | rfl | rfl <;> omega
          · simp -dsimp (disch := first | omega | (simp only [go_sem, seval]; first | done | omega)) only [go_sem, seval, ho2]
          · exact ((hc2.drew.set _ _ (.inl (by simp)))).drew
        · simp -dsimp (disch := first | omega | (simp only [go_sem, seval]; first | done | omega)) only [go_sem, seval, hb2]
          rw [wrap_i64 _ (by omega) (by omega)]
          refine Join1.cut (fun v w' => ∃ k : Int, v = .int .i64 k ∧ 0 ≤ k ∧ k ≤ 9999 ∧ w' = w2.drew) ?_ ?_
          · simp -dsimp (disch := first | omega | (simp only [go_sem, seval]; first | done | omega)) only [go_sem, seval]
            refine BrW.dec (fun d2 => ?_) (fun d2 => ?_)
            · exact ⟨9999, rfl, by omega, by omega, rfl⟩
            · exact ⟨_, rfl, by omega, by omega, rfl⟩
          rintro v w3 ⟨k, rfl, q0, q1, rfl⟩
          simp -dsimp (disch := first | omega | (simp only [go_sem, seval]; first | done | omega)) only [go_sem, seval, hb2]
          refine ⟨⟨ak, ar, ap, am, 3, a0, a1, k, a3, a4, a5, a6, a7⟩, ?_, ⟨by show (0 : Int) ≤ 3; decide, by show (3 : Int) ≤ 9; decide, ?_, rr⟩, ?_, ?_⟩
          · simp -dsimp (disch := first | omega | (simp only [go_sem, seval]; first | done | omega)) only [go_sem, seval]
          · intro x hx
            simp [Act'.nums] at hx
            rcases hx with rfl | rfl | rfl | rfl | rfl | rfl | rfl | rfl <;> omega
          · simp -dsimp (disch := first | omega | (simp only [go_sem, seval]; first | done | omega)) only [go_sem, seval, ho2]
          · exact ((hc2.drew.set _ _ (.inl (by simp)))).drew
        · simp -dsimp (disch := first | omega | (simp only [go_sem, seval]; first | done | omega)) only [go_sem, seval, hb2]
          rw [wrap_i64 _ (by omega) (by omega)]
          refine Join1.cut (fun v w' => ∃ k : Int, v = .int .i64 k ∧ 0 ≤ k ∧ k ≤ 9999 ∧ w' = w2.drew) ?_ ?_
          · simp -dsimp (disch := first | omega | (simp only [go_sem, seval]; first | done | omega)) only [go_sem, seval]
            refine BrW.dec (fun d2 => ?_) (fun d2 => ?_)
            · exact ⟨9999, rfl, by omega, by omega, rfl⟩
            · exact ⟨_, rfl, by omega, by omega, rfl⟩
          rintro v w3 ⟨k, rfl, q0, q1, rfl⟩
          simp -dsimp (disch := first | omega | (simp only [go_sem, seval]; first | done | omega)) only [go_sem, seval, hb2]
          refine ⟨⟨ak, ar, ap, am, 4, a0, a1, a2, k, a4, a5, a6, a7⟩, ?_, ⟨by show (0 : Int) ≤ 4; decide, by show (4 : Int) ≤ 9; decide, ?_, rr⟩, ?_, ?_⟩
          · simp -dsimp (disch := first | omega | (simp only [go_sem, seval]; first | done | omega)) only [go_sem, seval]
          · intro x hx
            simp [Act'.nums] at hx
            rcases hx with rfl | rfl | rfl | rfl | rfl | rfl | rfl | rfl <;> omega
          · simp -dsimp (disch := first | omega | (simp only [go_sem, seval]; first | done | omega)) only [go_sem, seval, ho2]
          · exact ((hc2.drew.set _ _ (.inl (by simp)))).drew
        · simp -dsimp (disch := first | omega | (simp only [go_sem, seval]; first | done | omega)) only [go_sem, seval, hb2]
          rw [wrap_i64 _ (by omega) (by omega)]
          refine Join1.cut (fun v w' => ∃ k : Int, v = .int .i64 k ∧ 0 ≤ k ∧ k ≤ 9999 ∧ w' = w2.drew) ?_ ?_
          · simp -dsimp (disch := first | omega | (simp only [go_sem, seval]; first | done | omega)) only [go_sem, seval]
            refine BrW.dec (fun d2 => ?_) (fun d2 => ?_)
            · exact ⟨9999, rfl, by omega, by omega, rfl⟩
            · exact ⟨_, rfl, by omega, by omega, rfl⟩
          rintro v w3 ⟨k, rfl, q0, q1, rfl⟩
          simp -dsimp (disch := first | omega | (simp only [go_sem, seval]; first | done | omega)) only [go_sem, seval, hb2]
          refine ⟨⟨ak, ar, ap, am, 5, a0, a1, a2, a3, k, a5, a6, a7⟩, ?_, ⟨by show (0 : Int) ≤ 5; decide, by show (5 : Int) ≤ 9; decide, ?_, rr⟩, ?_, ?_⟩
          · simp -dsimp (disch := first | omega | (simp only [go_sem, seval]; first | done | omega)) only [go_sem, seval]
          · intro x hx
            simp [Act'.nums] at hx
            rcases hx with rfl | rfl | rfl | rfl | rfl | rfl | rfl | rfl <;> omega
          · simp -dsimp (disch := first | omega | (simp only [go_sem, seval]; first | done | omega)) only [go_sem, seval, ho2]
          · exact ((hc2.drew.set _ _ (.inl (by simp)))).drew
        · simp -dsimp (disch := first | omega | (simp only [go_sem, seval]; first | done | omega)) only [go_sem, seval, hb2]
          rw [wrap_i64 _ (by omega) (by omega)]
          refine Join1.cut (fun v w' => ∃ k : Int, v = .int .i64 k ∧ 0 ≤ k ∧ k ≤ 9999 ∧ w' = w2.drew) ?_ ?_
          · simp -dsimp (disch := first | omega | (simp only [go_sem, seval]; first | done | omega)) only [go_sem, seval]
            refine BrW.dec (fun d2 => ?_) (fun d2 => ?_)
            · exact ⟨9999, rfl, by omega, by omega, rfl⟩
            · exact ⟨_, rfl, by omega, by omega, rfl⟩
          rintro v w3 ⟨k, rfl, q0, q1, rfl⟩
          simp -dsimp (disch := first | omega | (simp only [go_sem, seval]; first | done | omega)) only [go_sem, seval, hb2]
          refine ⟨⟨ak, ar, ap, am, 6, a0, a1, a2, a3, a4, k, a6, a7⟩, ?_, ⟨by show (0 : Int) ≤ 6; decide, by show (6 : Int) ≤ 9; decide, ?_, rr⟩, ?_, ?_⟩
          · simp -dsimp (disch := first | omega | (simp only [go_sem, seval]; first | done | omega)) only [go_sem, seval]
          · intro x hx
            simp [Act'.nums] at hx
            rcases hx with rfl | rfl | rfl | rfl | rfl | rfl | rfl | rfl <;> omega
          · simp -dsimp (disch := first | omega | (simp only [go_sem, seval]; first | done | omega)) only [go_sem, seval, ho2]
          · exact ((hc2.drew.set _ _ (.inl (by simp)))).drew
        · simp -dsimp (disch := first | omega | (simp only [go_sem, seval]; first | done | omega)) only [go_sem, seval, hb2]
          rw [wrap_i64 _ (by omega) (by omega)]
          refine Join1.cut (fun v w' => ∃ k : Int, v = .int .i64 k ∧ 0 ≤ k ∧ k ≤ 9999 ∧ w' = w2.drew) ?_ ?_
          · simp -dsimp (disch := first | omega | (simp only [go_sem, seval]; first | done | omega)) only [go_sem, seval]
            refine BrW.dec (fun d2 => ?_) (fun d2 => ?_)
            · exact ⟨9999, rfl, by omega, by omega, rfl⟩
            · exact ⟨_, rfl, by omega, by omega, rfl⟩
          rintro v w3 ⟨k, rfl, q0, q1, rfl⟩
          simp -dsimp (disch := first | omega | (simp only [go_sem, seval]; first | done | omega)) only [go_sem, seval, hb2]
          refine ⟨⟨ak, ar, ap, am, 7, a0, a1, a2, a3, a4, a5, k, a7⟩, ?_, ⟨by show (0 : Int) ≤ 7; decide, by show (7 : Int) ≤ 9; decide, ?_, rr⟩, ?_, ?_⟩
          · simp -dsimp (disch := first | omega | (simp only [go_sem, seval]; first | done | omega)) only [go_sem, seval]
          · intro x hx
            simp [Act'.nums] at hx
            rcases hx with rfl | rfl | rfl | rfl | rfl | rfl | rfl | rfl <;> omega
          · simp -dsimp (disch := first | omega | (simp only [go_sem, seval]; first | done | omega)) only [go_sem, seval, ho2]
          · exact ((hc2.drew.set _ _ (.inl (by simp)))).drew
        · simp -dsimp (disch := first | omega | (simp only [go_sem, seval]; first | done | omega)) only [go_sem, seval, hb2]
          rw [wrap_i64 _ (by omega) (by omega)]
          refine Join1.cut (fun v w' => ∃ k : Int, v = .int .i64 k ∧ 0 ≤ k ∧ k ≤ 9999 ∧ w' = w2.drew) ?_ ?_
          · simp -dsimp (disch := first | omega | (simp only [go_sem, seval]; first | done | omega)) only [go_sem, seval]
            refine BrW.dec (fun d2 => ?_) (fun d2 => ?_)
            · exact ⟨9999, rfl, by omega, by omega, rfl⟩
            · exact ⟨_, rfl, by omega, by omega, rfl⟩
          rintro v w3 ⟨k, rfl, q0, q1, rfl⟩
          simp -dsimp (disch := first | omega | (simp only [go_sem, seval]; first | done | omega)) only [go_sem, seval, hb2]
          refine ⟨⟨ak, ar, ap, am, 8, a0, a1, a2, a3, a4, a5, a6, k⟩, ?_, ⟨by show (0 : Int) ≤ 8; decide, by show (8 : Int) ≤ 9; decide, ?_, rr⟩, ?_, ?_⟩
          · simp -dsimp (disch := first | omega | (simp only [go_sem, seval]; first | done | omega)) only [go_sem, seval]
          · intro x hx
            simp [Act'.nums] at hx
            rcases hx with rfl | rfl | rfl | rfl | rfl | rfl | rfl | rfl <;> omega
          · simp -dsimp (disch := first | omega | (simp only [go_sem, seval]; first | done | omega)) only [go_sem, seval, ho2]
          · exact ((hc2.drew.set _ _ (.inl (by simp)))).drew
      · exact ⟨_, hb2, ok2, ho2, hc2⟩
    · rintro w3 ⟨A3, h3⟩
      exact fz _ _ _ h3
  clear c2 hbr b
  have hI1 : CsiI w p P.inn P.A w1 := ⟨hb1, ok1, ho1, hc1⟩
  refine Join1.cut (fun v w' => ∃ b, v = .bool b ∧ w1 = w') ?_ ?_
  · simp -dsimp (disch := first | omega | (simp only [go_sem, seval]; first | done | omega)) only [go_sem, seval]
    refine BrW.dec (fun c1 => ?_) (fun c1 => ?_)
    · simp -dsimp (disch := first | omega | (simp only [go_sem, seval]; first | done | omega)) only [go_sem, seval, hb1]
      first | exact ⟨_, rfl, rfl⟩ | exact ⟨_, rfl⟩
    · simp -dsimp (disch := first | omega | (simp only [go_sem, seval]; first | done | omega)) only [go_sem, seval]
      refine BrW.dec (fun c2 => ?_) (fun c2 => ?_)
      · simp -dsimp (disch := first | omega | (simp only [go_sem, seval]; first | done | omega)) only [go_sem, seval, hb1]
        first | exact ⟨_, rfl, rfl⟩ | exact ⟨_, rfl⟩
      · exact ⟨_, rfl, rfl⟩
  rintro v w2 ⟨b, rfl, rfl⟩
  refine BrW.by (fun c2 => ?_) (fun c2 => ?_)
  · refine Join0.cut (fun w' => ∃ A, CsiI w p P.inn A w') ?_ ?_
    · simp -dsimp (disch := first | omega | (simp only [go_sem, seval]; first | done | omega)) only [go_sem, seval, hb1]
      refine BrW.dec (fun d1 => ?_) (fun d1 => ?_)
      · simp -dsimp (disch := first | omega | (simp only [go_sem, seval]; first | done | omega)) only [go_sem, seval, hb1]
        exact ⟨{ P.A with n := 1 }, step _ _ _ hI1 ⟨by show (0 : Int) ≤ 1; decide, by show (1 : Int) ≤ 9; decide, ok1.k, ok1.r⟩ rfl⟩
      · exact ⟨P.A, hI1⟩
    rintro w2 ⟨A, hb2, ok2, ho2, hc2⟩
    have hl2 := lt_of_heap hb2
    have hlo2 := lt_of_heap ho2
    have n0 : 0 ≤ A.n := ok2.n0
    refine Join0.cut (fun w' => ∃ A, CsiI w p P.inn A w') ?_ ?_
    · simp -dsimp (disch := first | omega | (simp only [go_sem, seval]; first | done | omega)) only [go_sem, seval, hb2]
      refine BrW.dec (fun d1 => ?_) (fun d1 => ?_)
      · simp -dsimp (disch := first | omega | (simp only [go_sem, seval]; first | done | omega)) only [go_sem, seval, hb2]
        refine ⟨{ A with n := A.n + 1 }, ?_, ⟨by show 0 ≤ A.n + 1; omega, by show A.n + 1 ≤ 9; omega, ok2.k, ok2.r⟩, ?_, hc2.set _ _ (.inl (by simp))⟩
        · simp -dsimp (disch := first | omega | (simp only [go_sem, seval]; first | done | omega)) only [go_sem, seval]
        · simp -dsimp (disch := first | omega | (simp only [go_sem, seval]; first | done | omega)) only [go_sem, seval, ho2]
      · exact ⟨A, hb2, ok2, ho2, hc2⟩
    · rintro w3 ⟨A3, h3⟩
      exact fz _ _ _ h3
  clear c2 b
  refine Join1.cut (fun v w' => ∃ b, v = .bool b ∧ w1 = w') ?_ ?_
  · simp -dsimp (disch := first | omega | (simp only [go_sem, seval]; first | done | omega)) only [go_sem, seval]
    refine BrW.dec (fun c1 => ?_) (fun c1 => ?_)
    · simp -dsimp (disch := first | omega | (simp only [go_sem, seval]; first | done | omega)) only [go_sem, seval]
      refine BrW.dec (fun c2 => ?_) (fun c2 => ?_)
      · simp -dsimp (disch := first | omega | (simp only [go_sem, seval]; first | done | omega)) only [go_sem, seval]
        first | exact ⟨_, rfl, rfl⟩ | exact ⟨_, rfl⟩
      · exact ⟨_, rfl, rfl⟩
    · exact ⟨_, rfl, rfl⟩
  rintro v w2 ⟨b, rfl, rfl⟩
  refine BrW.by (fun c2 => ?_) (fun c2 => ?_)
  · simp -dsimp (disch := first | omega | (simp only [go_sem, seval]; first | done | omega)) only [go_sem, seval, hb1, ho1, zeroA]
    refine fin0 _ ⟨P.inn, { P.A with priv := IntKind.u8.wrap r }, true⟩ ?_ ⟨ok1.n0, ok1.n1, ok1.k, ok1.r⟩ ((hc1.set p _ (.inl (by simp))).set w.heap.size _ (.inr (Nat.le_refl _)))
    simp -dsimp (disch := first | omega | (simp only [go_sem, seval]; first | done | omega)) only [go_sem, seval]
  clear c2 b
  refine Join1.cut (fun v w' => ∃ b, v = .bool b ∧ w1 = w') ?_ ?_
  · simp -dsimp (disch := first | omega | (simp only [go_sem, seval]; first | done | omega)) only [go_sem, seval]
    refine BrW.dec (fun c1 => ?_) (fun c1 => ?_)
    · simp -dsimp (disch := first | omega | (simp only [go_sem, seval]; first | done | omega)) only [go_sem, seval, hb1]
      first | exact ⟨_, rfl, rfl⟩ | exact ⟨_, rfl⟩
    · exact ⟨_, rfl, rfl⟩
  rintro v w2 ⟨b, rfl, rfl⟩
  refine BrW.by (fun c2 => ?_) (fun c2 => ?_)
  · simp -dsimp (disch := first | omega | (simp only [go_sem, seval]; first | done | omega)) only [go_sem, seval, hb1, ho1, zeroA]
    refine fin0 _ ⟨P.inn, { P.A with mid := IntKind.u8.wrap r }, true⟩ ?_ ⟨ok1.n0, ok1.n1, ok1.k, ok1.r⟩ ((hc1.set p _ (.inl (by simp))).set w.heap.size _ (.inr (Nat.le_refl _)))
    simp -dsimp (disch := first | omega | (simp only [go_sem, seval]; first | done | omega)) only [go_sem, seval]
  clear c2 b
  refine Join1.cut (fun v w' => ∃ b, v = .bool b ∧ w1 = w') ?_ ?_
  · simp -dsimp (disch := first | omega | (simp only [go_sem, seval]; first | done | omega)) only [go_sem, seval]
    refine BrW.dec (fun c1 => ?_) (fun c1 => ?_)
    · simp -dsimp (disch := first | omega | (simp only [go_sem, seval]; first | done | omega)) only [go_sem, seval]
      first | exact ⟨_, rfl, rfl⟩ | exact ⟨_, rfl⟩
    · exact ⟨_, rfl, rfl⟩
  rintro v w2 ⟨b, rfl, rfl⟩
  refine BrW.by (fun c2 => ?_) (fun c2 => ?_)
  · simp -dsimp (disch := first | omega | (simp only [go_sem, seval]; first | done | omega)) only [go_sem, seval, hb1, ho1, zeroA]
    have hz : (setBlk w1 p (.cells #[.int .i64 0, .int .i64 P.A.kind, .int .i32 P.A.r, .int .u8 P.A.priv, .int .u8 P.A.mid, .int .i64 P.A.n, .int .i64 P.A.n0, .int .i64 P.A.n1, .int .i64 P.A.n2, .int .i64 P.A.n3, .int .i64 P.A.n4, .int .i64 P.A.n5, .int .i64 P.A.n6, .int .i64 P.A.n7, .bool true] 70)).heap.size = w1.heap.size := by simp -dsimp (disch := first | omega | (simp only [go_sem, seval]; first | done | omega)) only [go_sem, seval]
    rw [hz]
    obtain ⟨w2, hw2⟩ : ∃ w2, w2 = (setBlk w1 p (PSt.mk 0 P.A true).obj).alloc (.cells ({ P.A with kind := 4, r := r } : Act').cells.toArray 35) := ⟨_, rfl⟩
    have hb2 : w2.heap[p]? = some (PSt.mk 0 P.A true).obj := by rw [hw2]; simp -dsimp (disch := first | omega | (simp only [go_sem, seval]; first | done | omega)) only [go_sem, seval]
    have ho2 : w2.heap[w.heap.size]? = some (.cells zeroA.cells.toArray 35) := by rw [hw2]; simp -dsimp (disch := first | omega | (simp only [go_sem, seval]; first | done | omega)) only [go_sem, seval, ho1, zeroA]
    have hx2 : w2.heap[w1.heap.size]? = some (.cells ({ P.A with kind := 4, r := r } : Act').cells.toArray 35) := by rw [hw2]; simp -dsimp (disch := first | omega | (simp only [go_sem, seval]; first | done | omega)) only [go_sem, seval]
    have hc2 : Chg [p] w w2 := by rw [hw2]; exact (hc1.set p _ (.inl (by simp))).alloc _
    simp only [PSt.obj, Act'.cells] at hw2
    rw [← hw2]
    clear hw2 hz
    have hlx := lt_of_heap hx2
    have hz1 := hc1.size
    have n0 := ok1.n0
    have n1 := ok1.n1
    refine Join0.cut (fun w' => ∃ A' : Act', A'.fits ∧ w'.heap[p]? = some (PSt.mk 0 P.A true).obj ∧ w'.heap[w.heap.size]? = some (.cells zeroA.cells.toArray 35) ∧ w'.heap[w1.heap.size]? = some (.cells A'.cells.toArray 35) ∧ Chg [p] w w') ?_ ?_
    · simp -dsimp (disch := first | omega | (simp only [go_sem, seval]; first | done | omega)) only [go_sem, seval, hx2]
      refine BrW.dec (fun d1 => ?_) (fun d1 => ?_)
      · simp -dsimp (disch := first | omega | (simp only [go_sem, seval]; first | done | omega)) only [go_sem, seval, hx2]
        refine ⟨{ P.A with kind := 4, r := r, n := 8 }, fits_of r0 r1 (by show (0 : Int) ≤ 8; decide) (by show (8 : Int) ≤ 9; decide) ok1.k, ?_, ?_, ?_, hc2.set _ _ (.inr (by omega))⟩
        · simp -dsimp (disch := first | omega | (simp only [go_sem, seval]; first | done | omega)) only [go_sem, seval, hb2]
        · simp -dsimp (disch := first | omega | (simp only [go_sem, seval]; first | done | omega)) only [go_sem, seval, ho2, zeroA]
        · simp -dsimp (disch := first | omega | (simp only [go_sem, seval]; first | done | omega)) only [go_sem, seval]
      · exact ⟨{ P.A with kind := 4, r := r }, fits_of r0 r1 n0 n1 ok1.k, hb2, ho2, hx2, hc2⟩
    · rintro w3 ⟨A', hf, hb3, ho3, hx3, hc3⟩
      have hl3 := lt_of_heap ho3
      have hl4 := lt_of_heap hx3
      have hl5 := lt_of_heap hb3
      simp -dsimp (disch := first | omega | (simp only [go_sem, seval]; first | done | omega)) only [go_sem, seval, hx3, ho3, zeroA]
      refine hK _ _ ⟨⟨0, P.A, true⟩, A', ?_, ⟨ok1.n0, ok1.n1, ok1.k, ok1.r⟩, rfl, hf, hc3.set w.heap.size _ (.inr (Nat.le_refl _))⟩
      simp -dsimp (disch := first | omega | (simp only [go_sem, seval]; first | done | omega)) only [go_sem, seval, hb3]
  · simp -dsimp (disch := first | omega | (simp only [go_sem, seval]; first | done | omega)) only [go_sem, seval, hb1, ho1, zeroA]
    refine fin0 _ ⟨3, P.A, true⟩ ?_ ⟨ok1.n0, ok1.n1, ok1.k, ok1.r⟩ ((hc1.set p _ (.inl (by simp))).set w.heap.size _ (.inr (Nat.le_refl _)))
    simp -dsimp (disch := first | omega | (simp only [go_sem, seval]; first | done | omega)) only [go_sem, seval]
def StepQ (w : World) (p : Nat) (P : PSt) (r : Int) (v : Value) (w' : World) : Prop := ∃ (P' : PSt) (a : Act'), w'.heap[p]? = some P'.obj ∧ P'.ok ∧ v = a.val ∧ a.fits ∧ Chg [p] w w' ∧ (P.inn = 0 → 32 ≤ r → r < 127 → P' = P ∧ a = printA r)
theorem pstep_c {w : World} {p : Nat} {P : PSt} (hb : w.heap[p]? = some P.obj) (ok : P.ok) (r : Int) (r0 : -2147483648 ≤ r) (r1 : r ≤ 2147483647) :
    Calls Try.prog 59 #[.pointer (some ⟨p, 0, none⟩), .int .i32 r] w (retK (StepQ w p P r)) := by
  have hl := lt_of_heap hb
  apply lyceumref07_Parser_Step_link
  intro K hK
  unfold lyceumref07_Parser_Step
  have fin0 : ∀ (w4 : World) (P' : PSt), w4.heap[p]? = some P'.obj → P'.ok → Chg [p] w w4 → (P.inn = 0 → 32 ≤ r → r < 127 → False) → K zeroA.val w4 := fun w4 P' h1 h2 h3 h4 => hK _ _ ⟨P', zeroA, h1, h2, rfl, zeroA_fits, h3, fun a b c => (h4 a b c).elim⟩
  simp -dsimp (disch := first | omega | (simp only [go_sem, seval]; first | done | omega)) only [go_sem, seval, hb]
  refine BrW.dec (fun c1 => ?_) (fun c1 => ?_)
  · simp -dsimp (disch := first | omega | (simp only [go_sem, seval]; first | done | omega)) only [go_sem, seval, hb]
    refine fin0 _ ⟨1, zeroA, false⟩ ?_ ⟨Int.le_refl 0, by show (0 : Int) ≤ 9; decide, zeros_ok, rfl⟩ ?_ (by omega)
    · simp -dsimp (disch := first | omega | (simp only [go_sem, seval]; first | done | omega)) only [go_sem, seval, zeroA]
    · (repeat (first | exact Chg.refl _ _ | apply Chg.drew | apply Chg.alloc | (refine Chg.set ?_ _ _ (by first | (left; simp; done) | (right; omega)))))
  obtain ⟨w1, hw1⟩ : ∃ w1, w1 = w.alloc (.cells zeroA.cells.toArray 35) := ⟨_, rfl⟩
  have hb1 : w1.heap[p]? = some P.obj := by rw [hw1]; simp -dsimp (disch := first | omega | (simp only [go_sem, seval]; first | done | omega)) only [go_sem, seval, hb]
  have ho1 : w1.heap[w.heap.size]? = some (.cells zeroA.cells.toArray 35) := by rw [hw1]; simp -dsimp (disch := first | omega | (simp only [go_sem, seval]; first | done | omega)) only [go_sem, seval]
  have hc1 : Chg [p] w w1 := by rw [hw1]; (repeat (first | exact Chg.refl _ _ | apply Chg.drew | apply Chg.alloc | (refine Chg.set ?_ _ _ (by first | (left; simp; done) | (right; omega)))))
  have hc0 : Chg [] w w1 := by rw [hw1]; (repeat (first | exact Chg.refl _ _ | apply Chg.drew | apply Chg.alloc | (refine Chg.set ?_ _ _ (by first | (left; simp; done) | (right; omega)))))
  simp only [zeroA, Act'.cells] at hw1
  rw [← hw1]
  clear hw1
  have hl1 := lt_of_heap hb1
  have hlo := lt_of_heap ho1
  refine Join1.cut (fun v w' => ∃ b, v = .bool b ∧ (b = true → r = 24 ∨ r = 26) ∧ w1 = w') ?_ ?_
  · simp -dsimp (disch := first | omega | (simp only [go_sem, seval]; first | done | omega)) only [go_sem, seval]
    refine BrW.dec (fun c2 => ?_) (fun c2 => ?_)
    · exact ⟨_, rfl, fun _ => .inl c2, rfl⟩
    · simp -dsimp (disch := first | omega | (simp only [go_sem, seval]; first | done | omega)) only [go_sem, seval]
      first | exact ⟨_, rfl, fun h => .inr (of_decide_eq_true h), rfl⟩ | exact ⟨_, rfl, fun h => .inr (of_decide_eq_true h)⟩ | exact ⟨_, rfl, fun h => .inr h⟩
  rintro v w2 ⟨b, rfl, hbr, rfl⟩
  refine BrW.by (fun c2 => ?_) (fun c2 => ?_)
  · simp -dsimp (disch := first | omega | (simp only [go_sem, seval]; first | done | omega)) only [go_sem, seval, hb1, ho1, zeroA]
    refine fin0 _ ⟨0, P.A, P.any⟩ ?_ ⟨ok.n0, ok.n1, ok.k, ok.r⟩ ((hc1.set p _ (.inl (by simp))).set w.heap.size _ (.inr (Nat.le_refl _))) (fun _ _ _ => by rcases hbr c2 with h | h <;> omega)
    simp -dsimp (disch := first | omega | (simp only [go_sem, seval]; first | done | omega)) only [go_sem, seval]
  clear c2 hbr b
  refine Join1.cut (fun v w' => ∃ b, v = .bool b ∧ (b = true → r < 32 ∨ 127 ≤ r) ∧ w1 = w') ?_ ?_
  · simp -dsimp (disch := first | omega | (simp only [go_sem, seval]; first | done | omega)) only [go_sem, seval]
    refine BrW.dec (fun c2 => ?_) (fun c2 => ?_)
    · exact ⟨_, rfl, fun _ => .inl (by omega), rfl⟩
    simp -dsimp (disch := first | omega | (simp only [go_sem, seval]; first | done | omega)) only [go_sem, seval]
    refine BrW.dec (fun c3 => ?_) (fun c3 => ?_)
    · exact ⟨_, rfl, fun _ => .inr (by omega), rfl⟩
    simp -dsimp (disch := first | omega | (simp only [go_sem, seval]; first | done | omega)) only [go_sem, seval]
    refine BrW.dec (fun c4 => ?_) (fun c4 => ?_)
    · simp -dsimp (disch := first | omega | (simp only [go_sem, seval]; first | done | omega)) only [go_sem, seval]
      first | exact ⟨_, rfl, fun _ => .inr c4, rfl⟩ | exact ⟨_, rfl, fun _ => .inr c4⟩
    · exact ⟨_, rfl, fun h => by simp at h, rfl⟩
  rintro v w2 ⟨b, rfl, hbr, rfl⟩
  refine BrW.by (fun c2 => ?_) (fun c2 => ?_)
  · simp -dsimp (disch := first | omega | (simp only [go_sem, seval]; first | done | omega)) only [go_sem, seval, hb1, ho1, zeroA]
    refine fin0 _ P ?_ ok (hc1.set w.heap.size _ (.inr (Nat.le_refl _))) (fun _ _ _ => by rcases hbr c2 with h | h <;> omega)
    simp -dsimp (disch := first | omega | (simp only [go_sem, seval]; first | done | omega)) only [go_sem, seval, hb1]
  clear c2 hbr b
  simp -dsimp (disch := first | omega | (simp only [go_sem, seval]; first | done | omega)) only [go_sem, seval]
  refine BrW.dec (fun c2 => ?_) (fun c2 => ?_)
  · simp -dsimp (disch := first | omega | (simp only [go_sem, seval]; first | done | omega)) only [go_sem, seval, hb1]
    refine BrW.dec (fun c3 => ?_) (fun c3 => ?_)
    · simp -dsimp (disch := first | omega | (simp only [go_sem, seval]; first | done | omega)) only [go_sem, seval, ho1, zeroA]
      refine hK _ _ ⟨P, ⟨2, r, 0, 0, 0, 0, 0, 0, 0, 0, 0, 0, 0⟩, ?_, ok, rfl, fits_of r0 r1 (Int.le_refl 0) (by show (0 : Int) ≤ 9; decide) zeros_ok, hc1.set w.heap.size _ (.inr (Nat.le_refl _)), fun _ _ _ => by omega⟩
      simp -dsimp (disch := first | omega | (simp only [go_sem, seval]; first | done | omega)) only [go_sem, seval, hb1]
    · refine Join0.inl ?_
      simp -dsimp (disch := first | omega | (simp only [go_sem, seval]; first | done | omega)) only [go_sem, seval]
      refine BrW.dec (fun c4 => ?_) (fun c4 => ?_)
      · simp -dsimp (disch := first | omega | (simp only [go_sem, seval]; first | done | omega)) only [go_sem, seval, hb1, ho1, zeroA]
        refine fin0 _ ⟨0, P.A, P.any⟩ ?_ ⟨ok.n0, ok.n1, ok.k, ok.r⟩ ((hc1.set p _ (.inl (by simp))).set w.heap.size _ (.inr (Nat.le_refl _))) (fun _ _ _ => by omega)
        simp -dsimp (disch := first | omega | (simp only [go_sem, seval]; first | done | omega)) only [go_sem, seval]
      · simp -dsimp (disch := first | omega | (simp only [go_sem, seval]; first | done | omega)) only [go_sem, seval, hb1, ho1, zeroA]
        refine fin0 _ P ?_ ok (hc1.set w.heap.size _ (.inr (Nat.le_refl _))) (fun _ _ _ => by omega)
        simp -dsimp (disch := first | omega | (simp only [go_sem, seval]; first | done | omega)) only [go_sem, seval, hb1]
  · refine Join0.cut (fun w' => w'.heap[w.heap.size]? = some (.cells zeroA.cells.toArray 35) ∧ Chg [p] w w' ∧ (∃ i, w'.heap[p]? = some (PSt.mk i P.A P.any).obj) ∧ P.inn ≠ 0) ?_ ?_
    · simp -dsimp (disch := first | omega | (simp only [go_sem, seval]; first | done | omega)) only [go_sem, seval, hb1]
      refine BrW.dec (fun c3 => ?_) (fun c3 => ?_)
      · simp -dsimp (disch := first | omega | (simp only [go_sem, seval]; first | done | omega)) only [go_sem, seval, ho1, zeroA]
        refine hK _ _ ⟨P, printA r, ?_, ok, rfl, fits_of r0 r1 (Int.le_refl 0) (by show (0 : Int) ≤ 9; decide) zeros_ok, hc1.set w.heap.size _ (.inr (Nat.le_refl _)), fun _ _ _ => ⟨rfl, rfl⟩⟩
        simp -dsimp (disch := first | omega | (simp only [go_sem, seval]; first | done | omega)) only [go_sem, seval, hb1]
      simp -dsimp (disch := first | omega | (simp only [go_sem, seval]; first | done | omega)) only [go_sem, seval]
      refine BrW.dec (fun c4 => ?_) (fun c4 => ?_)
      · simp -dsimp (disch := first | omega | (simp only [go_sem, seval]; first | done | omega)) only [go_sem, seval]
        refine OpX.call lyceumref07_Parser_escape_b rfl (Calls.ret (pescape_c hb1 ok r r0 r1) ?_)
        rintro v w2 ⟨P', a, h1, h2, rfl, h4, h5⟩
        have ho2 := h5.keep ho1 (by simp; omega)
        have hlo2 := lt_of_heap ho2
        have hlp2 := lt_of_heap h1
        simp -dsimp (disch := first | omega | (simp only [go_sem, seval]; first | done | omega)) only [go_sem, seval, ho2, zeroA]
        refine hK _ _ ⟨P', a, ?_, h2, rfl, h4, (hc1.trans h5 (fun x hx => .inl hx)).set w.heap.size _ (.inr (Nat.le_refl _)), fun h => by omega⟩
        simp -dsimp (disch := first | omega | (simp only [go_sem, seval]; first | done | omega)) only [go_sem, seval, h1]
      simp -dsimp (disch := first | omega | (simp only [go_sem, seval]; first | done | omega)) only [go_sem, seval]
      refine BrW.dec (fun c5 => ?_) (fun c5 => ?_)
      · simp -dsimp (disch := first | omega | (simp only [go_sem, seval]; first | done | omega)) only [go_sem, seval]
        refine OpX.call lyceumref07_Parser_csi_b rfl (Calls.ret (pcsi_c hb1 ok r r0 r1) ?_)
        rintro v w2 ⟨P', a, h1, h2, rfl, h4, h5⟩
        have ho2 := h5.keep ho1 (by simp; omega)
        have hlo2 := lt_of_heap ho2
        have hlp2 := lt_of_heap h1
        simp -dsimp (disch := first | omega | (simp only [go_sem, seval]; first | done | omega)) only [go_sem, seval, ho2, zeroA]
        refine hK _ _ ⟨P', a, ?_, h2, rfl, h4, (hc1.trans h5 (fun x hx => .inl hx)).set w.heap.size _ (.inr (Nat.le_refl _)), fun h => by omega⟩
        simp -dsimp (disch := first | omega | (simp only [go_sem, seval]; first | done | omega)) only [go_sem, seval, h1]
      simp -dsimp (disch := first | omega | (simp only [go_sem, seval]; first | done | omega)) only [go_sem, seval]
      refine BrW.dec (fun c6 => ?_) (fun c6 => ?_)
      · refine Join1.cut (fun v w' => ∃ b, v = .bool b ∧ w1 = w') ?_ ?_
        · simp -dsimp (disch := first | omega | (simp only [go_sem, seval]; first | done | omega)) only [go_sem, seval]
          refine BrW.dec (fun g1 => ?_) (fun g1 => ?_)
          · simp -dsimp (disch := first | omega | (simp only [go_sem, seval]; first | done | omega)) only [go_sem, seval]
            first | exact ⟨_, rfl, rfl⟩ | exact ⟨_, rfl⟩
          · exact ⟨_, rfl, rfl⟩
        rintro v w2 ⟨b, rfl, rfl⟩
        refine BrW.by (fun g2 => ?_) (fun g2 => ?_)
        · simp -dsimp (disch := first | omega | (simp only [go_sem, seval]; first | done | omega)) only [go_sem, seval, hb1]
          refine ⟨?_, hc1.set p _ (.inl (by simp)), ⟨0, ?_⟩, c3⟩
          · simp -dsimp (disch := first | omega | (simp only [go_sem, seval]; first | done | omega)) only [go_sem, seval, ho1]
          · simp -dsimp (disch := first | omega | (simp only [go_sem, seval]; first | done | omega)) only [go_sem, seval]
        · exact ⟨ho1, hc1, ⟨P.inn, hb1⟩, c3⟩
      · exact ⟨ho1, hc1, ⟨P.inn, hb1⟩, c3⟩
    · rintro w2 ⟨ho2, hc2, ⟨i, hb2⟩, hi⟩
      have hlo2 := lt_of_heap ho2
      have hlp2 := lt_of_heap hb2
      simp -dsimp (disch := first | omega | (simp only [go_sem, seval]; first | done | omega)) only [go_sem, seval, ho2, zeroA]
      refine fin0 _ ⟨i, P.A, P.any⟩ ?_ ⟨ok.n0, ok.n1, ok.k, ok.r⟩ (hc2.set w.heap.size _ (.inr (Nat.le_refl _))) (fun h => absurd h hi)
      simp -dsimp (disch := first | omega | (simp only [go_sem, seval]; first | done | omega)) only [go_sem, seval, hb2]
end Go.Proofs.Ytjfembffjjijaaa
namespace Lyc
open Go
section
variable {P : Program}
def bstr (l : List UInt8) : ByteArray := ⟨l.toArray⟩
def byteF (b : UInt8) : List Value := [.int .u8 b.toNat]
theorem byteF_len (b : UInt8) : (byteF b).length = 1 := rfl
theorem byteF_ok (b : UInt8) : okCells (byteF b) = true := rfl
theorem byteF_flat (l : List UInt8) : l.flatMap byteF = l.map fun b => .int .u8 b.toNat := by
  induction l with
  | nil => rfl
  | cons b l ih => simp [byteF, ih]
@[go_sem] theorem bstr_size (l : List UInt8) : (bstr l).size = l.length := by simp [bstr, ByteArray.size]
@[go_sem] theorem bstr_toList (l : List UInt8) : (bstr l).toList = l := by rw [ByteArray.toList_eq]; rfl
theorem bstr_of (s : ByteArray) : bstr s.toList = s := by
  rw [ByteArray.toList_eq]; rfl
@[go_sem] theorem bstr_append (a b : List UInt8) : bstr a ++ bstr b = bstr (a ++ b) := by
  apply ByteArray.ext
  simp [bstr]
theorem foldl_bytes (l : List UInt8) : ∀ (acc : List UInt8), ((l.map fun b : UInt8 => (b.toNat : Int)).foldl (fun (r : ByteArray) n => r.push (UInt8.ofNat n.toNat)) (bstr acc)) = bstr (acc ++ l) := by
  induction l with
  | nil => intro acc; simp
  | cons b l ih =>
    intro acc
    simp only [List.map_cons, List.foldl_cons]
    have : (bstr acc).push (UInt8.ofNat ((b.toNat : Int)).toNat) = bstr (acc ++ [b]) := by
      apply ByteArray.ext
      simp [bstr]
    rw [this, ih]; simp
def tbytesSl (P : Program) (t : TypeId) : Bool := match P.underlying t with | some (.slice e) => (match P.underlying e with | some (.int .u8) => true | _ => false) | _ => false
theorem tbytesSl_spec {t : TypeId} (h : tbytesSl P t = true) : ∃ e, P.underlying t = some (.slice e) ∧ P.underlying e = some (.int .u8) := by
  unfold tbytesSl at h
  split at h
  · rename_i e hu
    split at h
    · rename_i hk; exact ⟨e, hu, hk⟩
    · simp at h
  · simp at h
theorem bytes_str {s d ty : TypeId} {a : Option Addr} {l : List UInt8} {c : Nat} {e : Option TypeId} {K : Value → World → Prop} {w : World} (hs : tbytesSl P s = true) (hd : tkind P d = some 3) (h : Sx w e byteF a l) :
    OpX P (.convert s d (.const (.slice a l.length c))) ty K w = K (.string (bstr l)) w := by
  obtain ⟨e0, h1, h2⟩ := tbytesSl_spec hs
  refine OpX_ok fun ρ hg => ?_
  simp only [execOp, mkOper, hg.1, Sem.run_bind]
  rw [run_convert_bytes_string w s d e0 a l.length c h1 h2 (tkind_3 hd)]
  have key : (Conv.bytesToString (.slice a l.length c)).run P w = .ok (.string (bstr l)) w := by
    cases a with
    | none =>
      have hl : l = [] := by
        cases l with
        | nil => rfl
        | cons x l => obtain ⟨b, o, _, _, _, _, _, h, _⟩ := h.at_ (by simp); simp at h
      subst hl
      simp [Conv.bytesToString]
      rfl
    | some ad =>
      have hl : (loadCells ad l.length).run P w = .ok ((l.map fun b : UInt8 => (b.toNat : Int)).map (Value.int .u8)).toArray w := by
        by_cases hn : l = []
        · subst hn; simp [loadCells, loadCellsFrom]
        · obtain ⟨b, o, c', e', fr, pre, post, h3, h4, h5, h6, h7⟩ := h.at_ hn
          cases h3
          have := run_loadCells_list (P := P) w ⟨b, o, none⟩ (l.flatMap byteF) (fun j v hj => by
            rw [add_mk, cell?_at, h4, h6, cellAt_cells]
            have hj' := (List.getElem?_eq_some_iff.1 hj).1
            rw [List.getElem?_toArray, List.append_assoc, List.getElem?_append_right (by omega), List.getElem?_append_left (by omega)]
            rw [← hj]; congr 1; omega)
          rw [byteF_flat] at this
          simpa [Function.comp_def] using this
      rw [run_bytesToString w ad l.length c _ hl]
      have := foldl_bytes l []
      rw [show (ByteArray.empty) = bstr [] from rfl, this]
      simp
  rw [key]
  rfl
end
end Lyc
namespace Go.Proofs.Ytjfembffjjijaaa
open Lyc Go
def runeF (r : Int) : List Value := [.int .i32 r]
theorem runeF_len (r : Int) : (runeF r).length = 1 := rfl
theorem runeF_ok (r : Int) : okCells (runeF r) = true := rfl
def asc (r : Int) : Prop := 0 ≤ r ∧ r ≤ 127
instance (r : Int) : Decidable (asc r) := by unfold asc; infer_instance
def ascB (r : Int) : UInt8 := UInt8.ofNat r.toNat
theorem ascB_nat {r : Int} (h : asc r) : ((ascB r).toNat : Int) = r := by
  obtain ⟨h0, h1⟩ := h
  simp only [ascB, UInt8.toNat_ofNat']
  omega
theorem valid_asc (w : World) (r : Int) (h : asc r) : Calls Try.prog 86 #[.int .i32 r] w (retK fun v w' => v = .bool true ∧ w' = w) := by
  obtain ⟨h0, h1⟩ := h
  apply unicode_utf8_ValidRune_link
  intro K hK
  unfold unicode_utf8_ValidRune
  refine Join1.inl ?_
  simp -dsimp (disch := first | omega | (simp only [go_sem, seval]; first | done | omega)) only [go_sem, seval]
  refine BrW.dec (fun _ => ?_) (fun h => absurd h0 h)
  simp -dsimp (disch := first | omega | (simp only [go_sem, seval]; first | done | omega)) only [go_sem, seval]
  refine BrW.dec (fun _ => ?_) (fun h => absurd h1 (by omega))
  exact hK _ _ ⟨rfl, rfl⟩
theorem appendRune_asc {base : Nat} {w : World} {v : Value} {l : List UInt8} (ho : Ox base w 5 1 byteF v l) (hb : base ≤ w.heap.size) (hl : l.length ≤ 100000000) (r : Int) (h : asc r) : Calls Try.prog 87 #[v, .int .i32 r] w
    (retK fun v' w' => Ox base w' 5 1 byteF v' (l ++ [ascB r]) ∧ Chg v.ownBlock.toList w w') := by
  obtain ⟨h0, h1⟩ := h
  have h2 := ascB_nat ⟨h0, h1⟩
  obtain ⟨a, cap, rfl, -⟩ := ho.form
  apply unicode_utf8_AppendRune_link
  intro K hK
  unfold unicode_utf8_AppendRune
  simp -dsimp (disch := first | omega | (simp only [go_sem, seval]; first | done | omega)) only [go_sem, seval]
  refine BrW.dec (fun _ => ?_) (fun h => absurd h1 (by omega))
  simp -dsimp (disch := first | omega | (simp only [go_sem, seval]; first | done | omega)) only [go_sem, seval]
  have hc1 := (Chg.refl [] w).alloc (.cells #[.int .u8 r] 5)
  refine app_x (l2 := [ascB r]) (e' := some 5) ty107ap byteF_len byteF_ok (ho.chg0 hc1) (Sx.built (c := [.int .u8 r]) (by simp -dsimp (disch := first | omega | (simp only [go_sem, seval]; first | done | omega)) only [go_sem, seval]) (by simp [byteF, h2])) rfl (by simp; omega) (by omega) (by simp -dsimp (disch := first | omega | (simp only [go_sem, seval]; first | done | omega)) only [go_sem, seval]; omega) ?_
  intro v' w' ho' hc' _
  exact hK _ _ ⟨ho', (hc1.mono (by simp)).trans hc' (fun x hx => .inl hx)⟩
theorem encode_asc {w : World} {e : Option TypeId} {a : Option Addr} {l : List Int} (hs : Sx w e runeF a l) (cap : Nat) (hl : l.length ≤ 100000) (h : ∀ r ∈ l, asc r) : Calls Try.prog 66 #[.slice a l.length cap] w
    (retK fun v w' => v = .string (bstr (l.map ascB)) ∧ Chg [] w w') := by
  apply runes_Encode_link
  intro K hK
  unfold runes_Encode
  simp -dsimp (disch := first | omega | (simp only [go_sem, seval]; first | done | omega)) only [go_sem, seval]
  refine Loop2.st (fun s : Nat × Value => s.2) (fun s : Nat × Value => .int .i64 s.1) (fun s w' => s.1 ≤ l.length ∧ Ox w.heap.size w' 5 1 byteF s.2 ((l.take s.1).map ascB) ∧ Chg [] w w') (fun s => l.length - s.1) (0, .slice none 0 0) rfl rfl ⟨by simp, Ox.nil _ _ _ _ _, Chg.refl _ _⟩ ?_
  rintro next ⟨k, v⟩ w' hn ⟨hk, ho, hc⟩
  dsimp only at hk ho ⊢
  simp -dsimp (disch := first | omega | (simp only [go_sem, seval]; first | done | omega)) only [go_sem, seval]
  refine BrW.dec (fun h1 => ?_) (fun h1 => ?_)
  · have hk' : k < l.length := by omega
    obtain ⟨b, o, rfl, hb, hcell⟩ := (hs.chg0 hc).get1 (g := fun r => .int .i32 r) (fun _ => rfl) (List.getElem?_eq_getElem hk')
    have ha := h _ (List.getElem_mem hk')
    simp -dsimp (disch := first | omega | (simp only [go_sem, seval]; first | done | omega)) only [go_sem, seval, hcell]
    refine Join1.inl ?_
    refine OpX.call unicode_utf8_ValidRune_b rfl (Calls.ret (valid_asc _ _ ha) ?_)
    rintro v1 w1 ⟨rfl, rfl⟩
    simp -dsimp (disch := first | omega | (simp only [go_sem, seval]; first | done | omega)) only [go_sem, seval]
    refine OpX.call unicode_utf8_AppendRune_b rfl (Calls.ret (appendRune_asc ho hc.size (by simp; omega) _ ha) ?_)
    rintro v2 w2 ⟨ho2, hc2⟩
    simp -dsimp (disch := first | omega | (simp only [go_sem, seval]; first | done | omega)) only [go_sem, seval]
    refine hn (k + 1, v2) _ ⟨by dsimp only; omega, ?_, own_chg ho hc hc2⟩ (by dsimp only; omega)
    dsimp only
    rw [take_next hk', List.map_append]
    exact ho2
  · have hk' : k = l.length := by omega
    subst hk'
    rw [List.take_length] at ho
    obtain ⟨a', cap', rfl, -, hs', -⟩ := ho.form
    rw [bytes_str (by kernel_rfl) (by kernel_rfl) hs']
    exact hK _ _ ⟨rfl, hc⟩
def shown (l : List Cel) : List Int := l.filterMap fun c => if c.check then (if c.tail then none else some c.r) else some 63
def trimR : List Int → List Int
  | [] => []
  | r :: l => if r :: l = List.replicate (l.length + 1) 32 then [] else r :: trimR l
def trimE (l : List Int) : List Int := (l.reverse.dropWhile (· == 32)).reverse
theorem trimE_step (l : List Int) (h : l ≠ []) (hl : l.getLast h = 32) : trimE l = trimE l.dropLast := by
  have e : l = l.dropLast ++ [32] := by rw [← hl]; exact (List.dropLast_concat_getLast h).symm
  conv => lhs; rw [e]
  simp [trimE]
theorem trimE_done (l : List Int) (h : l ≠ []) (hl : l.getLast h ≠ 32) : trimE l = l := by
  have e : l = l.dropLast ++ [l.getLast h] := (List.dropLast_concat_getLast h).symm
  rw [e]
  simp [trimE, hl]
theorem text_asc {w : World} {e : Option TypeId} {a : Option Addr} {l : List Cel} (hs : SxC w e a l) (cap : Nat) (hl : l.length ≤ 100000) (h : ∀ r ∈ trimE (shown l), asc r) : Calls Try.prog 42 #[.slice a l.length cap] w
    (retK fun v w' => v = .string (bstr ((trimE (shown l)).map ascB)) ∧ Chg [] w w') := by
  apply cell_Text_link
  intro K hK
  unfold cell_Text
  simp -dsimp (disch := first | omega | (simp only [go_sem, seval]; first | done | omega)) only [go_sem, seval]
  refine Loop2.st (fun s : Nat × Value => s.2) (fun s : Nat × Value => .int .i64 s.1) (fun s w' => s.1 ≤ l.length ∧ Ox w.heap.size w' 21 1 runeF s.2 (shown (l.take s.1)) ∧ Chg [] w w') (fun s => l.length - s.1) (0, .slice none 0 0) rfl rfl ⟨by simp, Ox.nil _ _ _ _ _, Chg.refl _ _⟩ ?_
  rintro next ⟨k, v⟩ w' hn ⟨hk, ho, hc⟩
  dsimp only at hk ho ⊢
  simp -dsimp (disch := first | omega | (simp only [go_sem, seval]; first | done | omega)) only [go_sem, seval]
  refine BrW.dec (fun h1 => ?_) (fun h1 => ?_)
  · have hk' : k < l.length := by omega
    obtain ⟨b, o, rfl, hb, hcell, -⟩ := SxC.cel (hs.chg0 hc) (List.getElem?_eq_getElem hk')
    have hsh : shown (l.take (k + 1)) = shown (l.take k) ++ shown [l[k]] := by
      rw [take_next hk', shown, List.filterMap_append]; rfl
    have hlen : (shown (l.take k)).length ≤ 100000 := Nat.le_trans (List.length_filterMap_le _ _) (by simp; omega)
    simp -dsimp (disch := first | omega | (simp only [go_sem, seval]; first | done | omega)) only [go_sem, seval, hcell]
    have hc1 := hc.alloc (.cells l[k].cells.toArray 39)
    have hb1 : w'.heap.size < (w'.alloc (.cells l[k].cells.toArray 39)).heap.size := by simp -dsimp (disch := first | omega | (simp only [go_sem, seval]; first | done | omega)) only [go_sem, seval]; omega
    have hh1 : (w'.alloc (.cells l[k].cells.toArray 39)).heap[w'.heap.size]? = some (.cells l[k].cells.toArray 39) := by simp -dsimp (disch := first | omega | (simp only [go_sem, seval]; first | done | omega)) only [go_sem, seval]
    have ho1 := ho.chg0 ((Chg.refl [] w').alloc (.cells l[k].cells.toArray 39))
    refine OpX.call cell_Check_b rfl (Calls.ret (check_c _ l[k]) ?_)
    rintro v1 w1 ⟨rfl, hc2⟩
    have hh2 := hc2.keep hh1 (by simp)
    have hc3 := hc1.trans0 hc2
    have ho2 := ho1.chg0 hc2
    simp -dsimp (disch := first | omega | (simp only [go_sem, seval]; first | done | omega)) only [go_sem, seval]
    refine BrW.by (fun h2 => ?_) (fun h2 => ?_)
    · have hc4 := (Chg.refl [] w1).alloc (.cells #[.int .i32 63] 21)
      obtain ⟨a', cap', rfl, -⟩ := ho2.form
      simp -dsimp (disch := first | omega | (simp only [go_sem, seval]; first | done | omega)) only [go_sem, seval]
      refine app_x (l2 := [(63 : Int)]) (e' := some 21) ty24ap runeF_len runeF_ok (ho2.chg0 hc4) (Sx.built (c := [.int .i32 63]) (by simp -dsimp (disch := first | omega | (simp only [go_sem, seval]; first | done | omega)) only [go_sem, seval]) rfl) rfl (by simp; omega) (by omega) (by have := hc3.size; simp -dsimp (disch := first | omega | (simp only [go_sem, seval]; first | done | omega)) only [go_sem, seval]; omega) ?_
      intro v' w2 ho3 hc5 _
      simp -dsimp (disch := first | omega | (simp only [go_sem, seval]; first | done | omega)) only [go_sem, seval]
      refine hn (k + 1, v') _ ⟨by dsimp only; omega, ?_, own_chg (ho2.chg0 hc4) (hc3.trans0 hc4) hc5⟩ (by dsimp only; omega)
      dsimp only
      rw [hsh]
      have : shown [l[k]] = [63] := by simp at h2; simp [shown, h2]
      rw [this]; exact ho3
    · simp -dsimp (disch := first | omega | (simp only [go_sem, seval]; first | done | omega)) only [go_sem, seval, hh2]
      refine BrW.dec (fun h3 => ?_) (fun h3 => ?_)
      · have hc4 := (Chg.refl [] w1).alloc (.cells #[.int .i32 l[k].r] 21)
        obtain ⟨a', cap', rfl, -⟩ := ho2.form
        simp -dsimp (disch := first | omega | (simp only [go_sem, seval]; first | done | omega)) only [go_sem, seval, hh2]
        refine app_x (l2 := [l[k].r]) (e' := some 21) ty24ap runeF_len runeF_ok (ho2.chg0 hc4) (Sx.built (c := [.int .i32 l[k].r]) (by simp -dsimp (disch := first | omega | (simp only [go_sem, seval]; first | done | omega)) only [go_sem, seval]) rfl) rfl (by simp; omega) (by omega) (by have := hc3.size; simp -dsimp (disch := first | omega | (simp only [go_sem, seval]; first | done | omega)) only [go_sem, seval]; omega) ?_
        intro v' w2 ho3 hc5 _
        simp -dsimp (disch := first | omega | (simp only [go_sem, seval]; first | done | omega)) only [go_sem, seval]
        refine hn (k + 1, v') _ ⟨by dsimp only; omega, ?_, own_chg (ho2.chg0 hc4) (hc3.trans0 hc4) hc5⟩ (by dsimp only; omega)
        dsimp only
        rw [hsh]
        have : shown [l[k]] = [l[k].r] := by simp at h2; simp [shown, h2, Cel.tail, h3]
        rw [this]; exact ho3
      · simp -dsimp (disch := first | omega | (simp only [go_sem, seval]; first | done | omega)) only [go_sem, seval]
        refine hn (k + 1, v) _ ⟨by dsimp only; omega, ?_, hc3⟩ (by dsimp only; omega)
        dsimp only
        rw [hsh]
        have : shown [l[k]] = [] := by simp at h2; simp [shown, h2, Cel.tail, h3]
        rw [this, List.append_nil]; exact ho2
  · have hk' : k = l.length := by omega
    subst hk'
    rw [List.take_length] at ho
    obtain ⟨a', cap', hv, hcp, hs', -⟩ := ho.form
    have hlen : (shown l).length ≤ 100000 := Nat.le_trans (List.length_filterMap_le _ _) hl
    refine Loop1.st (fun s : List Int => .slice a' s.length cap') (fun s w2 => Sx w2 (some 21) runeF a' s ∧ trimE s = trimE (shown l) ∧ s.length ≤ (shown l).length ∧ Chg [] w w2) (fun s => s.length) (shown l) hv ⟨hs', rfl, Nat.le_refl _, hc⟩ ?_
    rintro next2 s w2 hn2 ⟨hs2, he, hsl, hc2⟩
    refine Join1.inl ?_
    simp -dsimp (disch := first | omega | (simp only [go_sem, seval]; first | done | omega)) only [go_sem, seval]
    refine BrW.dec (fun h2 => ?_) (fun h2 => ?_)
    · have hne : s ≠ [] := by rintro rfl; simp at h2
      have hlast : s[s.length - 1]? = some (s.getLast hne) := by rw [List.getLast_eq_getElem]; exact List.getElem?_eq_getElem _
      obtain ⟨b, o, rfl, hb, hcell⟩ := hs2.get1 (g := fun r => .int .i32 r) (fun _ => rfl) hlast
      have hi : ((s.length : Int) - 1).toNat = s.length - 1 := by omega
      simp -dsimp (disch := first | omega | (simp only [go_sem, seval]; first | done | omega)) only [go_sem, seval, hi, hcell]
      refine BrW.dec (fun h3 => ?_) (fun h3 => ?_)
      · simp -dsimp (disch := first | omega | (simp only [go_sem, seval]; first | done | omega)) only [go_sem, seval, hi]
        have hd : s.dropLast.length = s.length - 1 := by simp
        rw [← hd]
        refine hn2 s.dropLast _ ⟨?_, by rw [← he]; exact (trimE_step s hne h3).symm, by omega, hc2⟩ (by omega)
        have := hs2.sub runeF_len 0 (s.length - 1) (some ⟨b, o, none⟩) (.inr (.inr (by simp)))
        rw [List.dropLast_eq_take]
        simpa using this
      · rw [← he, trimE_done s hne h3] at h
        try simp -dsimp (disch := first | omega | (simp only [go_sem, seval]; first | done | omega)) only [go_sem, seval]
        refine OpX.call runes_Encode_b rfl (Calls.ret (encode_asc hs2 cap' (by omega) h) ?_)
        rintro v1 w3 ⟨rfl, hc3⟩
        refine hK _ _ ⟨?_, hc2.trans0 hc3⟩
        rw [← he, trimE_done s hne h3]
    · have hs0 : s = [] := List.eq_nil_of_length_eq_zero (by omega)
      subst hs0
      simp -dsimp (disch := first | omega | (simp only [go_sem, seval]; first | done | omega)) only [go_sem, seval]
      refine OpX.call runes_Encode_b rfl (Calls.ret (encode_asc hs2 cap' (by omega) (by simp)) ?_)
      rintro v1 w3 ⟨rfl, hc3⟩
      refine hK _ _ ⟨?_, hc2.trans0 hc3⟩
      rw [← he]; rfl
end Go.Proofs.Ytjfembffjjijaaa
namespace Go.Proofs.Ytjfembffjjijaaa
open Lyc Go
def strF (s : ByteArray) : List Value := [.string s]
theorem strF_len (s : ByteArray) : (strF s).length = 1 := rfl
theorem strF_ok (s : ByteArray) : okCells (strF s) = true := rfl
def rowText (l : List Cel) : ByteArray := bstr ((trimE (shown l)).map ascB)
theorem glines_c {w : World} {g : Gr} (hg : g.ok) {e : Option TypeId} {a : Option Addr} (hs : SxC w e a g.cs) (cap : Nat) (hcap : g.cs.length ≤ cap) (ha : ∀ y, y < g.h → ∀ r ∈ trimE (shown (g.row y)), asc r) : Calls Try.prog 22 #[g.val a cap] w
    (retK fun v w' => Ox w.heap.size w' 9 1 strF v ((List.range g.h).map fun y => rowText (g.row y)) ∧ Chg [] w w') := by
  obtain ⟨b, o, _, _, _, _, _, rfl, hb0, _⟩ := hs.at_ hg.ne
  have hb0' := lt_of_heap hb0
  clear hb0
  have h0 := hg.h0
  have h1 := hg.h1
  have h2 := hg.w1
  apply grid_Lines_link
  intro K hK
  unfold grid_Lines
  simp -dsimp (disch := first | omega | (simp only [go_sem, seval]; first | done | omega)) only [go_sem, seval, Gr.val]
  have hc0 := chg_a1 w (.cells #[.int .i64 g.w, .int .i64 g.h, .slice (some ⟨b, o, none⟩) g.cs.length cap] 48)
  have hg0 : (w.alloc (.cells #[.int .i64 g.w, .int .i64 g.h, .slice (some ⟨b, o, none⟩) g.cs.length cap] 48)).heap[w.heap.size]? = some (.cells #[.int .i64 g.w, .int .i64 g.h, .slice (some ⟨b, o, none⟩) g.cs.length cap] 48) := by simp -dsimp (disch := first | omega | (simp only [go_sem, seval]; first | done | omega)) only [go_sem, seval]
  generalize w.alloc (.cells #[.int .i64 g.w, .int .i64 g.h, .slice (some ⟨b, o, none⟩) g.cs.length cap] 48) = w0 at hc0 hg0 ⊢
  refine OpX.call grid_whole_b rfl (Calls.ret (whole_c hg (some ⟨b, o, none⟩) cap) ?_)
  rintro v w1 ⟨rfl, hc1⟩
  have hg1 := hc1.keep hg0 (by simp)
  have hlt1 := lt_of_heap hg1
  simp -dsimp (disch := first | omega | (simp only [go_sem, seval]; first | done | omega)) only [go_sem, seval, hg1]
  have hc2 := (hc0.trans0 hc1).alloc (.cells #[.slice none 0 0] 56)
  have hr2 : (w1.alloc (.cells #[.slice none 0 0] 56)).heap[w1.heap.size]? = some (.cells #[.slice none 0 0] 56) := by simp -dsimp (disch := first | omega | (simp only [go_sem, seval]; first | done | omega)) only [go_sem, seval]
  obtain ⟨t3, ht3⟩ : ∃ t3, t3 = w1.heap.size := ⟨_, rfl⟩
  rw [← ht3] at hr2 ⊢
  generalize w1.alloc (.cells #[.slice none 0 0] 56) = w2 at hc2 hr2 ⊢
  refine OpX.call grid_rows_b rfl (Calls.ret (rows_c _ g (some ⟨b, o, none⟩) cap 0 g.h) ?_)
  rintro v w3 ⟨rfl, hB, hc3, hsz⟩
  have hr3 := hc3.keep hr2 (by simp)
  have hc23 := hc2.trans0 hc3
  have hs3 := hs.chg0 hc23
  have hlt2 := lt_of_heap hr2
  have hlt3 := lt_of_heap hr3
  refine rng_rows hg hcap (by omega) (by omega) hB [t3] (by simp; omega)
    (fun y w4 => ∃ v, w4.heap[t3]? = some (.cells #[v] 56) ∧ (∃ a n c, v = .slice a n c) ∧ Ox (w3.heap.size + 2) w4 9 1 strF v ((List.range y).map fun y => rowText (g.row y)))
    (fun _ => False) ?_ ?_ ⟨_, hr3, ⟨_, _, _, rfl⟩, Ox.nil _ _ _ _ _⟩ ?_ ?_ ?_
  · rintro y w4 w5 ⟨v, h1, h2, h3⟩ hc
    exact ⟨v, hc.keep h1 (by simp; omega), h2, h3.low hc (by simp)⟩
  · intro w4 w5 h _
    exact h
  · rintro y kn kr kx w4 hc4 hsz42 ⟨v, hr4, ⟨a4, n4, c4, rfl⟩, ho4⟩ - - hy hkn _
    have hrl := hg.row_len hy
    have hs4 : SxC w4 e (some ⟨b, o + y * g.w * 4, none⟩) (g.row y) := by
      refine Sx.sub (hs3.chg hc4 ?_) Cel.len (y * g.w) g.w _ (.inr (.inr rfl))
      intro b' o' hb' _ hm'
      cases hb'
      simp at hm'
      have := hc0.size
      have := hc1.size
      omega
    have htx := text_asc (hs4.chg0 (Chg.refl _ _).drew) g.w (by omega) (ha y hy)
    rw [hrl] at htx
    have hsz4 := hc4.size
    have hlt4 := lt_of_heap hr4
    simp -dsimp (disch := first | omega | (simp only [go_sem, seval]; first | done | omega)) only [go_sem, seval, hr4, rowV]
    refine OpX.call cell_Text_b rfl (Calls.ret (htx) ?_)
    rintro v5 w5 ⟨rfl, hc5⟩
    have hr5 := hc5.keep (show w4.drew.heap[t3]? = _ from hr4) (by simp)
    have ho5 := (ho4.chg0 (Chg.refl _ _).drew).chg0 hc5
    have hlt5 := lt_of_heap hr5
    have hsz5 : w4.heap.size ≤ w5.heap.size := hc5.size
    have hlow : ∀ x ∈ (Value.slice a4 n4 c4).ownBlock.toList, w3.heap.size + 2 ≤ x := fun x hx => (ho5.lt x (by cases hv : (Value.slice a4 n4 c4).ownBlock <;> simp_all)).1
    simp -dsimp (disch := first | omega | (simp only [go_sem, seval]; first | done | omega)) only [go_sem, seval, hr5]
    refine app_x (f := strF) (l2 := [rowText (g.row y)]) ty56ap strF_len strF_ok (ho5.chg0 (chg_a1 _ _)) (Sx.built (c := strF (rowText (g.row y))) (by simp -dsimp (disch := first | omega | (simp only [go_sem, seval]; first | done | omega)) only [go_sem, seval]; rfl) (by simp)) rfl (by simp; omega) (by omega) (by simp -dsimp (disch := first | omega | (simp only [go_sem, seval]; first | done | omega)) only [go_sem, seval]; omega) ?_
    intro v' w' ho' hc' _
    have hca : Chg (Value.slice a4 n4 c4).ownBlock.toList w5 w' := ((Chg.refl _ w5).alloc _).trans hc' (fun x hx => .inl hx)
    have hr6 := hca.keep hr5 (fun hm => by have := hlow _ hm; omega)
    have hlt6 := lt_of_heap hr6
    obtain ⟨a', cap', rfl, _⟩ := ho'.form
    simp -dsimp (disch := first | omega | (simp only [go_sem, seval]; first | done | omega)) only [go_sem, seval, hr6]
    refine hkn _ (t3 :: (Value.slice a4 n4 c4).ownBlock.toList) (((hc5.low_drew.mono (by simp)).trans hca (fun x hx => .inl (by simp [hx]))).set _ _ (by simp)) (fun x hx => ?_) ⟨_, heap_set_same _ _ _ _ rfl hlt6, ⟨_, _, _, rfl⟩, ?_⟩
    · rcases List.mem_cons.1 hx with rfl | hx
      · exact .inl (by simp)
      · exact .inr (hlow x hx)
    · rw [List.range_succ, List.map_append]
      exact ho'.low ((Chg.refl [t3] _).set _ _ (by simp)) (by simp; omega)
  · rintro y w4 hc4 hd ⟨v, hr4, ⟨a4, n4, c4, rfl⟩, ho4⟩ - h5 h6
    have hyh : y = g.h := by omega
    subst hyh
    simp -dsimp (disch := first | omega | (simp only [go_sem, seval]; first | done | omega)) only [go_sem, seval, hr4]
    refine close_by hd ?_
    refine hK _ _ ⟨?_, ?_⟩
    · have := (ho4.base_le (base' := w.heap.size) (by have := hc23.size; omega))
      refine Ox.chg this (F := [w3.heap.size]) ((Chg.refl _ _).set _ _ (by simp)) ?_
      intro x hx
      have := ho4.lt x hx.symm
      simp; omega
    · have h9 := hc0.size
      have h10 := hc1.size
      have h11 := hc23.size
      exact (hc23.trans hc4 (by simp; omega)).set _ _ (.inr (by omega))
  · intro w4 _ _ h
    exact h.elim
end Go.Proofs.Ytjfembffjjijaaa
namespace Go.Proofs.Ytjfembffjjijaaa
open Lyc Go
theorem pfeed_c {w : World} {p : Nat} {P : PSt} (hb : w.heap[p]? = some P.obj) (ok : P.ok) {e : Option TypeId} {a : Option Addr} {l : List Int} (hs : Sx w e runeF a l) (hp : ∀ b o, a = some ⟨b, o, none⟩ → l ≠ [] → b ≠ p) (cap : Nat) (hl : l.length ≤ 1000000) (hr : ∀ x ∈ l, -2147483648 ≤ x ∧ x ≤ 2147483647) :
    Calls Try.prog 31 #[.pointer (some ⟨p, 0, none⟩), .slice a l.length cap] w
    (retK fun v w' => ∃ qs, Ox w.heap.size w' 35 13 Act'.cells v qs ∧ qs.length ≤ l.length ∧ (∀ a ∈ qs, a.fits) ∧ Chg [p] w w' ∧ (P.inn = 0 → (∀ x ∈ l, 32 ≤ x ∧ x < 127) → qs = l.map printA)) := by
  have hlp := lt_of_heap hb
  apply lyceumref07_Parser_Feed_link
  intro K hK
  unfold lyceumref07_Parser_Feed
  refine Loop2.st (fun s : Nat × Value × PSt × List Act' => s.2.1) (fun s => .int .i64 s.1) (fun s w' => s.1 ≤ l.length ∧ Ox w.heap.size w' 35 13 Act'.cells s.2.1 s.2.2.2 ∧ s.2.2.2.length ≤ s.1 ∧ (∀ a ∈ s.2.2.2, a.fits) ∧ w'.heap[p]? = some s.2.2.1.obj ∧ s.2.2.1.ok ∧ Chg [p] w w' ∧ (P.inn = 0 → (∀ x ∈ l, 32 ≤ x ∧ x < 127) → s.2.2.1 = P ∧ s.2.2.2 = (l.take s.1).map printA)) (fun s => l.length - s.1) (0, .slice none 0 0, P, []) rfl rfl ⟨by simp, Ox.nil _ _ _ _ _, by simp, by simp, hb, ok, Chg.refl _ _, fun _ _ => ⟨rfl, rfl⟩⟩ ?_
  rintro next ⟨k, v, Q, qs⟩ w' hn ⟨hk, ho, hla, hfa, hb', ok', hc, hpr⟩
  dsimp only at hk ho hla hfa hb' ok' hpr ⊢
  simp -dsimp (disch := first | omega | (simp only [go_sem, seval]; first | done | omega)) only [go_sem, seval]
  refine BrW.dec (fun h1 => ?_) (fun h1 => ?_)
  · have hk' : k < l.length := by omega
    obtain ⟨b, o, rfl, hbl, hcell⟩ := (hs.chg hc (fun b o ha hne => by simp; exact hp b o ha hne)).get1 (g := fun n => .int .i32 n) (fun _ => rfl) (List.getElem?_eq_getElem hk')
    have hrr := hr _ (List.getElem_mem hk')
    refine Join1.cut (fun u w2 => ∃ Q2 A qs2, Ox w.heap.size w2 35 13 Act'.cells u qs2 ∧ w2.heap[p]? = some (PSt.obj Q2) ∧ Q2.ok ∧ Chg [p] w w2 ∧ A.fits ∧ qs2 = (if A.kind ≠ 0 then qs ++ [A] else qs) ∧ (Q.inn = 0 → 32 ≤ l[k] → l[k] < 127 → Q2 = Q ∧ A = printA l[k])) ?_ ?_
    · simp -dsimp (disch := first | omega | (simp only [go_sem, seval]; first | done | omega)) only [go_sem, seval, hcell]
      refine OpX.call lyceumref07_Parser_Step_b rfl (Calls.ret (pstep_c hb' ok' l[k] hrr.1 hrr.2) ?_)
      rintro v1 w1 ⟨Q2, A, hb1, ok1, rfl, hfA, hc1, hp1⟩
      have ho1 := ho.low hc1 (by simp; omega)
      have hc01 := hc.trans hc1 (fun x hx => .inl hx)
      have hz := hc01.size
      (try simp -dsimp (disch := first | omega | (simp only [go_sem, seval]; first | done | omega)) only [go_sem, seval])
      obtain ⟨w2, hw2⟩ : ∃ w2, w2 = w1.alloc (.cells A.cells.toArray 35) := ⟨_, rfl⟩
      have hc2 : Chg [] w1 w2 := by rw [hw2]; exact chg_a1 _ _
      have hA2 : w2.heap[w1.heap.size]? = some (.cells A.cells.toArray 35) := by rw [hw2]; simp -dsimp (disch := first | omega | (simp only [go_sem, seval]; first | done | omega)) only [go_sem, seval]
      simp only [Act'.cells] at hw2
      rw [← hw2]
      clear hw2
      have hb2 := hc2.keep hb1 (by simp)
      have ho2 := ho1.chg0 hc2
      have hz2 := hc2.size
      refine BrW.dec (fun h2 => ?_) (fun h2 => ?_)
      · simp -dsimp (disch := first | omega | (simp only [go_sem, seval]; first | done | omega)) only [go_sem, seval, hA2]
        refine app_x (l2 := [A]) ty31ap Act'.len Act'.ok (ho2.chg0 (chg_a1 _ _)) (Sx.built (c := A.cells) (by simp -dsimp (disch := first | omega | (simp only [go_sem, seval]; first | done | omega)) only [go_sem, seval]; rfl) (by simp)) rfl (by simp; omega) (by omega) (by simp -dsimp (disch := first | omega | (simp only [go_sem, seval]; first | done | omega)) only [go_sem, seval]; omega) ?_
        intro v' w3 ho3 hc3 _
        have hca : Chg v.ownBlock.toList w2 w3 := ((Chg.refl _ w2).alloc _).trans hc3 (fun x hx => .inl hx)
        have hlow := ho2.own_ge
        exact ⟨Q2, A, _, ho3, hca.keep hb2 (fun hm => by have := hlow _ hm; omega), ok1, own_chg' ho2 (Nat.le_refl _) (hc01.trans0 hc2) hca, hfA, by rw [if_pos h2], hp1⟩
      · exact ⟨Q2, A, qs, ho2, hb2, ok1, hc01.trans0 hc2, hfA, by rw [if_neg h2], hp1⟩
    · rintro u w2 ⟨Q2, A, qs2, ho2, hb2, ok2, hc2, hfA, hq2, hp2⟩
      have e1 : (k : Int) + 1 = ((k + 1 : Nat) : Int) := by omega
      (try simp -dsimp (disch := first | omega | (simp only [go_sem, seval]; first | done | omega)) only [go_sem, seval, e1])
      refine hn (k + 1, u, Q2, qs2) _ ⟨by dsimp only; omega, ho2, ?_, ?_, hb2, ok2, hc2, ?_⟩ (by dsimp only; omega)
      · dsimp only; rw [hq2]; split <;> (try rw [List.length_append, List.length_singleton]) <;> omega
      · dsimp only
        rw [hq2]
        split
        · intro x hx
          rcases List.mem_append.1 hx with h | h
          · exact hfa _ h
          · simp at h; rw [h]; exact hfA
        · exact hfa
      · intro h0 hpl
        dsimp only
        obtain ⟨rfl, rfl⟩ := hpr h0 hpl
        have hlk := hpl _ (List.getElem_mem hk')
        obtain ⟨rfl, rfl⟩ := hp2 h0 hlk.1 hlk.2
        refine ⟨rfl, ?_⟩
        rw [hq2, if_pos (by show (1 : Int) ≠ 0; decide), take_next hk', List.map_append]
        rfl
  · have : k = l.length := by omega
    subst this
    refine hK _ _ ⟨qs, ho, hla, hfa, hc, fun h0 hpl => ?_⟩
    rw [(hpr h0 hpl).2, List.take_length]
theorem PSt.ok0 : (PSt.mk 0 zeroA false).ok := ⟨Int.le_refl 0, by show (0 : Int) ≤ 9; decide, zeros_ok, rfl⟩
theorem acts_c {w : World} {e : Option TypeId} {a : Option Addr} {l : List Int} (hs : Sx w e runeF a l) (cap : Nat) (hcap : l.length ≤ cap) (hr : ∀ x ∈ l, -2147483648 ≤ x ∧ x ≤ 2147483647) (most : Nat) (hm : most ≤ 1000000) :
    Calls Try.prog 12 #[.slice a l.length cap, .int .i64 most] w
    (retK fun v w' => ∃ qs, Ox w.heap.size w' 35 13 Act'.cells v qs ∧ qs.length ≤ most ∧ (∀ a ∈ qs, a.fits) ∧ Chg [] w w' ∧ (l.length ≤ most → (∀ x ∈ l, 32 ≤ x ∧ x < 127) → qs = l.map printA)) := by
  apply lyceumlaw09_acts_link
  intro K hK
  unfold lyceumlaw09_acts
  refine Join1.cut (fun v w' => v = .slice a (l.take most).length cap ∧ w' = w) ?_ ?_
  · simp -dsimp (disch := first | omega | (simp only [go_sem, seval]; first | done | omega)) only [go_sem, seval]
    refine BrW.dec (fun h1 => ?_) (fun h1 => ?_)
    · simp -dsimp (disch := first | omega | (simp only [go_sem, seval]; first | done | omega)) only [go_sem, seval]
      rw [List.length_take, Nat.min_eq_left (by omega)]
    · exact ⟨by rw [List.take_of_length_le (by omega)], rfl⟩
  rintro v w1 ⟨rfl, rfl⟩
  simp -dsimp (disch := first | omega | (simp only [go_sem, seval]; first | done | omega)) only [go_sem, seval]
  obtain ⟨w2, hw2⟩ : ∃ w2, w2 = w1.alloc (PSt.mk 0 zeroA false).obj := ⟨_, rfl⟩
  have hc2 : Chg [] w1 w2 := by rw [hw2]; exact chg_a1 _ _
  have hb2 : w2.heap[w1.heap.size]? = some (PSt.mk 0 zeroA false).obj := by rw [hw2]; simp -dsimp (disch := first | omega | (simp only [go_sem, seval]; first | done | omega)) only [go_sem, seval]
  have hz2 : w2.heap.size = w1.heap.size + 1 := by rw [hw2]; simp -dsimp (disch := first | omega | (simp only [go_sem, seval]; first | done | omega)) only [go_sem, seval]
  simp only [PSt.obj, zeroA] at hw2
  rw [← hw2]
  clear hw2
  have hs2 : Sx w2 e runeF a (l.take most) := by
    cases l with
    | nil => simp; exact Sx.nil _ _ _ _
    | cons x l =>
      obtain ⟨b, o, c, e', fr, pre, post, rfl, -⟩ := hs.at_ (by simp)
      have := (hs.chg0 hc2).sub runeF_len 0 most (some ⟨b, o, none⟩) (.inr (.inr (by simp)))
      simpa using this
  have hne : ∀ b o, a = some ⟨b, o, none⟩ → l.take most ≠ [] → b ≠ w1.heap.size := by
    intro b o ha hl
    have : l ≠ [] := by rintro rfl; simp at hl
    have := hs.lt this ha
    omega
  refine OpX.call lyceumref07_Parser_Feed_b rfl (Calls.ret (pfeed_c hb2 PSt.ok0 hs2 hne cap (by rw [List.length_take]; omega) (fun x hx => hr x (List.mem_of_mem_take hx))) ?_)
  rintro v w3 ⟨qs, ho, hlq, hf, hc3, hpr⟩
  refine hK _ _ ⟨qs, ho.base_le (by omega), by rw [List.length_take] at hlq; omega, hf, hc2.trans hc3 (by simp), fun hl hp => ?_⟩
  have := hpr rfl (fun x hx => hp x (List.mem_of_mem_take hx))
  rwa [List.take_of_length_le hl] at this
end Go.Proofs.Ytjfembffjjijaaa
namespace Go.Proofs.Ytjfembffjjijaaa
open Lyc Go
set_option maxRecDepth 100000
def lyceumref06_New (p0 p1 : Value) (K : Value → World → Prop) : World → Prop :=
  xA 48 fun t4 =>
  xC 38 [.const p0, .const p1] [3, 3] 4 fun t10 =>
  xN 4 t10 fun t12 =>
  xW t12
  (OpX Try.prog (.build 48 #[]) 48 fun t13 =>
  xS 48 t4 t13 <|
  xD 48 t4 fun t4_1 =>
  K t4_1) <|
  OpX Try.prog (.build 48 #[(0, .const p0), (1, .const p1)]) 48 fun t16 =>
  xA 48 fun t6 =>
  xS 48 t6 t16 <|
  Loop1 (.int .i64 0) fun t7 next1 =>
  xO .mul 3 p0 p1 fun t20 =>
  xO .lss 3 t7 t20 fun t21 =>
  xW t21
  (DrewW <|
  qF 48 t6 2 fun t24 =>
  qL 45 t24 fun t25 =>
  xC 39 [] [] 39 fun t26 =>
  xT (qZ 45 t24 t25) <|
  OpX Try.prog (.buildSlice 45 1 #[(0, .const t26)]) 45 fun t27 =>
  xT (qZ 45 t24 t25) <|
  OpX Try.prog (.call { callee := .builtin .append, args := #[.const t25, .const t27], argTypes := #[45, 45] }) 45 fun t28 =>
  qF 48 t6 2 fun t29 =>
  xS 45 t29 t28 <|
  xO .add 3 t7 (.int .i64 1) fun t23 =>
  next1 t23) <|
  xL 48 t6 fun t30 =>
  xS 48 t4 t30 <|
  xD 48 t4 fun t4_2 =>
  K t4_2
theorem lyceumref06_New_link (p0 p1 : Value) : Lk 19 #[p0, p1] (lyceumref06_New p0 p1) := lk [p0, p1] [(18, [7])] Try.func19 (by kernel_rfl) fun _ _ => by kernel_rfl
theorem lyceumref06_New_b : Bodied Try.prog 19 := bd Try.func19 (by kernel_rfl)
def lyceumref06_Same (p0 p1 : Value) (K : Value → World → Prop) : World → Prop :=
  xB 48 p0 fun t2 =>
  xB 48 p1 fun t3 =>
  xF 48 t2 2 fun t6 =>
  xL 45 t6 fun t7 =>
  xF 48 t3 2 fun t8 =>
  xL 45 t8 fun t9 =>
  xC 40 [.const t7, .const t9] [45, 45] 4 fun t10 =>
  Join1 (fun k1 =>
  xW t10
  (xF 48 t2 0 fun t13 =>
  xL 3 t13 fun t14 =>
  xF 48 t3 0 fun t15 =>
  xL 3 t15 fun t16 =>
  xO .eql 3 t14 t16 fun t17 =>
  xW t17
  (xF 48 t2 1 fun t20 =>
  xL 3 t20 fun t21 =>
  xF 48 t3 1 fun t22 =>
  xL 3 t22 fun t23 =>
  xO .eql 3 t21 t23 fun t24 =>
  k1 t24) <|
  k1 (.bool false)) <|
  k1 (.bool false)) fun t4 =>
  K t4
theorem lyceumref06_Same_link (p0 p1 : Value) : Lk 20 #[p0, p1] (lyceumref06_Same p0 p1) := lk [p0, p1] [(5, [4])] Try.func20 (by kernel_rfl) fun _ _ => by kernel_rfl
theorem lyceumref06_Same_b : Bodied Try.prog 20 := bd Try.func20 (by kernel_rfl)
def lyceumref06_size (p0 p1 : Value) (K : Value → World → Prop) : World → Prop :=
  Join1 (fun k1 =>
  xO .geq 3 p0 (.int .i64 1) fun t6 =>
  xW t6
  (xO .leq 3 p0 (.int .i64 200) fun t9 =>
  xW t9
  (xO .geq 3 p1 (.int .i64 1) fun t13 =>
  xW t13
  (xO .leq 3 p1 (.int .i64 60) fun t17 =>
  k1 t17) <|
  k1 (.bool false)) <|
  k1 (.bool false)) <|
  k1 (.bool false)) fun t4 =>
  K t4
theorem lyceumref06_size_link (p0 p1 : Value) : Lk 38 #[p0, p1] (lyceumref06_size p0 p1) := lk [p0, p1] [(3, [4])] Try.func38 (by kernel_rfl) fun _ _ => by kernel_rfl
theorem lyceumref06_size_b : Bodied Try.prog 38 := bd Try.func38 (by kernel_rfl)
end Go.Proofs.Ytjfembffjjijaaa
namespace Go.Proofs.Ytjfembffjjijaaa
open Lyc Go
theorem rem64 (x : BitVec 8) : (x.toNat : Int).tmod 64 = ((x &&& 63#8).toNat : Int) := by
  have h : ∀ x : BitVec 8, x.toNat % 64 = (x &&& 63#8).toNat := by decide +kernel
  rw [show (64 : Int) = ((64 : Nat) : Int) from rfl, ← Int.ofNat_tmod, h]
theorem low_lt (x : BitVec 8) : (x &&& 63#8).toNat < 64 := by
  have h : ∀ x : BitVec 8, (x &&& 63#8).toNat < 64 := by decide +kernel
  exact h x
theorem low64 (x : BitVec 8) : ((x &&& 63#8).toNat : Int) + 64 = (((x &&& 63#8) ||| 64#8).toNat : Int) := by
  have h : ∀ x : BitVec 8, (x &&& 63#8).toNat + 64 = ((x &&& 63#8) ||| 64#8).toNat := by decide +kernel
  have := h x; omega
theorem low128 (x : BitVec 8) : ((x &&& 63#8).toNat : Int) + 128 = (((x &&& 63#8) ||| 128#8).toNat : Int) := by
  have h : ∀ x : BitVec 8, (x &&& 63#8).toNat + 128 = ((x &&& 63#8) ||| 128#8).toNat := by decide +kernel
  have := h x; omega
theorem low_low (x : BitVec 8) : ((x &&& 63#8) ||| 64#8) &&& 63#8 = x &&& 63#8 := by
  have h : ∀ x : BitVec 8, ((x &&& 63#8) ||| 64#8) &&& 63#8 = x &&& 63#8 := by decide +kernel
  exact h x
theorem tail_low (x : BitVec 8) : (((x &&& 63#8) ||| 64#8) &&& ~~~64#8) ||| 128#8 = (x &&& 63#8) ||| 128#8 := by
  have h : ∀ x : BitVec 8, (((x &&& 63#8) ||| 64#8) &&& ~~~64#8) ||| 128#8 = (x &&& 63#8) ||| 128#8 := by decide +kernel
  exact h x
def w0 (r : Int) : Prop := (r < 0 ∨ 1114111 < r ∨ (55296 ≤ r ∧ r ≤ 57343)) ∨ r < 32 ∨ (127 ≤ r ∧ r ≤ 159) ∨ (768 ≤ r ∧ r ≤ 879) ∨ (8203 ≤ r ∧ r ≤ 8207) ∨ (65024 ≤ r ∧ r ≤ 65039)
def w2 (r : Int) : Prop := (4352 ≤ r ∧ r ≤ 4447) ∨ (11904 ≤ r ∧ r ≤ 12350) ∨ (12353 ≤ r ∧ r ≤ 42191) ∨ (44032 ≤ r ∧ r ≤ 55203) ∨ (63744 ≤ r ∧ r ≤ 64255) ∨ (65072 ≤ r ∧ r ≤ 65135) ∨ (65281 ≤ r ∧ r ≤ 65376) ∨ (65504 ≤ r ∧ r ≤ 65510) ∨ (127744 ≤ r ∧ r ≤ 128591) ∨ (129280 ≤ r ∧ r ≤ 129535) ∨ (131072 ≤ r ∧ r ≤ 262141)
instance (r : Int) : Decidable (w0 r) := by unfold w0; infer_instance
instance (r : Int) : Decidable (w2 r) := by unfold w2; infer_instance
theorem width_w0 {r : Int} (h : w0 r) : width r = 0 := by
  unfold w0 at h
  simp only [width, spans, spanW]
  repeat' split
  all_goals first | rfl | omega
theorem width_w2 {r : Int} (h0 : ¬ w0 r) (h : w2 r) : width r = 2 := by
  unfold w0 at h0
  unfold w2 at h
  simp only [width, spans, spanW]
  repeat' split
  all_goals first | rfl | omega
theorem width_w1 {r : Int} (h0 : ¬ w0 r) (h : ¬ w2 r) : width r = 1 := by
  unfold w0 at h0
  unfold w2 at h
  simp only [width, spans, spanW]
  repeat' split
  all_goals first | rfl | omega
theorem or_step {w w' : World} {p q : Prop} [Decidable p] [Decidable q] {k : Value → World → Prop} {M : Prop} (ht : p → k (.bool true) w') (hf : ¬ p → M) : BrW (.bool (decide p)) (k (.bool true) w') M () := BrW.dec ht hf
theorem rsame_c {w : World} {e e' : Option TypeId} {a a' : Option Addr} {l l' : List Cel} (hs : SxC w e a l) (hs' : SxC w e' a' l') (cap cap' : Nat) (hl : l.length ≤ 1000000000) : Calls Try.prog 40 #[.slice a l.length cap, .slice a' l'.length cap'] w (retK fun v w' => v = .bool (decide (l = l')) ∧ Chg [] w w') := by
  apply lyceumref05_Same_link
  intro K hK
  unfold lyceumref05_Same
  simp -dsimp (disch := first | omega | (simp only [go_sem, seval]; first | done | omega)) only [go_sem, seval]
  refine BrW.dec (fun h1 => ?_) (fun h1 => ?_)
  · refine hK _ _ ⟨?_, Chg.refl _ _⟩
    have : l ≠ l' := by rintro rfl; exact h1 rfl
    simp [this]
  · have hlen : l.length = l'.length := by omega
    refine Loop1.st (fun k : Nat => .int .i64 k) (fun k w' => Chg [] w w' ∧ k ≤ l.length ∧ l.take k = l'.take k) (fun k => l.length - k) 0 rfl ⟨Chg.refl _ _, by omega, rfl⟩ ?_
    rintro next k w' hn ⟨hc, hk, he⟩
    simp -dsimp (disch := first | omega | (simp only [go_sem, seval]; first | done | omega)) only [go_sem, seval]
    refine BrW.dec (fun h2 => ?_) (fun h2 => ?_)
    · have hk1 : k < l.length := by omega
      have hk2 : k < l'.length := by omega
      obtain ⟨b, o, rfl, hb, h3, -⟩ := SxC.cel (hs.chg0 hc) (List.getElem?_eq_getElem hk1)
      obtain ⟨b', o', rfl, hb', h3', -⟩ := SxC.cel (hs'.chg0 hc) (List.getElem?_eq_getElem hk2)
      simp -dsimp (disch := first | omega | (simp only [go_sem, seval]; first | done | omega)) only [go_sem, seval, h3, h3']
      refine BrW.dec (fun h4 => ?_) (fun h4 => ?_)
      · refine hK _ _ ⟨?_, hc.drew⟩
        have : l ≠ l' := by rintro rfl; exact h4 rfl
        simp [this]
      · simp -dsimp (disch := first | omega | (simp only [go_sem, seval]; first | done | omega)) only [go_sem, seval]
        refine hn (k + 1) _ ⟨hc.drew, by omega, ?_⟩ (by omega)
        rw [take_next hk1, take_next hk2, he]
        rw [Decidable.not_not.1 h4]
    · have hk1 : k = l.length := by omega
      subst hk1
      refine hK _ _ ⟨?_, hc⟩
      rw [List.take_length, hlen, List.take_length] at he
      simp [he]
end Go.Proofs.Ytjfembffjjijaaa
namespace Go.Proofs.Ytjfembffjjijaaa
open Lyc Go
theorem tail_eq (c : Cel) : (⟨0, c.fg, c.bg, (c.a &&& 63#8) ||| 128#8⟩ : Cel) = c.tailOf := by
  have h : ∀ a : BitVec 8, (a &&& 63#8) ||| 128#8 = (a &&& ~~~64#8) ||| 128#8 := by decide
  simp only [Cel.tailOf, h]
theorem near_eq (l : List Cel) (i : Nat) : near l i = (pairAt l i || (decide (0 ≤ (i : Int) - 1) && pairAt l ((i : Int) - 1).toNat)) := by
  cases i with
  | zero => simp [near]
  | succ i =>
    have e1 : (((i + 1 : Nat) : Int) - 1).toNat = i := by omega
    have e2 : decide (0 ≤ ((i + 1 : Nat) : Int) - 1) = true := by apply decide_eq_true; omega
    rw [e1, e2]; simp [near]
theorem single_eq (c : Cel) : c.single = (c.check && (!c.wide && !c.tail)) := by
  have h : ∀ a : BitVec 8, decide (a &&& 192#8 = 0#8) = (!decide (¬ a &&& 64#8 = 0#8) && !decide (¬ a &&& 128#8 = 0#8)) := by decide
  unfold Cel.single Cel.plain Cel.wide Cel.tail
  rw [h, Bool.and_comm]
theorem prev_eq (l : List Cel) (i : Nat) : (decide (0 ≤ (i : Int) - 1) && pairAt l ((i : Int) - 1).toNat) = prev l i := by
  cases i with
  | zero => simp [prev]
  | succ i =>
    have e1 : (((i + 1 : Nat) : Int) - 1).toNat = i := by omega
    have e2 : decide (0 ≤ ((i + 1 : Nat) : Int) - 1) = true := by apply decide_eq_true; omega
    rw [e1, e2]; simp [prev]
end Go.Proofs.Ytjfembffjjijaaa
namespace Go.Proofs.Ytjfembffjjijaaa
open Lyc Go
theorem rsize_c (w : World) (x y : Int) : Calls Try.prog 38 #[.int .i64 x, .int .i64 y] w (retK fun v w' => v = .bool (fitsG x y) ∧ w' = w) := by
  apply lyceumref06_size_link
  intro K hK
  unfold lyceumref06_size
  refine Join1.inl ?_
  simp -dsimp (disch := first | omega | (simp only [go_sem, seval]; first | done | omega)) only [go_sem, seval]
  refine BrW.dec (fun h1 => ?_) (fun h1 => ?_)
  · simp -dsimp (disch := first | omega | (simp only [go_sem, seval]; first | done | omega)) only [go_sem, seval]
    refine BrW.dec (fun h2 => ?_) (fun h2 => ?_)
    · simp -dsimp (disch := first | omega | (simp only [go_sem, seval]; first | done | omega)) only [go_sem, seval]
      refine BrW.dec (fun h3 => ?_) (fun h3 => ?_)
      · simp -dsimp (disch := first | omega | (simp only [go_sem, seval]; first | done | omega)) only [go_sem, seval]
        refine hK _ _ ⟨?_, rfl⟩
        simp [fitsG, h1, h2, h3]
      · refine hK _ _ ⟨?_, rfl⟩
        simp [fitsG, h3]
    · refine hK _ _ ⟨?_, rfl⟩
      simp [fitsG, h2]
  · refine hK _ _ ⟨?_, rfl⟩
    simp [fitsG, h1]
theorem rblank_c (w : World) : Calls Try.prog 39 #[] w (retK fun v w' => v = Cel.blank.val ∧ Chg [] w w') := by
  apply lyceumref05_Blank_link
  intro K hK
  unfold lyceumref05_Blank
  simp -dsimp (disch := first | omega | (simp only [go_sem, seval]; first | done | omega)) only [go_sem, seval]
  exact hK _ _ ⟨rfl, chg_a1 _ _⟩
theorem GAt.of_ox {base : Nat} {w : World} {v : Value} {W H : Nat} {cs : List Cel} (h : Ox base w 39 4 Cel.cells v cs) (hn : cs ≠ []) : GAt base w (.agg #[.int .i64 W, .int .i64 H, v]) ⟨W, H, cs⟩ := by
  obtain ⟨nb, cap, sp, rfl, h1, h2, h3⟩ := h.blk hn
  exact ⟨nb, cap, sp, rfl, h1, h2, h3⟩
theorem rnew_c (w : World) (x y : Nat) (x0 : 0 < x) (x1 : x ≤ 200) (y0 : 0 < y) (y1 : y ≤ 60) : Calls Try.prog 19 #[.int .i64 x, .int .i64 y] w
    (retK fun v w' => GAt w.heap.size w' v (Gr.plain x y Cel.blank) ∧ Chg [] w w') := by
  have hf : fitsG x y = true := by unfold fitsG; apply decide_eq_true; omega
  have hm := Nat.mul_le_mul x1 y1
  have hm0 := Nat.mul_pos x0 y0
  have e1 : (x : Int) * (y : Int) = ((x * y : Nat) : Int) := by simp
  apply lyceumref06_New_link
  intro K hK
  unfold lyceumref06_New
  simp -dsimp (disch := first | omega | (simp only [go_sem, seval]; first | done | omega)) only [go_sem, seval]
  refine OpX.call lyceumref06_size_b rfl (Calls.ret (rsize_c _ x y) ?_)
  rintro v w1 ⟨rfl, rfl⟩
  simp -dsimp (disch := first | omega | (simp only [go_sem, seval]; first | done | omega)) only [go_sem, seval, hf]
  refine Loop1.st (fun s : Nat × Value => .int .i64 s.1) (fun s w' => s.1 ≤ x * y ∧ Chg [] w w' ∧ w'.heap[w.heap.size]? = some (.cells #[.int .i64 0, .int .i64 0, .slice none 0 0] 48) ∧ w'.heap[w.heap.size + 1]? = some (.cells #[.int .i64 x, .int .i64 y, s.2] 48) ∧ (∃ a n c, s.2 = .slice a n c) ∧ Ox (w.heap.size + 2) w' 39 4 Cel.cells s.2 (List.replicate s.1 Cel.blank))
    (fun s => x * y - s.1) (0, .slice none 0 0) rfl ⟨by simp, ?_, ?_, ?_, ⟨_, _, _, rfl⟩, Ox.nil _ _ _ _ _⟩ ?_
  · exact chg_a2 _ _ _
  · simp -dsimp (disch := first | omega | (simp only [go_sem, seval]; first | done | omega)) only [go_sem, seval]
  · simp -dsimp (disch := first | omega | (simp only [go_sem, seval]; first | done | omega)) only [go_sem, seval]
  · rintro next ⟨k, v⟩ w2 hn ⟨hk, hc2, ho2, hb2, ⟨a, n, c, hv⟩, hox⟩
    dsimp only at hk hb2 hv hox ⊢
    subst hv
    have hlt2 := lt_of_heap hb2
    simp -dsimp (disch := first | omega | (simp only [go_sem, seval]; first | done | omega)) only [go_sem, seval, e1]
    refine BrW.dec (fun h1 => ?_) (fun h1 => ?_)
    · simp -dsimp (disch := first | omega | (simp only [go_sem, seval]; first | done | omega)) only [go_sem, seval, hb2]
      refine OpX.call lyceumref05_Blank_b rfl (Calls.ret (rblank_c _) ?_)
      rintro v3 w3 ⟨rfl, hc3⟩
      have hb3 := hc3.keep hb2 (by simp)
      have ho3 := hc3.keep ho2 (by simp)
      have hox3 := (hox.chg0 (Chg.refl _ _).drew).chg0 hc3
      have hlt3 := lt_of_heap hb3
      simp -dsimp (disch := first | omega | (simp only [go_sem, seval]; first | done | omega)) only [go_sem, seval, hb3]
      have hc23 := hc2.drew.trans0 hc3
      refine app_x (l2 := [Cel.blank]) ty45ap Cel.len Cel.ok (hox3.chg0 (chg_a1 _ _)) (Sx.built (c := Cel.blank.cells) (by simp -dsimp (disch := first | omega | (simp only [go_sem, seval]; first | done | omega)) only [go_sem, seval]; rfl) (by simp)) rfl (by simp; omega) (by omega) (by simp -dsimp (disch := first | omega | (simp only [go_sem, seval]; first | done | omega)) only [go_sem, seval]; omega) ?_
      intro v' w' ho' hc' _
      have hca : Chg (Value.slice a n c).ownBlock.toList w3 w' := ((Chg.refl _ w3).alloc _).trans hc' (fun x hx => .inl hx)
      have hlow : ∀ x ∈ (Value.slice a n c).ownBlock.toList, w.heap.size + 2 ≤ x := fun x hx => (hox3.lt x (by cases hv : (Value.slice a n c).ownBlock <;> simp_all)).1
      have hb4 := hca.keep hb3 (fun hm => by have := hlow _ hm; omega)
      have ho4 := hca.keep ho3 (fun hm => by have := hlow _ hm; omega)
      have hlt4 := lt_of_heap hb4
      obtain ⟨a', cap', rfl, _⟩ := ho'.form
      simp -dsimp (disch := first | omega | (simp only [go_sem, seval]; first | done | omega)) only [go_sem, seval, hb4]
      refine hn (k + 1, .slice a' ((List.replicate k Cel.blank ++ [Cel.blank])).length cap') _ ⟨by dsimp only; omega, (hc23.trans hca (fun x hx => .inr (by have := hlow _ hx; omega))).set _ _ (.inr (by omega)), ?_, ?_, ⟨_, _, _, rfl⟩, ?_⟩ (by dsimp only; omega)
      · rw [heap_set_other _ _ _ _ (by omega)]; exact ho4
      · dsimp only
        simp -dsimp (disch := first | omega | (simp only [go_sem, seval]; first | done | omega)) only [go_sem, seval]
      · dsimp only
        have : List.replicate (k + 1) Cel.blank = List.replicate k Cel.blank ++ [Cel.blank] := by rw [List.replicate_succ']
        rw [this]
        exact ho'.low ((Chg.refl [w.heap.size + 1] _).set _ _ (by simp)) (by simp)
    · have hke : k = x * y := by omega
      have hlo := lt_of_heap ho2
      simp -dsimp (disch := first | omega | (simp only [go_sem, seval]; first | done | omega)) only [go_sem, seval, hb2, ho2]
      refine hK _ _ ⟨?_, hc2.set _ _ (.inr (Nat.le_refl _))⟩
      rw [hke] at hox
      have hox' := hox.low ((Chg.refl [w.heap.size] w2).set w.heap.size (.cells #[.int .i64 x, .int .i64 y, .slice a n c] 48) (by simp)) (by simp)
      exact (GAt.of_ox (W := x) (H := y) hox' (by simp; omega)).le (by omega)
theorem div_h {g : Gr} (hg : g.ok) : (g.cs.length : Int).tdiv g.w = g.h := by
  rw [hg.len]
  have h0 := hg.w0
  have : ((g.w * g.h : Nat) : Int) = (g.w : Int) * g.h := by simp
  rw [this, Int.mul_tdiv_cancel_left _ (by omega)]
theorem row_sub {g : Gr} {y : Nat} {c : Cel} (h : c ∈ g.row y) : c ∈ g.cs := List.mem_of_mem_drop (List.mem_of_mem_take h)
end Go.Proofs.Ytjfembffjjijaaa
namespace Go.Proofs.Ytjfembffjjijaaa
open Lyc Go
def szN (n m : Int) : Nat := (1 + (n.tmod m + m).tmod m).toNat
theorem szN_eq {n m : Int} (h : 0 < m) : 1 + (n.tmod m + m).tmod m = (szN n m : Int) ∧ 0 < szN n m ∧ (szN n m : Int) ≤ m := by
  have h1 := Int.lt_tmod_of_pos n h
  have h2 := Int.tmod_nonneg m (show 0 ≤ n.tmod m + m by omega)
  have h3 := Int.tmod_lt_of_pos (n.tmod m + m) h
  unfold szN
  omega
theorem size09_c (w : World) (x y : Int) : Calls Try.prog 9 #[.agg #[.int .i64 x, .int .i64 y]] w
    (retK fun v w' => v = .tuple #[.int .i64 (szN x 14), .int .i64 (szN y 8)] ∧ Chg [] w w') := by
  obtain ⟨ex, -, -⟩ := szN_eq (n := x) (m := 14) (by omega)
  obtain ⟨ey, -, -⟩ := szN_eq (n := y) (m := 8) (by omega)
  have b1 := tmod_bd x 14 (by omega)
  have b2 := tmod_bd y 8 (by omega)
  have b3 := tmod_bd (x.tmod 14 + 14) 14 (by omega)
  have b4 := tmod_bd (y.tmod 8 + 8) 8 (by omega)
  apply lyceumlaw09_Size_size_link
  intro K hK
  unfold lyceumlaw09_Size_size
  simp -dsimp (disch := first | omega | (simp only [go_sem, seval]; first | done | omega)) only [go_sem, seval, ex, ey]
  exact hK _ _ ⟨rfl, (chg_a1 _ _).drew⟩
theorem SAt.act_off {w : World} {s : Nat} {M : Scm} (h : SAt w s M) {b0 : Nat} {v : Value} {qs : List Act'} (ho : Ox b0 w 35 13 Act'.cells v qs) : ∀ x ∈ s :: M.blk, x ∉ v.ownBlock.toList := by
  intro x hx hm
  have hm : v.ownBlock = some x := by simpa using hm
  simp only [Scm.blk, List.mem_cons] at hx
  rcases hx with rfl | rfl | rfl | hx
  · have hb := h.hb
    unfold Scm.obj at hb
    exact ho.off hb rfl hm
  · exact ho.off h.h0 rfl hm
  · exact ho.off h.h1 rfl hm
  · obtain ⟨hl, hg⟩ := h.own
    rcases hg with ⟨hv, -⟩ | ⟨g, cap, cur, hv, -, hg, -⟩
    · rw [hv] at hx; simp [Value.ownBlock] at hx
    · rw [hv] at hx; simp [Value.ownBlock] at hx
      subst hx
      exact ho.off hg rfl hm
theorem SAt.act_rows {w : World} {s : Nat} {M : Scm} (h : SAt w s M) {b0 : Nat} {v : Value} {qs : List Act'} (ho : Ox b0 w 35 13 Act'.cells v qs) : ∀ r ∈ M.rows, ∀ b o, r.a = some ⟨b, o, none⟩ → r.cs ≠ [] → b ∉ v.ownBlock.toList := by
  intro r hr b o ha hne hm
  have hm : v.ownBlock = some b := by simpa using hm
  obtain ⟨hl, hg⟩ := ho
  rcases hg with ⟨hv, -⟩ | ⟨g, cap, cur, hv, -, hg, -⟩
  · rw [hv] at hm; simp [Value.ownBlock] at hm
  · rw [hv] at hm; simp [Value.ownBlock] at hm
    subst hm
    exact (h.rows r hr).ne ha hne hg rfl rfl
theorem SAt.act {w w' : World} {s : Nat} {M : Scm} (h : SAt w s M) {b0 : Nat} {v : Value} {qs : List Act'} (ho : Ox b0 w 35 13 Act'.cells v qs) (hc : Chg v.ownBlock.toList w w') : SAt w' s M :=
  h.chg hc (h.act_off ho) (h.act_rows ho)
structure SNew (base : Nat) (w : World) (s : Nat) (W H : Nat) (M : Scm) : Prop where
  at_ : SAt w s M
  ok : M.S.ok
  w : M.S.w = W
  h : M.S.h = H
  gw : ∀ r ∈ M.S.gone, r.length = W
  lo : ∀ x ∈ s :: M.blk, base ≤ x
theorem SNew.did {base : Nat} {w w' : World} {s W H : Nat} {M : Scm} {T : Scr} (h : SNew base w s W H M) (hd : Did w s M w' T) (hn : Nx M.S T) (hb : base ≤ w.heap.size) : ∃ M', SNew base w' s W H M' ∧ M'.S = T ∧ Chg (s :: M.blk) w w' ∧ ∀ b ∈ M'.blk, b ∈ M.blk ∨ w.heap.size ≤ b := by
  obtain ⟨M', a, rfl, c, d⟩ := hd
  refine ⟨M', ⟨a, hn.ok, hn.w.trans h.w, hn.h.trans h.h, fun r hr => ?_, fun x hx => ?_⟩, rfl, c, d⟩
  · rw [← h.w, ← hn.w]; exact hn.gw (fun r hr => by rw [h.w]; exact h.gw r hr) r hr
  · rcases List.mem_cons.1 hx with e | hx
    · exact h.lo x (by rw [e]; simp)
    · rcases d x hx with hx | hx
      · exact h.lo x (by simp [hx])
      · omega
theorem SNew.chg0 {base : Nat} {w w' : World} {s W H : Nat} {M : Scm} (h : SNew base w s W H M) (hc : Chg [] w w') : SNew base w' s W H M := ⟨h.at_.chg0 hc, h.ok, h.w, h.h, h.gw, h.lo⟩
theorem snew2_c (w : World) (W H : Nat) (W0 : 0 < W) (W1 : W ≤ 200) (H0 : 0 < H) (H1 : H ≤ 60) : Calls Try.prog 10 #[.int .i64 W, .int .i64 H] w
    (retK fun v w' => ∃ s M, v = .pointer (some ⟨s, 0, none⟩) ∧ SNew w.heap.size w' s W H M ∧ M.S = Scr.new W H ∧ Chg [] w w') := by
  refine (snew_c w W H W0 W1 H0 H1).mono fun e w' h => ?_
  cases e with
  | returned v =>
    obtain ⟨s, M, rfl, hA, hS, hc, h1, h2⟩ := h
    refine ⟨s, M, rfl, ⟨hA, by rw [hS]; exact Scr.ok_new W0 W1 H0 H1, by rw [hS]; rfl, by rw [hS]; rfl, by rw [hS]; simp [Scr.new], fun x hx => ?_⟩, hS, hc⟩
    rcases List.mem_cons.1 hx with rfl | hx
    · exact h1
    · exact h2 x hx
  | _ => exact h.elim
def ex09 : Gr := ((Scr.new 4 2).acts ([97, 98, 99, 100, 101].map printA)).cur
theorem ex09_e : ex09 = ⟨4, 2, [⟨97, 0, 0, 0⟩, ⟨98, 0, 0, 0⟩, ⟨99, 0, 0, 0⟩, ⟨100, 0, 0, 0⟩, ⟨101, 0, 0, 0⟩, ⟨32, 0, 0, 0⟩, ⟨32, 0, 0, 0⟩, ⟨32, 0, 0, 0⟩]⟩ := by decide +kernel
theorem awake09_c (w : World) : Calls Try.prog 8 #[] w (retK fun v w' => v = .bool true ∧ Chg [] w w') := by
  apply lyceumlaw09_awake_link
  intro K hK
  unfold lyceumlaw09_awake
  refine OpX.call screen_New_b rfl (Calls.ret (snew_c w 4 2 (by omega) (by omega) (by omega) (by omega)) ?_)
  rintro v w1 ⟨s, M, rfl, hA, hS, hc1, hs1, hb1⟩
  simp -dsimp (disch := first | omega | (simp only [go_sem, seval]; first | done | omega)) only [go_sem, seval]
  refine OpX.gen fun w2 hw2 => ?_
  have hc2 : Chg [] w1 w2 := by rw [hw2]; exact chg_a1 _ _
  have hr2 : w2.heap[w1.heap.size]? = some (.cells #[.int .i32 97, .int .i32 98, .int .i32 99, .int .i32 100, .int .i32 101] 21) := by rw [hw2]; simp -dsimp (disch := first | omega | (simp only [go_sem, seval]; first | done | omega)) only [go_sem, seval]
  clear hw2
  have hsr : Sx w2 (some 21) runeF (some ⟨w1.heap.size, 0, none⟩) [97, 98, 99, 100, 101] := Sx.built (c := [.int .i32 97, .int .i32 98, .int .i32 99, .int .i32 100, .int .i32 101]) hr2 rfl
  refine OpX.call lyceumlaw09_acts_b rfl (Calls.ret (acts_c hsr 5 (by simp) (by decide) 9 (by omega)) ?_)
  rintro v w3 ⟨qs, ho, hlq, hf, hc3, hpr⟩
  have hq := hpr (by simp) (by decide)
  have hA3 := (hA.chg0 hc2).chg0 hc3
  obtain ⟨a, cap, rfl, hcap, hsq, -, hfm⟩ := ho.form
  have ok : M.S.ok := by rw [hS]; exact Scr.ok_new (by omega) (by omega) (by omega) (by omega)
  have hfar : ∀ b o, a = some ⟨b, o, none⟩ → qs ≠ [] → b ∉ s :: M.blk := fun b o ha _ hm => hA3.act_off ho b hm (by rw [ha]; simp [Value.ownBlock])
  refine OpX.call screen_Screen_Do_b rfl (Calls.ret (sdo_c hA3 ok hsq hfar cap (by omega) hf) ?_)
  rintro v w4 ⟨M4, hA4, hS4, hc4, hb4⟩
  have ok4 : M4.S.ok := by rw [hS4]; exact ok.acts.ok
  refine OpX.call screen_Screen_Grid_b rfl (Calls.ret (sgrid_c hA4 ok4) ?_)
  rintro v w5 ⟨⟨nb5, cap5, sp5, rfl, p1, p2, p3⟩, hc5⟩
  have e5 : M4.S.cur = ex09 := by rw [hS4, hS, hq]; rfl
  rw [e5, ex09_e] at p1 p3 ⊢
  have hok : (⟨4, 2, [⟨97, 0, 0, 0⟩, ⟨98, 0, 0, 0⟩, ⟨99, 0, 0, 0⟩, ⟨100, 0, 0, 0⟩, ⟨101, 0, 0, 0⟩, ⟨32, 0, 0, 0⟩, ⟨32, 0, 0, 0⟩, ⟨32, 0, 0, 0⟩]⟩ : Gr).ok := ⟨by decide, by decide, by decide, by decide, rfl⟩
  have h9 : ∀ y, y < 2 → ∀ r ∈ trimE (shown ((⟨4, 2, [⟨97, 0, 0, 0⟩, ⟨98, 0, 0, 0⟩, ⟨99, 0, 0, 0⟩, ⟨100, 0, 0, 0⟩, ⟨101, 0, 0, 0⟩, ⟨32, 0, 0, 0⟩, ⟨32, 0, 0, 0⟩, ⟨32, 0, 0, 0⟩]⟩ : Gr).row y)), asc r := by
    intro y hy
    have : y = 0 ∨ y = 1 := by omega
    rcases this with rfl | rfl
    · show ∀ r ∈ trimE (shown ((⟨4, 2, [⟨97, 0, 0, 0⟩, ⟨98, 0, 0, 0⟩, ⟨99, 0, 0, 0⟩, ⟨100, 0, 0, 0⟩, ⟨101, 0, 0, 0⟩, ⟨32, 0, 0, 0⟩, ⟨32, 0, 0, 0⟩, ⟨32, 0, 0, 0⟩]⟩ : Gr).row 0)), 0 ≤ r ∧ r ≤ 127
      decide +kernel
    · show ∀ r ∈ trimE (shown ((⟨4, 2, [⟨97, 0, 0, 0⟩, ⟨98, 0, 0, 0⟩, ⟨99, 0, 0, 0⟩, ⟨100, 0, 0, 0⟩, ⟨101, 0, 0, 0⟩, ⟨32, 0, 0, 0⟩, ⟨32, 0, 0, 0⟩, ⟨32, 0, 0, 0⟩]⟩ : Gr).row 1)), 0 ≤ r ∧ r ≤ 127
      decide +kernel
  have hs5 : SxC w5 (some 39) (some ⟨nb5, 0, none⟩) (⟨4, 2, [⟨97, 0, 0, 0⟩, ⟨98, 0, 0, 0⟩, ⟨99, 0, 0, 0⟩, ⟨100, 0, 0, 0⟩, ⟨101, 0, 0, 0⟩, ⟨32, 0, 0, 0⟩, ⟨32, 0, 0, 0⟩, ⟨32, 0, 0, 0⟩]⟩ : Gr).cs := ⟨fun _ => ⟨nb5, 0, _, _, _, [], sp5, rfl, p3, by simp [tagOk], by simp, rfl⟩⟩
  refine OpX.call grid_Lines_b rfl (Calls.ret (glines_c hok hs5 cap5 p1 h9) ?_)
  rintro v w7 ⟨ho7, hc7⟩
  have et : ((List.range (⟨4, 2, [⟨97, 0, 0, 0⟩, ⟨98, 0, 0, 0⟩, ⟨99, 0, 0, 0⟩, ⟨100, 0, 0, 0⟩, ⟨101, 0, 0, 0⟩, ⟨32, 0, 0, 0⟩, ⟨32, 0, 0, 0⟩, ⟨32, 0, 0, 0⟩]⟩ : Gr).h).map fun y => rowText ((⟨4, 2, [⟨97, 0, 0, 0⟩, ⟨98, 0, 0, 0⟩, ⟨99, 0, 0, 0⟩, ⟨100, 0, 0, 0⟩, ⟨101, 0, 0, 0⟩, ⟨32, 0, 0, 0⟩, ⟨32, 0, 0, 0⟩, ⟨32, 0, 0, 0⟩]⟩ : Gr).row y)) = [bstr [97, 98, 99, 100], bstr [101]] := by decide +kernel
  rw [et] at ho7
  obtain ⟨a7, cap7, rfl, -, hs7, -⟩ := ho7.form
  obtain ⟨b7, o7, rfl, hb7, hcell7⟩ := hs7.get1 (g := fun s => .string s) (fun _ => rfl) (i := 0) rfl
  obtain ⟨b7', o7', hbo, hb7', hcell8⟩ := hs7.get1 (g := fun s => .string s) (fun _ => rfl) (i := 1) rfl
  cases hbo
  have el : (({ data := #[97, 98, 99, 100] } : ByteArray)).toList = [97, 98, 99, 100] := bstr_toList [97, 98, 99, 100]
  have el2 : (({ data := #[101] } : ByteArray)).toList = [101] := bstr_toList [101]
  have hcell7' : cellAt w7.heap[b7]? o7 = some (.string (bstr [97, 98, 99, 100])) := hcell7
  have hcell8' : cellAt w7.heap[b7]? (o7 + 1) = some (.string (bstr [101])) := hcell8
  have hca : Chg [] w w7 := by
    refine ((((hc1.trans0 hc2).trans0 hc3).trans hc4 ?_).trans0 hc5).trans0 hc7
    intro x hx
    rcases List.mem_cons.1 hx with rfl | hx
    · exact .inr hs1
    · exact .inr (hb1 x hx)
  refine Join1.inl ?_
  simp -dsimp (disch := first | omega | (simp only [go_sem, seval]; first | done | omega)) only [go_sem, seval, hcell7', hcell8', el, el2]
  exact hK _ _ ⟨by simp, hca⟩
end Go.Proofs.Ytjfembffjjijaaa
namespace Go.Proofs.Ytjfembffjjijaaa
open Lyc Go Go.Joins Go.ChangeShapes Go.WideShapes Go.ChangeAt Go.RowKit Go.Deep
set_option maxRecDepth 100000
theorem own : ownKnob Try.prog.godebug = none := by kernel_rfl
theorem laidOut : laidOutB Try.prog = true := by kernel_rfl
theorem act_each {H : Type} {enc : TypeId × Value → H} {w : World} {base : Nat} {spare : Nat → Bool} {held : Bool} (n : Nat) (cs : List Value) (y : DataW H × List MemPlace) (h : DataW.trod enc Try.prog w base spare held n 35 cs = some y) : ∃ a : Act', cs = a.cells ∧ a.fits := by
  have hlen : cs.length = 13 := by
    obtain ⟨-, -, -, -, hl, -⟩ := DataW.trod_struct Try.underlying35 h
    rw [hl]; kernel_rfl
  obtain ⟨_, _, f0⟩ := field_of Try.underlying35 h 0 _ rfl (ft := 3) (off := 0) (sz := 1) rfl rfl (by kernel_rfl)
  obtain ⟨_, _, f1⟩ := field_of Try.underlying35 h 1 _ rfl (ft := 21) (off := 1) (sz := 1) rfl rfl (by kernel_rfl)
  obtain ⟨_, _, f2⟩ := field_of Try.underlying35 h 2 _ rfl (ft := 5) (off := 2) (sz := 1) rfl rfl (by kernel_rfl)
  obtain ⟨_, _, f3⟩ := field_of Try.underlying35 h 3 _ rfl (ft := 5) (off := 3) (sz := 1) rfl rfl (by kernel_rfl)
  obtain ⟨_, _, f4⟩ := field_of Try.underlying35 h 4 _ rfl (ft := 3) (off := 4) (sz := 1) rfl rfl (by kernel_rfl)
  obtain ⟨_, _, f5⟩ := field_of Try.underlying35 h 5 _ rfl (ft := 33) (off := 5) (sz := 8) rfl rfl (by kernel_rfl)
  obtain ⟨k0, e0, -, -⟩ := trod_int_in Try.underlying3 f0
  obtain ⟨k1, e1, b1, c1⟩ := trod_int_in Try.underlying21 f1
  obtain ⟨k2, e2, -, -⟩ := trod_int_in Try.underlying5 f2
  obtain ⟨k3, e3, -, -⟩ := trod_int_in Try.underlying5 f3
  obtain ⟨k4, e4, b4, c4⟩ := trod_int_in Try.underlying3 f4
  obtain ⟨l, e5, hl, hb⟩ := trod_arr (fun n : Int => Value.int .i64 n) (fun n => IntKind.min .i64 ≤ n ∧ n ≤ IntKind.max .i64) Try.underlying33 (by kernel_rfl) (by kernel_rfl)
    (fun n cs y h => let ⟨k, h1, h2, h3⟩ := trod_int_in Try.underlying3 h; ⟨k, h1, h2, h3⟩) f5
  match l, hl with
  | [n0, n1, n2, n3, n4, n5, n6, n7], _ =>
    refine ⟨⟨k0, k1, k2, k3, k4, n0, n1, n2, n3, n4, n5, n6, n7⟩, ?_, ⟨b1, c1, ⟨b4, c4⟩, fun x hx => hb x hx⟩⟩
    have s := drop_step e0
    rw [List.drop_zero, drop_step e1, drop_step e2, drop_step e3, drop_step e4, drop_step e5, List.drop_eq_nil_of_le (by omega)] at s
    rw [s]
    rfl
theorem open_act {H : Type} {enc : TypeId × Value → H} {w : World} {base b0 : Nat} {spare : Nat → Bool} {held : Bool} {v : Value} {d : DataW H} {p : List MemPlace} (hv : Value.okWide Try.prog w .any b0 35 v) (h : DataW.Trod enc Try.prog w base spare held 35 v d p) : ∃ a : Act', v = a.val ∧ a.fits := by
  obtain ⟨fuel, h⟩ := h
  simp only [Value.okWide, Try.underlying35] at hv
  obtain ⟨cs, rfl, hsz, -⟩ := hv
  obtain ⟨a, ha, hf⟩ := act_each _ _ _ h
  refine ⟨a, ?_, hf⟩
  obtain ⟨l⟩ := cs
  simp only [Value.cells] at ha
  rw [show l = a.cells from ha]
  rfl
theorem open_size {H : Type} {enc : TypeId × Value → H} {w : World} {base b0 : Nat} {spare : Nat → Bool} {held : Bool} {v : Value} {d : DataW H} {p : List MemPlace} (hv : Value.okWide Try.prog w .any b0 23 v) (h : DataW.Trod enc Try.prog w base spare held 23 v d p) : ∃ x y : Int, v = .agg #[.int .i64 x, .int .i64 y] := by
  obtain ⟨x0, x1, y0, y1, n, rfl, -, -, t0, t1⟩ := open_agg2 Try.underlying23 (by kernel_rfl) (by kernel_rfl) hv h
  obtain ⟨k0, e0, -, -⟩ := DataW.trod_int Try.underlying3 t0
  obtain ⟨k1, e1, -, -⟩ := DataW.trod_int Try.underlying3 t1
  cases e0; cases e1
  exact ⟨k0, k1, rfl⟩
theorem open_runes {H : Type} {enc : TypeId × Value → H} {w : World} {base b0 : Nat} {spare : Nat → Bool} {held : Bool} {v : Value} {d : DataW H} {p : List MemPlace} (hv : Value.okWide Try.prog w .any b0 24 v) (h : DataW.Trod enc Try.prog w base spare held 24 v d p) :
    ∃ (a : Option Addr) (l : List Int) (cap : Nat), v = .slice a l.length cap ∧ Sx w none runeF a l ∧ l.length ≤ cap ∧ ∀ x ∈ l, -2147483648 ≤ x ∧ x ≤ 2147483647 := by
  obtain ⟨a, l, cap, rfl, hs, hcap, -, hr⟩ := open_things runeF (fun n => IntKind.min .i32 ≤ n ∧ n ≤ IntKind.max .i32) Try.underlying24 (by kernel_rfl) (by omega) runeF_len (fun n cs y h => let ⟨k, h1, h2, h3⟩ := trod_int_in Try.underlying21 h; ⟨k, h1, h2, h3⟩) hv h
  exact ⟨a, l, cap, rfl, hs, hcap, hr⟩
end Go.Proofs.Ytjfembffjjijaaa
namespace Lyc
open Go
def Scr.rs0 (S : Scr) (w h : Nat) : Scr := { S with w := w, h := h, top := 0, fin := h }
def Scr.rsG (S : Scr) (a : Bool) : Scr :=
  bif a then { S with g1 := S.g1.resize S.w S.h Cel.blank, s1 := ⟨clampN S.s1.x S.w, clampN S.s1.y S.h, S.s1.pen⟩ }
  else { S with g0 := S.g0.resize S.w S.h Cel.blank, s0 := ⟨clampN S.s0.x S.w, clampN S.s0.y S.h, S.s0.pen⟩ }
def Scr.stage (S : Scr) (w h : Nat) : Nat → Scr
  | 0 => S.rs0 w h
  | 1 => (S.rs0 w h).rsG false
  | _ => ((S.rs0 w h).rsG false).rsG true
end Lyc
namespace Go.Proofs.Ytjfembffjjijaaa
open Lyc Go
theorem sdo_nil (w : World) (v : Value) : Calls Try.prog 11 #[.pointer none, v] w (retK fun _ w' => Chg [] w w') := by
  apply screen_Screen_Do_link
  intro K hK
  unfold screen_Screen_Do
  refine OpX.call screen_Screen_none_b rfl (Calls.ret (snone_nil w) ?_)
  rintro v w1 ⟨rfl, rfl⟩
  simp -dsimp (disch := first | omega | (simp only [go_sem, seval]; first | done | omega)) only [go_sem, seval]
  exact hK _ _ (Chg.refl _ _)
theorem sgrid_nil (w : World) : Calls Try.prog 17 #[.pointer none] w (retK fun v w' => v = noGrid ∧ Chg [] w w') := by
  apply screen_Screen_Grid_link
  intro K hK
  unfold screen_Screen_Grid
  simp -dsimp (disch := first | omega | (simp only [go_sem, seval]; first | done | omega)) only [go_sem, seval]
  refine OpX.call screen_Screen_none_b rfl (Calls.ret (snone_nil _) ?_)
  rintro v w1 ⟨rfl, rfl⟩
  simp -dsimp (disch := first | omega | (simp only [go_sem, seval]; first | done | omega)) only [go_sem, seval]
  exact hK _ _ ⟨rfl, by (repeat (first | exact Chg.refl _ _ | apply Chg.drew | apply Chg.alloc | (refine Chg.set ?_ _ _ (by first | (left; simp; done) | (right; omega)))))⟩
theorem salt_nil (w : World) : Calls Try.prog 21 #[.pointer none] w (retK fun v w' => v = .bool false ∧ Chg [] w w') := by
  apply screen_Screen_Alt_link
  intro K hK
  unfold screen_Screen_Alt
  refine Join1.inl ?_
  refine OpX.call screen_Screen_none_b rfl (Calls.ret (snone_nil w) ?_)
  rintro v w1 ⟨rfl, rfl⟩
  simp -dsimp (disch := first | omega | (simp only [go_sem, seval]; first | done | omega)) only [go_sem, seval]
  exact hK _ _ ⟨rfl, Chg.refl _ _⟩
theorem sresize_nil (w : World) (x y : Value) : Calls Try.prog 18 #[.pointer none, x, y] w (retK fun v w' => v = .bool false ∧ Chg [] w w') := by
  apply screen_Screen_Resize_link
  intro K hK
  unfold screen_Screen_Resize
  refine Join1.cut (fun v w' => v = .bool true ∧ w' = w) ?_ ?_
  · refine OpX.call screen_Screen_none_b rfl (Calls.ret (snone_nil w) ?_)
    rintro v w1 ⟨rfl, rfl⟩
    simp -dsimp (disch := first | omega | (simp only [go_sem, seval]; first | done | omega)) only [go_sem, seval]
  rintro v w1 ⟨rfl, rfl⟩
  simp -dsimp (disch := first | omega | (simp only [go_sem, seval]; first | done | omega)) only [go_sem, seval]
  exact hK _ _ ⟨rfl, Chg.refl _ _⟩
theorem sgone_nil (w : World) : Calls Try.prog 15 #[.pointer none] w (retK fun v w' => v = .slice none 0 0 ∧ Chg [] w w') := by
  apply screen_Screen_Gone_link
  intro K hK
  unfold screen_Screen_Gone
  refine OpX.call screen_Screen_none_b rfl (Calls.ret (snone_nil w) ?_)
  rintro v w1 ⟨rfl, rfl⟩
  simp -dsimp (disch := first | omega | (simp only [go_sem, seval]; first | done | omega)) only [go_sem, seval]
  exact hK _ _ ⟨rfl, Chg.refl _ _⟩
theorem spen_nil (w : World) : Calls Try.prog 14 #[.pointer none] w (retK fun v w' => v = Cel.none.val ∧ Chg [] w w') := by
  apply screen_Screen_Pen_link
  intro K hK
  unfold screen_Screen_Pen
  simp -dsimp (disch := first | omega | (simp only [go_sem, seval]; first | done | omega)) only [go_sem, seval]
  refine OpX.call screen_Screen_none_b rfl (Calls.ret (snone_nil _) ?_)
  rintro v w1 ⟨rfl, rfl⟩
  simp -dsimp (disch := first | omega | (simp only [go_sem, seval]; first | done | omega)) only [go_sem, seval]
  exact hK _ _ ⟨rfl, by (repeat (first | exact Chg.refl _ _ | apply Chg.drew | apply Chg.alloc | (refine Chg.set ?_ _ _ (by first | (left; simp; done) | (right; omega)))))⟩
theorem sresize_bad {w : World} {s : Nat} {M : Scm} (h : SAt w s M) (hw : 0 < M.S.w) (x y : Int) (hf : fitsG x y = false) : Calls Try.prog 18 #[.pointer (some ⟨s, 0, none⟩), .int .i64 x, .int .i64 y] w (retK fun v w' => v = .bool false ∧ Chg [] w w') := by
  apply screen_Screen_Resize_link
  intro K hK
  unfold screen_Screen_Resize
  refine Join1.cut (fun v w' => v = .bool true ∧ Chg [] w w') ?_ ?_
  · refine OpX.call screen_Screen_none_b rfl (Calls.ret (snone_c h hw) ?_)
    rintro v w1 ⟨rfl, rfl⟩
    simp -dsimp (disch := first | omega | (simp only [go_sem, seval]; first | done | omega)) only [go_sem, seval]
    refine OpX.call grid_New_b rfl (Calls.ret (gnew_bad w x y hf) ?_)
    rintro v w1 ⟨rfl, hc1⟩
    simp -dsimp (disch := first | omega | (simp only [go_sem, seval]; first | done | omega)) only [go_sem, seval, noGrid]
    refine OpX.call grid_Check_b rfl (Calls.ret (gcheck_bad _) ?_)
    rintro v w2 ⟨rfl, hc2⟩
    simp -dsimp (disch := first | omega | (simp only [go_sem, seval]; first | done | omega)) only [go_sem, seval]
    exact hc1.trans0 hc2
  rintro v w1 ⟨rfl, hc⟩
  simp -dsimp (disch := first | omega | (simp only [go_sem, seval]; first | done | omega)) only [go_sem, seval]
  exact hK _ _ ⟨rfl, hc⟩
def Scm.setG (M : Scm) (a : Bool) (G : Gr) (b c : Nat) (p : List Value) : Scm :=
  bif a then { M with S := { M.S with g1 := G }, b1 := b, c1 := c, p1 := p } else { M with S := { M.S with g0 := G }, b0 := b, c0 := c, p0 := p }
theorem SAt.newG {w w' : World} {s : Nat} {M : Scm} (a : Bool) (h : SAt w s M) (hc : Chg [] w w') {G : Gr} {nb cap : Nat} {sp : List Value} (k : G.cs.length ≤ cap) (hn : w.heap.size ≤ nb) (hb : w'.heap[nb]? = some (.cells (G.cs.flatMap Cel.cells ++ sp).toArray 39)) :
    SAt (setBlk w' s (M.setG a G nb cap sp).obj) s (M.setG a G nb cap sp) ∧ Chg (s :: M.blk) w (setBlk w' s (M.setG a G nb cap sp).obj) ∧ ∀ b ∈ (M.setG a G nb cap sp).blk, b ∈ M.blk ∨ w.heap.size ≤ b := by
  have h' := h.chg0 hc
  have hs := h'.s_ne
  have hl := h.lt
  have hls := lt_of_heap h'.hb
  have hlt0 := hl M.b0 (by simp [Scm.blk])
  have hlt1 := hl M.b1 (by simp [Scm.blk])
  have hlts := hl s (by simp)
  have hc2 : Chg [s] w' (setBlk w' s (M.setG a G nb cap sp).obj) := (Chg.refl _ _).set _ _ (by simp)
  have hown := h'.own.chg hc2 fun b hb hm => by
    simp at hm; subst hm
    exact h'.s_own (by simp [← hb])
  have hrows : ∀ r ∈ M.rows, SxC (setBlk w' s (M.setG a G nb cap sp).obj) (some 39) r.a r.cs := fun r hr => (h'.rows r hr).chg hc2 fun b o ha hne => by simp; exact (h'.row_ne r hr b o ha hne).1
  have hself : (setBlk w' s (M.setG a G nb cap sp).obj).heap[s]? = some (M.setG a G nb cap sp).obj := heap_set_same _ _ _ _ rfl hls
  have hk0 := hc2.keep h'.h0 (by simp; omega)
  have hk1 := hc2.keep h'.h1 (by simp; omega)
  have hkn := hc2.keep hb (by simp; omega)
  have hch : Chg (s :: M.blk) w (setBlk w' s (M.setG a G nb cap sp).obj) := (hc.mono (by simp)).trans hc2 (by simp)
  clear hc2
  generalize setBlk w' s (M.setG a G nb cap sp).obj = w2 at hself hk0 hk1 hkn hown hrows hch ⊢
  refine ⟨?_, hch, ?_⟩
  · cases a with
    | true => exact ⟨hself, hk0, h'.k0, hkn, k, by show M.b0 ≠ nb; omega, h'.tl, hown, hrows, fun r hr b o hx hne => ⟨(h'.far r hr b o hx hne).1, by have := h.row_lt r hr b o hx hne; show b ≠ nb; omega⟩, h'.gone⟩
    | false => exact ⟨hself, hkn, k, hk1, h'.k1, by show nb ≠ M.b1; omega, h'.tl, hown, hrows, fun r hr b o hx hne => ⟨by have := h.row_lt r hr b o hx hne; show b ≠ nb; omega, (h'.far r hr b o hx hne).2⟩, h'.gone⟩
  · intro b hbb
    cases a <;> simp [Scm.setG, Scm.blk] at hbb ⊢ <;> rcases hbb with rfl | rfl | hbb <;> first | (right; omega) | simp_all
theorem SAt.g0_s {w : World} {s : Nat} {M : Scm} (h : SAt w s M) : SxC w (some 39) (some ⟨M.b0, 0, none⟩) M.S.g0.cs := ⟨fun _ => ⟨M.b0, 0, _, _, _, [], M.p0, rfl, h.h0, by simp [tagOk], by simp, rfl⟩⟩
theorem SAt.g1_s {w : World} {s : Nat} {M : Scm} (h : SAt w s M) : SxC w (some 39) (some ⟨M.b1, 0, none⟩) M.S.g1.cs := ⟨fun _ => ⟨M.b1, 0, _, _, _, [], M.p1, rfl, h.h1, by simp [tagOk], by simp, rfl⟩⟩
theorem smove2_c {w : World} {s : Nat} {M : Scm} (h : SAt w s M) (w0 : 0 < M.S.w) (h0 : 0 < M.S.h) (w1 : M.S.w ≤ 200) (h1' : M.S.h ≤ 60) (x y : Int) : Calls Try.prog 37 #[.pointer (some ⟨s, 0, none⟩), .int .i64 x, .int .i64 y] w
    (retK fun _ w' => Did w s M w' (M.S.move x y)) := by
  have tl := h.tl
  apply screen_Screen_move_link
  intro K hK
  unfold screen_Screen_move
  refine OpX.call screen_Screen_within_b rfl (Calls.ret (swithin_c h w1 h1' x y) ?_)
  rintro v w1 ⟨rfl, hc1⟩
  have h1 := h.chg0 hc1
  have hb := h1.hb
  have hl := lt_of_heap hb
  have e1 : min (max x 0) ((M.S.w : Int) - 1) = ((clampN x M.S.w : Nat) : Int) := by unfold clampN; omega
  have e2 : min (max y 0) ((M.S.h : Int) - 1) = ((clampN y M.S.h : Nat) : Int) := by unfold clampN; omega
  rw [e1, e2]
  simp -dsimp (disch := first | omega | (simp only [go_sem, seval]; first | done | omega)) only [go_sem, seval, hb]
  exact hK _ _ (Did.set h1 (hc1.mono (by simp)) (fun b hb => .inl hb) _ rfl rfl tl rfl)
theorem sresize_c {w : World} {s : Nat} {M : Scm} (h : SAt w s M) (ok : M.S.ok) (W H : Nat) (W0 : 0 < W) (W1 : W ≤ 200) (H0 : 0 < H) (H1 : H ≤ 60) : Calls Try.prog 18 #[.pointer (some ⟨s, 0, none⟩), .int .i64 W, .int .i64 H] w
    (retK fun v w' => v = .bool true ∧ Did w s M w' (M.S.resize W H)) := by
  have hf : fitsG W H = true := by unfold fitsG; simp; omega
  have hb := h.hb
  have hls := lt_of_heap hb
  have tl := h.tl
  apply screen_Screen_Resize_link
  intro K hK
  unfold screen_Screen_Resize
  refine Join1.cut (fun v w' => v = .bool false ∧ Chg [] w w') ?_ ?_
  · refine OpX.call screen_Screen_none_b rfl (Calls.ret (snone_c h ok.w0) ?_)
    rintro v w1 ⟨rfl, rfl⟩
    simp -dsimp (disch := first | omega | (simp only [go_sem, seval]; first | done | omega)) only [go_sem, seval]
    refine OpX.call grid_New_b rfl (Calls.ret (gnew_c w W H W0 W1 H0 H1) ?_)
    rintro v w1 ⟨hg, hc1⟩
    obtain ⟨nb, cap, rfl, q1, q2, q3, q4⟩ := hg.sx
    simp -dsimp (disch := first | omega | (simp only [go_sem, seval]; first | done | omega)) only [go_sem, seval, Gr.val]
    have hfit := Gr.fit_plain W0 W1 H0 H1
    refine OpX.call grid_Check_b rfl (Calls.ret (gcheck_c hfit.ok q4 cap q1) ?_)
    rintro v w3 ⟨rfl, hc3⟩
    simp -dsimp (disch := first | omega | (simp only [go_sem, seval]; first | done | omega)) only [go_sem, seval, hfit.r]
    exact hc1.trans0 hc3
  rintro v w1 ⟨rfl, hc1⟩
  have h1 := h.chg0 hc1
  have hb1 := h1.hb
  have hl1 := lt_of_heap hb1
  simp -dsimp (disch := first | omega | (simp only [go_sem, seval]; first | done | omega)) only [go_sem, seval, hb1]
  have hA0 := h1.set (M.S.rs0 W H) rfl rfl tl rfl
  have hc0 : Chg (s :: M.blk) w (setBlk w1 s ({ M with S := M.S.rs0 W H } : Scm).obj) := (hc1.mono (by simp)).set _ _ (.inl (by simp))
  refine Loop1.st (fun q : Nat × Scm => .int .i64 (q.1 : Int)) (fun q w' => q.1 ≤ 2 ∧ SAt w' s q.2 ∧ Chg (s :: M.blk) w w' ∧ (∀ b ∈ q.2.blk, b ∈ M.blk ∨ w.heap.size ≤ b) ∧ q.2.S = M.S.stage W H q.1) (fun q => 2 - q.1) (0, { M with S := M.S.rs0 W H }) rfl ⟨by simp, hA0, hc0, fun b hb => .inl hb, rfl⟩ ?_
  rintro next ⟨i, N⟩ w2 hnx ⟨hi, hN, hc, hbl, hS⟩
  dsimp only at hi hN hc hbl hS ⊢
  by_cases hi2 : i < 2
  · rcases (show i = 0 ∨ i = 1 by omega) with hi0 | hi0
    · have hi0 : i = 0 := by omega
      subst hi0
      dsimp only [Scr.stage] at hS
      have hN2 := hN.chg0 (show Chg [] w2 w2.drew from (Chg.refl _ _).drew)
      have hb2 := hN.hb
      have hw : N.S.w = W := by rw [hS]; rfl
      have hh : N.S.h = H := by rw [hS]; rfl
      have hfit : N.S.g0.fit M.S.w M.S.h := by rw [hS]; exact ok.g0
      have tlN := hN.tl
      simp -dsimp (disch := first | omega | (simp only [go_sem, seval]; first | done | omega)) only [go_sem, seval, hb2]
      refine OpX.call cell_Blank_b rfl (Calls.ret (cblank_c _) ?_)
      rintro v w3 ⟨rfl, hc3⟩
      have hN3 := hN2.chg0 hc3
      have hb3 := hN3.hb
      simp -dsimp (disch := first | omega | (simp only [go_sem, seval]; first | done | omega)) only [go_sem, seval, hb3]
      refine OpX.call grid_Resize_b rfl (Calls.ret (gresize_c hfit.ok hfit.r hN3.g0_s N.c0 hN3.k0 (by decide) W0 W1 H0 H1) ?_)
      rintro v w4 ⟨⟨nb, cp, sp, rfl, p1, p2, p3⟩, hc4⟩
      have hc24 : Chg [] w2 w4 := (((Chg.refl _ _).drew).trans0 hc3).trans0 hc4
      have hz3 := hc3.size
      have hz3' : w2.heap.size ≤ w3.heap.size := hz3
      obtain ⟨k1, k2, k3⟩ := hN.newG false hc24 p1 (by omega) p3
      have hN4 := hN3.chg0 hc4
      have hb4 := hN4.hb
      have hl4 := lt_of_heap hb4
      have hp := N.wG0 (N.S.g0.resize W H Cel.blank) nb cp sp tlN
      simp -dsimp (disch := first | omega | (simp only [go_sem, seval]; first | done | omega)) only [go_sem, seval, Gr.val, hb4, hp]
      simp only [Scm.setG, cond_true, cond_false] at k1 k2 k3
      obtain ⟨N5, hN5⟩ : ∃ N5 : Scm, N5 = { N with S := { N.S with g0 := N.S.g0.resize W H Cel.blank }, b0 := nb, c0 := cp, p0 := sp } := ⟨_, rfl⟩
      rw [← hN5] at k1 k2 k3 ⊢
      have e5 : N5.S = { N.S with g0 := N.S.g0.resize W H Cel.blank } := by rw [hN5]
      clear hN5
      have hb5 := k1.hb
      have tl5 := k1.tl
      have hw5 : N5.S.w = W := by rw [e5]; exact hw
      have hh5 : N5.S.h = H := by rw [e5]; exact hh
      obtain ⟨w5, hw5'⟩ : ∃ w5, w5 = setBlk w4 s N5.obj := ⟨_, rfl⟩
      rw [← hw5'] at k1 k2 hb5 ⊢
      clear hw5'
      have hc5 := hc.trans k2 (fun x hx => by
        rcases List.mem_cons.1 hx with rfl | hx
        · exact .inl (by simp)
        · exact (hbl x hx).imp (fun h => by simp [h]) id)
      have hz := hc.size
      (try simp -dsimp (disch := first | omega | (simp only [go_sem, seval]; first | done | omega)) only [go_sem, seval, hb5])
      refine OpX.call screen_Screen_within_b rfl (Calls.ret (swithin_c (k1.chg0 (Chg.refl _ _).drew) (by omega) (by omega) _ _) ?_)
      rintro v w6 ⟨rfl, hc6⟩
      have hN6 := k1.chg0 (((Chg.refl _ _).drew).trans0 hc6)
      have hb6 := hN6.hb
      have hl6 := lt_of_heap hb6
      have x1 : min (max (N.S.s0.x : Int) 0) ((N5.S.w : Int) - 1) = ((clampN N.S.s0.x W : Nat) : Int) := by rw [hw5]; unfold clampN; omega
      have x2 : min (max (N.S.s0.y : Int) 0) ((N5.S.h : Int) - 1) = ((clampN N.S.s0.y H : Nat) : Int) := by rw [hh5]; unfold clampN; omega
      rw [x1, x2]
      simp -dsimp (disch := first | omega | (simp only [go_sem, seval]; first | done | omega)) only [go_sem, seval, hb6]
      have hc6' := hc5.trans0 (((Chg.refl _ _).drew).trans0 hc6)
      have kS := hN6.set { N5.S with s0 := ⟨clampN N.S.s0.x W, clampN N.S.s0.y H, N5.S.s0.pen⟩ } rfl rfl tl5 rfl
      refine hnx (1, { N5 with S := { N5.S with s0 := ⟨clampN N.S.s0.x W, clampN N.S.s0.y H, N5.S.s0.pen⟩ } }) _ ⟨by dsimp only; omega, kS, hc6'.set _ _ (.inl (by simp)), fun b hb => ?_, ?_⟩ (by dsimp only; omega)
      · rcases k3 b hb with h | h
        · exact hbl b h
        · exact .inr (by omega)
      · dsimp only [Scr.stage]
        rw [e5, hS]
        rfl
    · have hi0 : i = 1 := by omega
      subst hi0
      dsimp only [Scr.stage] at hS
      have hN2 := hN.chg0 (show Chg [] w2 w2.drew from (Chg.refl _ _).drew)
      have hb2 := hN.hb
      have hw : N.S.w = W := by rw [hS]; rfl
      have hh : N.S.h = H := by rw [hS]; rfl
      have hfit : N.S.g1.fit M.S.w M.S.h := by rw [hS]; exact ok.g1
      have tlN := hN.tl
      simp -dsimp (disch := first | omega | (simp only [go_sem, seval]; first | done | omega)) only [go_sem, seval, hb2]
      refine OpX.call cell_Blank_b rfl (Calls.ret (cblank_c _) ?_)
      rintro v w3 ⟨rfl, hc3⟩
      have hN3 := hN2.chg0 hc3
      have hb3 := hN3.hb
      simp -dsimp (disch := first | omega | (simp only [go_sem, seval]; first | done | omega)) only [go_sem, seval, hb3]
      refine OpX.call grid_Resize_b rfl (Calls.ret (gresize_c hfit.ok hfit.r hN3.g1_s N.c1 hN3.k1 (by decide) W0 W1 H0 H1) ?_)
      rintro v w4 ⟨⟨nb, cp, sp, rfl, p1, p2, p3⟩, hc4⟩
      have hc24 : Chg [] w2 w4 := (((Chg.refl _ _).drew).trans0 hc3).trans0 hc4
      have hz3 := hc3.size
      have hz3' : w2.heap.size ≤ w3.heap.size := hz3
      obtain ⟨k1, k2, k3⟩ := hN.newG true hc24 p1 (by omega) p3
      have hN4 := hN3.chg0 hc4
      have hb4 := hN4.hb
      have hl4 := lt_of_heap hb4
      have hp := N.wG1 (N.S.g1.resize W H Cel.blank) nb cp sp tlN
      simp -dsimp (disch := first | omega | (simp only [go_sem, seval]; first | done | omega)) only [go_sem, seval, Gr.val, hb4, hp]
      simp only [Scm.setG, cond_true, cond_false] at k1 k2 k3
      obtain ⟨N5, hN5⟩ : ∃ N5 : Scm, N5 = { N with S := { N.S with g1 := N.S.g1.resize W H Cel.blank }, b1 := nb, c1 := cp, p1 := sp } := ⟨_, rfl⟩
      rw [← hN5] at k1 k2 k3 ⊢
      have e5 : N5.S = { N.S with g1 := N.S.g1.resize W H Cel.blank } := by rw [hN5]
      clear hN5
      have hb5 := k1.hb
      have tl5 := k1.tl
      have hw5 : N5.S.w = W := by rw [e5]; exact hw
      have hh5 : N5.S.h = H := by rw [e5]; exact hh
      obtain ⟨w5, hw5'⟩ : ∃ w5, w5 = setBlk w4 s N5.obj := ⟨_, rfl⟩
      rw [← hw5'] at k1 k2 hb5 ⊢
      clear hw5'
      have hc5 := hc.trans k2 (fun x hx => by
        rcases List.mem_cons.1 hx with rfl | hx
        · exact .inl (by simp)
        · exact (hbl x hx).imp (fun h => by simp [h]) id)
      have hz := hc.size
      (try simp -dsimp (disch := first | omega | (simp only [go_sem, seval]; first | done | omega)) only [go_sem, seval, hb5])
      refine OpX.call screen_Screen_within_b rfl (Calls.ret (swithin_c (k1.chg0 (Chg.refl _ _).drew) (by omega) (by omega) _ _) ?_)
      rintro v w6 ⟨rfl, hc6⟩
      have hN6 := k1.chg0 (((Chg.refl _ _).drew).trans0 hc6)
      have hb6 := hN6.hb
      have hl6 := lt_of_heap hb6
      have x1 : min (max (N.S.s1.x : Int) 0) ((N5.S.w : Int) - 1) = ((clampN N.S.s1.x W : Nat) : Int) := by rw [hw5]; unfold clampN; omega
      have x2 : min (max (N.S.s1.y : Int) 0) ((N5.S.h : Int) - 1) = ((clampN N.S.s1.y H : Nat) : Int) := by rw [hh5]; unfold clampN; omega
      rw [x1, x2]
      simp -dsimp (disch := first | omega | (simp only [go_sem, seval]; first | done | omega)) only [go_sem, seval, hb6]
      have hc6' := hc5.trans0 (((Chg.refl _ _).drew).trans0 hc6)
      have kS := hN6.set { N5.S with s1 := ⟨clampN N.S.s1.x W, clampN N.S.s1.y H, N5.S.s1.pen⟩ } rfl rfl tl5 rfl
      refine hnx (2, { N5 with S := { N5.S with s1 := ⟨clampN N.S.s1.x W, clampN N.S.s1.y H, N5.S.s1.pen⟩ } }) _ ⟨by dsimp only; omega, kS, hc6'.set _ _ (.inl (by simp)), fun b hb => ?_, ?_⟩ (by dsimp only; omega)
      · rcases k3 b hb with h | h
        · exact hbl b h
        · exact .inr (by omega)
      · dsimp only [Scr.stage]
        rw [e5, hS]
        rfl
  · have hi0 : i = 2 := by omega
    subst hi0
    dsimp only [Scr.stage] at hS
    have hb2 := hN.hb
    have hl2 := lt_of_heap hb2
    have hw : N.S.w = W := by rw [hS]; rfl
    have hh : N.S.h = H := by rw [hS]; rfl
    simp -dsimp (disch := first | omega | (simp only [go_sem, seval]; first | done | omega)) only [go_sem, seval, hb2]
    refine OpX.call screen_Screen_move_b rfl (Calls.ret (smove2_c (hN.chg0 (show Chg [] w2 w2.drew from (Chg.refl _ _).drew)) (by omega) (by omega) (by omega) (by omega) N.S.now.x N.S.now.y) ?_)
    rintro v w3 ⟨N3, hN3, hS3, hc3, hbl3⟩
    have hb3 := hN3.hb
    have hl3 := lt_of_heap hb3
    have tl3 := hN3.tl
    simp -dsimp (disch := first | omega | (simp only [go_sem, seval]; first | done | omega)) only [go_sem, seval, hb3]
    have hz := hc.size
    refine hK _ _ ⟨rfl, _, hN3.set { N3.S with waits := false } rfl rfl tl3 rfl, ?_, ?_, fun b hb => ?_⟩
    · show { N3.S with waits := false } = _
      rw [hS3, hS]
      unfold Scr.move
      rw [← hS, hw, hh, hS]
      rfl
    · refine (hc.trans hc3.low_drew fun x hx => ?_).set _ _ (.inl (by simp))
      rcases List.mem_cons.1 hx with rfl | hx
      · exact .inl (by simp)
      · exact (hbl x hx).imp (fun h => by simp [h]) id
    · rcases hbl3 b hb with h | h
      · exact hbl b h
      · have h' : w2.heap.size ≤ b := h
        exact .inr (by omega)
end Go.Proofs.Ytjfembffjjijaaa
namespace Lyc
open Go
structure Fk (S T : Scr) : Prop where
  alt : T.alt = S.alt
  s0 : T.s0 = S.s0
  s1 : T.s1 = S.s1
  sh : T.shown = S.shown
  o : S.alt = true → T.g0 = S.g0 ∧ T.gone = S.gone
section
variable {S : Scr}
theorem Fk.refl (S : Scr) : Fk S S := ⟨rfl, rfl, rfl, rfl, fun _ => ⟨rfl, rfl⟩⟩
theorem Fk.trans {S T U : Scr} (h : Fk S T) (k : Fk T U) : Fk S U :=
  ⟨k.alt.trans h.alt, k.s0.trans h.s0, k.s1.trans h.s1, k.sh.trans h.sh, fun a => ⟨(k.o (h.alt.trans a)).1.trans (h.o a).1, (k.o (h.alt.trans a)).2.trans (h.o a).2⟩⟩
theorem Fk.setCur {g : Gr} : Fk S (S.setCur g) := by
  unfold Scr.setCur
  rcases Bool.eq_false_or_eq_true S.alt with h | h <;> simp only [h, cond_true, cond_false]
  · exact ⟨h.symm ▸ rfl, rfl, rfl, rfl, fun _ => ⟨rfl, rfl⟩⟩
  · exact ⟨h.symm ▸ rfl, rfl, rfl, rfl, fun a => by rw [h] at a; cases a⟩
theorem Fk.at {x y : Nat} : Fk S (S.at x y) := ⟨rfl, rfl, rfl, rfl, fun _ => ⟨rfl, rfl⟩⟩
theorem Fk.calm : Fk S S.calm := ⟨rfl, rfl, rfl, rfl, fun _ => ⟨rfl, rfl⟩⟩
theorem Fk.restore : Fk S S.restore := ⟨rfl, rfl, rfl, rfl, fun _ => ⟨rfl, rfl⟩⟩
theorem Fk.tabs {l : List Bool} : Fk S { S with tabs := l } := ⟨rfl, rfl, rfl, rfl, fun _ => ⟨rfl, rfl⟩⟩
theorem Fk.move {x y : Int} : Fk S (S.move x y) := Fk.at
theorem Fk.line {f : Gr → Gr} : Fk S (S.line f) := Fk.setCur
theorem Fk.erase {x n : Int} : Fk S (S.erase x n) := Fk.line
theorem Fk.clear {x n : Int} : Fk S (S.clear x n) := Fk.setCur
theorem Fk.scroll {x n : Int} : Fk S (S.scroll x n) := Fk.setCur
theorem Fk.keep {n : Int} : Fk S (S.keep n) := by
  unfold Scr.keep
  split
  · rename_i h; exact ⟨rfl, rfl, rfl, rfl, fun a => by rw [h.2] at a; cases a⟩
  · exact Fk.refl _
theorem Fk.up {n : Int} : Fk S (S.up n) := Fk.keep.trans Fk.scroll
theorem Fk.below : Fk S S.below := by
  unfold Scr.below
  split
  · exact Fk.up
  · split
    · exact Fk.at
    · exact Fk.refl _
theorem Fk.above : Fk S S.above := by
  unfold Scr.above
  split
  · exact Fk.scroll
  · split
    · exact Fk.at
    · exact Fk.refl _
theorem Fk.wrapped : Fk S S.wrapped := by
  unfold Scr.wrapped
  split
  · exact Fk.at.trans Fk.below
  · exact Fk.refl _
theorem Fk.roomFor {n : Nat} : Fk S (S.roomFor n) := by
  unfold Scr.roomFor
  split
  · split
    · exact Fk.at.trans Fk.below
    · exact Fk.at
  · exact Fk.refl _
theorem Fk.waits {b : Bool} : Fk S { S with waits := b } := ⟨rfl, rfl, rfl, rfl, fun _ => ⟨rfl, rfl⟩⟩
theorem Fk.lay {r : Int} {n : Nat} : Fk S (S.lay r n) := by
  unfold Scr.lay
  dsimp only
  split
  · exact (Fk.line.trans Fk.at).trans Fk.waits
  · exact (Fk.line.trans Fk.at).trans Fk.waits
theorem Fk.print {r : Int} : Fk S (S.print r) := by
  unfold Scr.print
  split
  · exact Fk.refl _
  · exact (Fk.wrapped.trans Fk.roomFor).trans Fk.lay
theorem Fk.ctl {r : Int} : Fk S (S.ctl r) := by
  unfold Scr.ctl
  split
  · exact Fk.at.trans Fk.calm
  split
  · exact (show Fk S S.tab from Fk.at).trans Fk.calm
  split
  · exact Fk.below.trans Fk.calm
  split
  · exact Fk.at.trans Fk.calm
  · exact Fk.refl _
theorem Fk.esc {r : Int} (h7 : r ≠ 55) (hc : r ≠ 99) : Fk S (S.esc r) := by
  unfold Scr.esc
  rw [if_neg h7]
  split
  · exact Fk.tabs
  split
  · exact (Fk.at.trans Fk.below).trans Fk.calm
  split
  · exact Fk.below.trans Fk.calm
  split
  · exact Fk.above.trans Fk.calm
  split
  · exact Fk.restore.trans Fk.calm
  exact Fk.refl _
theorem Fk.moved {a : Act'} {T : Scr} (ht : S.moved a = some T) : Fk S T := by
  unfold Scr.moved at ht
  dsimp only at ht
  (repeat' split at ht) <;> first | (cases ht; exact Fk.at.trans Fk.at) | (cases ht; exact Fk.at) | (cases ht; exact Fk.restore) | (cases ht)
theorem Fk.region {t f : Int} : Fk S (S.region t f) := by
  unfold Scr.region
  dsimp only
  generalize (if f = 0 ∨ (S.h : Int) < f then (S.h : Int) else f) = q
  split
  · exact Fk.trans (T := { S with top := t.toNat, fin := q.toNat }) ⟨rfl, rfl, rfl, rfl, fun _ => ⟨rfl, rfl⟩⟩ Fk.at
  · exact Fk.refl _
theorem Fk.wipeRows {k : Int} : Fk S (S.wipeRows k) := by
  unfold Scr.wipeRows
  split
  · exact Fk.clear
  split
  · exact Fk.clear
  split
  · exact Fk.clear
  · exact Fk.refl _
theorem Fk.wipeLine {k : Int} : Fk S (S.wipeLine k) := by
  unfold Scr.wipeLine
  split
  · exact Fk.erase
  split
  · exact Fk.erase
  split
  · exact Fk.erase
  · exact Fk.refl _
theorem Fk.shiftRows {n : Int} : Fk S (S.shiftRows n) := by
  unfold Scr.shiftRows
  split
  · exact Fk.scroll.trans Fk.at
  · exact Fk.refl _
theorem Fk.changed {a : Act'} {T : Scr} (ht : S.changed a = some T) : Fk S T := by
  unfold Scr.changed at ht
  dsimp only at ht
  (repeat' split at ht) <;> first | (cases ht; exact Fk.wipeRows.trans Fk.wipeLine) | (cases ht; exact Fk.wipeLine) | (cases ht; exact Fk.shiftRows) | (cases ht; exact Fk.line) | (cases ht; exact Fk.erase) | (cases ht; exact Fk.up) | (cases ht; exact Fk.scroll) | (cases ht; exact Fk.region) | (cases ht)
theorem Fk.set {a : Act'} {T : Scr} (hs : a.r ≠ 115) (ht : S.set a = some T) : Fk S T := by
  unfold Scr.set at ht
  rw [if_neg hs] at ht
  split at ht
  · cases ht; exact ⟨rfl, rfl, rfl, rfl, fun _ => ⟨rfl, rfl⟩⟩
  split at ht
  · cases ht
    split
    · exact Fk.tabs
    split
    · exact Fk.tabs
    · exact Fk.refl _
  · cases ht
theorem Fk.csi {a : Act'} (hp : a.priv = 0) (hs : a.r ≠ 115) : Fk S (S.csi a) := by
  unfold Scr.csi
  rw [if_neg (by omega)]
  split
  · exact Fk.refl _
  cases h1 : S.set a with
  | some T => exact Fk.set hs h1
  | none =>
    cases h2 : S.moved a with
    | some T => exact (Fk.moved h2).trans Fk.calm
    | none =>
      cases h3 : S.changed a with
      | some T => exact (Fk.changed h3).trans Fk.calm
      | none => exact Fk.refl _
def Act'.saves (a : Act') : Bool := decide (a.kind = 3 ∧ (a.r = 99 ∨ a.r = 55) ∨ a.kind = 4 ∧ (a.priv ≠ 0 ∨ a.r = 115))
theorem Fk.act {a : Act'} (h : a.saves = false) : Fk S (S.act a) := by
  have h := of_decide_eq_false h
  unfold Scr.act
  split
  · exact Fk.print
  split
  · exact Fk.ctl
  split
  · rename_i k
    split
    · exact Fk.esc (fun e => h (.inl ⟨k, .inr e⟩)) (fun e => h (.inl ⟨k, .inl e⟩))
    · exact Fk.refl _
  split
  · rename_i k
    exact Fk.csi (Classical.not_not.1 fun e => h (.inr ⟨k, .inl e⟩)) (fun e => h (.inr ⟨k, .inr e⟩))
  · exact Fk.refl _
structure Fo (S T : Scr) : Prop where
  alt : T.alt = true
  s0 : T.s0 = S.s0
  sh : T.shown = S.shown
  g0 : T.g0 = S.g0
  gone : T.gone = S.gone
theorem Fo.refl (h : S.alt = true) : Fo S S := ⟨h, rfl, rfl, rfl, rfl⟩
theorem Fo.trans {S T U : Scr} (h : Fo S T) (k : Fo T U) : Fo S U := ⟨k.alt, k.s0.trans h.s0, k.sh.trans h.sh, k.g0.trans h.g0, k.gone.trans h.gone⟩
theorem Fk.fo {T : Scr} (h : Fk S T) (a : S.alt = true) : Fo S T := ⟨h.alt.trans a, h.s0, h.sh, (h.o a).1, (h.o a).2⟩
theorem Fo.save (a : S.alt = true) : Fo S S.save := by
  have e : S.save = { S with s1 := S.now } := by unfold Scr.save; rw [a]; rfl
  rw [e]
  exact ⟨a, rfl, rfl, rfl, rfl⟩
def Act'.turns (a : Act') : Bool := decide (a.kind = 3 ∧ a.r = 99 ∨ a.kind = 4 ∧ a.priv ≠ 0)
theorem Fo.act {a : Act'} (h : a.turns = false) (al : S.alt = true) : Fo S (S.act a) := by
  by_cases hs : a.saves = false
  · exact (Fk.act hs).fo al
  have h := of_decide_eq_false h
  have hs := of_decide_eq_true (by simpa using hs : a.saves = true)
  rcases hs with ⟨k, e | e⟩ | ⟨k, e | e⟩
  · exact absurd (.inl ⟨k, e⟩) h
  · unfold Scr.act
    rw [if_neg (by omega), if_neg (by omega), if_pos k]
    split
    · unfold Scr.esc
      rw [if_pos e]
      exact Fo.save al
    · exact Fo.refl al
  · exact absurd (.inr ⟨k, e⟩) h
  · have hp : a.priv = 0 := Classical.not_not.1 fun e => h (.inr ⟨k, e⟩)
    unfold Scr.act
    rw [if_neg (by omega), if_neg (by omega), if_neg (by omega), if_pos k]
    unfold Scr.csi
    rw [if_neg (by omega)]
    split
    · exact Fo.refl al
    · unfold Scr.set
      rw [if_neg (by omega), if_neg (by omega), if_pos e]
      exact Fo.save al
end
end Lyc
namespace Go.Proofs.Ytjfembffjjijaaa
open Lyc Go
theorem sact_c {w : World} {s : Nat} {M : Scm} (h : SAt w s M) (ok : M.S.ok) {b : Nat} {A : Act'} (hb : w.heap[b]? = some (.cells A.cells.toArray 35)) (hf : A.fits) : Calls Try.prog 11 #[.pointer (some ⟨s, 0, none⟩), .slice (some ⟨b, 0, none⟩) 1 1] w
    (retK fun _ w' => Did w s M w' (M.S.act A)) := by
  have hs : Sx w (some 35) Act'.cells (some ⟨b, 0, none⟩) [A] := Sx.built (c := A.cells) hb (by simp)
  have hfar : ∀ b' o, some (⟨b, 0, none⟩ : Addr) = some ⟨b', o, none⟩ → [A] ≠ [] → b' ∉ s :: M.blk := by
    intro b' o he _ hm
    cases he
    have ho : Ox 0 w 35 13 Act'.cells (.slice (some ⟨b, 0, none⟩) 1 1) [A] := Ox.built (c := A.cells) hb Act'.len (by omega) rfl rfl (by omega) (by simp)
    exact h.act_off ho b hm (by simp [Value.ownBlock])
  exact sdo_c h ok hs hfar 1 (by simp) (by simp; exact hf)
theorem SNew.gone {base : Nat} {w w' : World} {s W H : Nat} {M : Scm} (h : SNew base w s W H M) (hA : SAt w' s { M with S := { M.S with gone := [] }, gv := .slice none 0 0, rows := [] }) : SNew base w' s W H { M with S := { M.S with gone := [] }, gv := .slice none 0 0, rows := [] } := by
  refine ⟨hA, ⟨h.ok.w0, h.ok.w1, h.ok.h0, h.ok.h1, h.ok.g0, h.ok.g1, h.ok.nx, h.ok.ny, h.ok.s0x, h.ok.s0y, h.ok.s1x, h.ok.s1y, h.ok.tf, h.ok.fh, h.ok.tl, by simp, by simp⟩, h.w, h.h, by simp, fun x hx => ?_⟩
  simp only [Scm.blk, Value.ownBlock, Option.toList_none, List.mem_cons, List.not_mem_nil, or_false] at hx
  rcases hx with rfl | rfl | rfl
  · exact h.lo _ (by simp)
  · exact h.lo _ (by simp [Scm.blk])
  · exact h.lo _ (by simp [Scm.blk])
def saveA : Act' := ⟨3, 55, 0, 0, 0, 0, 0, 0, 0, 0, 0, 0, 0⟩
def backA : Act' := ⟨4, 117, 0, 0, 0, 0, 0, 0, 0, 0, 0, 0, 0⟩
theorem saveA_fits : saveA.fits := fits_of (by decide) (by decide) (by decide) (by decide) zeros_ok
theorem backA_fits : backA.fits := fits_of (by decide) (by decide) (by decide) (by decide) zeros_ok
theorem act_save (S : Scr) : S.act saveA = S.save := rfl
theorem act_back (S : Scr) : S.act backA = S.restore.calm := rfl
theorem saved_back {S T : Scr} (h : Fk S.save T) : (T.act backA).now = S.now := by
  rw [act_back]
  show (bif T.alt then T.s1 else T.s0) = _
  rw [h.alt, h.s0, h.s1]
  unfold Scr.save
  rcases Bool.eq_false_or_eq_true S.alt with a | a <;> simp only [a, cond_true, cond_false]
theorem ssaves_c {w : World} {e : Option TypeId} {a : Option Addr} {l : List Int} (hs : Sx w e runeF a l) (cap : Nat) (hcap : l.length ≤ cap) (hr : ∀ x ∈ l, -2147483648 ≤ x ∧ x ≤ 2147483647)
    {e2 : Option TypeId} {a2 : Option Addr} {l2 : List Int} (hs2 : Sx w e2 runeF a2 l2) (cap2 : Nat) (hcap2 : l2.length ≤ cap2) (hr2 : ∀ x ∈ l2, -2147483648 ≤ x ∧ x ≤ 2147483647) (W H : Int) :
    Calls Try.prog 3 #[.agg #[.int .i64 W, .int .i64 H], .slice a l.length cap, .slice a2 l2.length cap2] w (retK fun v w' => v = .bool true ∧ Chg [] w w') := by
  obtain ⟨-, u0, u1⟩ := szN_eq (n := W) (m := 14) (by omega)
  obtain ⟨-, v0, v1⟩ := szN_eq (n := H) (m := 8) (by omega)
  apply lyceumlaw09_ScreenSaves_link
  intro K hK
  unfold lyceumlaw09_ScreenSaves
  simp -dsimp (disch := first | omega | (simp only [go_sem, seval]; first | done | omega)) only [go_sem, seval]
  refine OpX.gen fun w0 hw0 => ?_
  have hc0 : Chg [] w w0 := by rw [hw0]; exact chg_a1 _ _
  have hz0 : w0.heap[w.heap.size]? = some (.cells #[.int .i64 W, .int .i64 H] 23) := by rw [hw0]; simp -dsimp (disch := first | omega | (simp only [go_sem, seval]; first | done | omega)) only [go_sem, seval]
  clear hw0
  refine OpX.call lyceumlaw09_awake_b rfl (Calls.ret (awake09_c _) ?_)
  rintro v w1 ⟨rfl, hc1⟩
  have hz1 := hc1.keep hz0 (by simp)
  simp -dsimp (disch := first | omega | (simp only [go_sem, seval]; first | done | omega)) only [go_sem, seval, hz1]
  refine OpX.call lyceumlaw09_Size_size_b rfl (Calls.ret (size09_c _ W H) ?_)
  rintro v w2 ⟨rfl, hc2⟩
  generalize szN W 14 = X at *
  generalize szN H 8 = Y at *
  simp -dsimp (disch := first | omega | (simp only [go_sem, seval]; first | done | omega)) only [go_sem, seval]
  refine OpX.call screen_New_b rfl (Calls.ret (snew2_c w2 X Y (by omega) (by omega) (by omega) (by omega)) ?_)
  rintro v w3 ⟨s, M, rfl, hN, hS, hc3⟩
  have hc02 := (hc0.trans0 hc1).trans0 hc2
  have hc03 := hc02.trans0 hc3
  (try simp -dsimp (disch := first | omega | (simp only [go_sem, seval]; first | done | omega)) only [go_sem, seval])
  refine OpX.call lyceumlaw09_acts_b rfl (Calls.ret (acts_c (hs.chg0 hc03) cap hcap hr 60 (by omega)) ?_)
  rintro v w4 ⟨qs, ho, hlq, hfq, hc4, -⟩
  have hN4 := hN.chg0 hc4
  obtain ⟨aq, cq, rfl, -, hsq, -, -⟩ := ho.form
  have hfar : ∀ b o, aq = some ⟨b, o, none⟩ → qs ≠ [] → b ∉ s :: M.blk := fun b o ha _ hm => hN4.at_.act_off ho b hm (by rw [ha]; simp [Value.ownBlock])
  have hz2 := hc02.size
  have hz3 := hc3.size
  have hz4 := hc4.size
  refine OpX.call screen_Screen_Do_b rfl (Calls.ret (sdo_c hN4.at_ hN4.ok hsq hfar cq (by omega) hfq) ?_)
  rintro v w5 hd5
  obtain ⟨M5, hN5, -, hc5, -⟩ := hN4.did hd5 hN4.ok.acts (by omega)
  have hc25 : Chg [] w2 w5 := (hc3.trans0 hc4).trans hc5 (fun x hx => .inr (hN4.lo x hx))
  simp -dsimp (disch := first | omega | (simp only [go_sem, seval]; first | done | omega)) only [go_sem, seval]
  refine OpX.gen fun w6 hw6 => ?_
  have hc6 : Chg [] w5 w6 := by rw [hw6]; exact chg_a1 _ _
  have hb6 : w6.heap[w5.heap.size]? = some (.cells saveA.cells.toArray 35) := by rw [hw6]; simp -dsimp (disch := first | omega | (simp only [go_sem, seval]; first | done | omega)) only [go_sem, seval]; rfl
  clear hw6
  have hN6 := hN5.chg0 hc6
  have hz5 := hc25.size
  have hz6 := hc6.size
  refine OpX.call screen_Screen_Do_b rfl (Calls.ret (sact_c hN6.at_ hN6.ok hb6 saveA_fits) ?_)
  rintro v w7 hd7
  obtain ⟨M7, hN7, hS7, hc7, -⟩ := hN6.did hd7 hN6.ok.act (by omega)
  rw [act_save] at hS7
  have hc27 : Chg [] w2 w7 := (hc25.trans0 hc6).trans hc7 (fun x hx => .inr (hN6.lo x hx))
  refine OpX.call screen_Screen_Cursor_b rfl (Calls.ret (scursor_c hN7.at_ hN7.ok.w0) ?_)
  rintro v w8 ⟨rfl, hc8⟩
  have hN8 := hN7.chg0 hc8
  simp -dsimp (disch := first | omega | (simp only [go_sem, seval]; first | done | omega)) only [go_sem, seval]
  refine OpX.call screen_Screen_Pen_b rfl (Calls.ret (spen_c hN8.at_ hN8.ok.w0) ?_)
  rintro v w9 ⟨rfl, hc9⟩
  have hN9 := hN8.chg0 hc9
  have hnow : M7.S.now = M5.S.now := by rw [hS7]; unfold Scr.save; rcases Bool.eq_false_or_eq_true M5.S.alt with a | a <;> simp only [a, cond_true, cond_false]
  obtain ⟨t14, ht14⟩ : ∃ t14, t14 = w9.heap.size := ⟨_, rfl⟩
  simp -dsimp (disch := first | omega | (simp only [go_sem, seval]; first | done | omega)) only [go_sem, seval, Cel.val]
  rw [← ht14]
  refine OpX.gen fun w10 hw10 => ?_
  have hc10 : Chg [] w9 w10 := by rw [hw10]; (repeat (first | exact Chg.refl _ _ | apply Chg.drew | apply Chg.alloc | (refine Chg.set ?_ _ _ (by first | (left; simp; done) | (right; omega)))))
  have hp10 : w10.heap[t14]? = some (.cells M7.S.now.pen.cells.toArray 39) := by rw [hw10, ht14]; simp -dsimp (disch := first | omega | (simp only [go_sem, seval]; first | done | omega)) only [go_sem, seval]
  clear hw10
  have hc210 := ((hc27.trans0 hc8).trans0 hc9).trans0 hc10
  have hN10 := hN9.chg0 hc10
  have hz10 := hc210.size
  refine OpX.call lyceumlaw09_acts_b rfl (Calls.ret (acts_c ((hs2.chg0 hc02).chg0 hc210) cap2 hcap2 hr2 60 (by omega)) ?_)
  rintro v w11 ⟨rs, ho11, hlr, hfr, hc11, -⟩
  have hN11 := hN10.chg0 hc11
  have hp11 := hc11.keep hp10 (by simp)
  obtain ⟨ar, cr, rfl, -, -, -, -⟩ := ho11.form
  have ht9 : w2.heap.size ≤ t14 := by rw [ht14]; have := ((hc27.trans0 hc8).trans0 hc9).size; omega
  have hoff : t14 ∉ s :: M7.blk := fun hm => by have := hN9.at_.lt _ hm; omega
  have hsaved : Fk M5.S.save M7.S := by rw [hS7]; exact Fk.refl _
  refine Loop1.st (fun q : Nat × Scm => .int .i64 q.1) (fun q w' => q.1 ≤ rs.length ∧ Ox w10.heap.size w' 35 13 Act'.cells (.slice ar rs.length cr) rs ∧ SNew w2.heap.size w' s X Y q.2 ∧ Fk M5.S.save q.2.S ∧ t14 ∉ s :: q.2.blk ∧ w'.heap[t14]? = some (.cells M7.S.now.pen.cells.toArray 39) ∧ Chg [] w2 w') (fun q => rs.length - q.1) (0, M7) rfl ⟨by simp, ho11, hN11, hsaved, hoff, hp11, hc210.trans0 hc11⟩ ?_
  rintro next ⟨j, Mj⟩ wj hn ⟨hj, hoj, hNj, hFj, hfj14, hpj, hcj⟩
  dsimp only at hj hoj hNj hFj hfj14 hpj hcj ⊢
  simp -dsimp (disch := first | omega | (simp only [go_sem, seval]; first | done | omega)) only [go_sem, seval]
  refine BrW.dec (fun h2 => ?_) (fun h2 => ?_)
  · have hj' : j < rs.length := by omega
    obtain ⟨_, _, hvj, -, hsm, -, -⟩ := hoj.form
    cases hvj
    obtain ⟨b, o, rfl, hbl, hag⟩ := hsm.get (m := 13) Act'.len (List.getElem?_eq_getElem hj')
    have hfj := hfr _ (List.getElem_mem hj')
    obtain ⟨A, hA⟩ : ∃ A, A = rs[j] := ⟨_, rfl⟩
    rw [← hA] at hfj hag
    have hcel := fun i hi => aggAt_cell hag i hi
    have c0 := hcel 0 (by omega)
    have c1 := hcel 1 (by omega)
    have c2 := hcel 2 (by omega)
    simp only [Act'.cells, Nat.add_zero, List.getElem?_toArray, List.getElem?_cons_zero, List.getElem?_cons_succ] at c0 c1 c2
    refine Join0.cut (fun w' => ∃ M', SNew w2.heap.size w' s X Y M' ∧ Fk M5.S.save M'.S ∧ t14 ∉ s :: M'.blk ∧ Ox w10.heap.size w' 35 13 Act'.cells (.slice (some ⟨b, o, none⟩) rs.length cr) rs ∧ w'.heap[t14]? = some (.cells M7.S.now.pen.cells.toArray 39) ∧ Chg [] w2 w') ?_ ?_
    · refine Join1.cut (fun v w' => v = .bool A.saves ∧ w' = wj) ?_ ?_
      · have tr : (A.kind = 3 ∧ (A.r = 99 ∨ A.r = 55) ∨ A.kind = 4 ∧ (A.priv ≠ 0 ∨ A.r = 115)) → Value.bool true = Value.bool A.saves ∧ wj = wj := fun h => ⟨congrArg Value.bool (decide_eq_true h).symm, rfl⟩
        have fa : ¬(A.kind = 3 ∧ (A.r = 99 ∨ A.r = 55) ∨ A.kind = 4 ∧ (A.priv ≠ 0 ∨ A.r = 115)) → Value.bool false = Value.bool A.saves ∧ wj = wj := fun h => ⟨congrArg Value.bool (decide_eq_false h).symm, rfl⟩
        simp -dsimp (disch := first | omega | (simp only [go_sem, seval]; first | done | omega)) only [go_sem, seval, c0]
        refine BrW.dec (fun g1 => ?_) (fun g1 => ?_)
        · simp -dsimp (disch := first | omega | (simp only [go_sem, seval]; first | done | omega)) only [go_sem, seval, c1]
          refine BrW.dec (fun g2 => tr (by omega)) (fun g2 => ?_)
          simp -dsimp (disch := first | omega | (simp only [go_sem, seval]; first | done | omega)) only [go_sem, seval, c1]
          refine BrW.dec (fun g3 => tr (by omega)) (fun g3 => ?_)
          simp -dsimp (disch := first | omega | (simp only [go_sem, seval]; first | done | omega)) only [go_sem, seval, c0]
          refine BrW.dec (fun g4 => by omega) (fun g4 => fa (by omega))
        · simp -dsimp (disch := first | omega | (simp only [go_sem, seval]; first | done | omega)) only [go_sem, seval, c0]
          refine BrW.dec (fun g2 => ?_) (fun g2 => fa (by omega))
          simp -dsimp (disch := first | omega | (simp only [go_sem, seval]; first | done | omega)) only [go_sem, seval, c2]
          refine BrW.dec (fun g3 => tr (by omega)) (fun g3 => ?_)
          simp -dsimp (disch := first | omega | (simp only [go_sem, seval]; first | done | omega)) only [go_sem, seval, c1]
          exact congrArg Value.bool (decide_eq_decide.2 ⟨fun h => by omega, fun h => by omega⟩)
      rintro v w12 ⟨rfl, rfl⟩
      simp -dsimp (disch := first | omega | (simp only [go_sem, seval]; first | done | omega)) only [go_sem, seval]
      cases hsv : A.saves with
      | true =>
        simp -dsimp (disch := first | omega | (simp only [go_sem, seval]; first | done | omega)) only [go_sem, seval, hsv]
        exact ⟨Mj, hNj, hFj, hfj14, hoj, hpj, hcj⟩
      | false =>
        simp -dsimp (disch := first | omega | (simp only [go_sem, seval]; first | done | omega)) only [go_sem, seval, hsv, hag]
        refine OpX.gen fun w13 hw13 => ?_
        have hc13 : Chg [] w12 w13 := by rw [hw13]; exact chg_a1 _ _
        have hb13 : w13.heap[w12.heap.size]? = some (.cells A.cells.toArray 35) := by rw [hw13]; simp -dsimp (disch := first | omega | (simp only [go_sem, seval]; first | done | omega)) only [go_sem, seval]
        clear hw13
        have hN13 := hNj.chg0 hc13
        have hz12 := hcj.size
        have hz13 := hc13.size
        refine OpX.call screen_Screen_Do_b rfl (Calls.ret (sact_c hN13.at_ hN13.ok hb13 hfj) ?_)
        rintro v w14 hd14
        obtain ⟨M14, hN14, hS14, hc14, hk14⟩ := hN13.did hd14 hN13.ok.act (by omega)
        have ho13 := hoj.chg0 hc13
        refine ⟨M14, hN14, by rw [hS14]; exact hFj.trans (Fk.act hsv), blk_off hk14 hfj14 (by have := lt_of_heap hpj; omega), ho13.chg hc14 (fun b hb hm => hN13.at_.act_off ho13 b hm (by simp [← hb])), hc14.keep (hc13.keep hpj (by simp)) hfj14, (hcj.trans0 hc13).trans hc14 (fun x hx => .inr (hN13.lo x hx))⟩
    · rintro w12 ⟨M', hN', hF', hf', ho', hp', hc'⟩
      have e1 : (j : Int) + 1 = ((j + 1 : Nat) : Int) := by omega
      simp -dsimp (disch := first | omega | (simp only [go_sem, seval]; first | done | omega)) only [go_sem, seval, e1]
      exact hn (j + 1, M') _ ⟨by dsimp only; omega, ho', hN', hF', hf', hp', hc'⟩ (by dsimp only; omega)
  · simp -dsimp (disch := first | omega | (simp only [go_sem, seval]; first | done | omega)) only [go_sem, seval]
    refine OpX.gen fun w13 hw13 => ?_
    have hc13 : Chg [] wj w13 := by rw [hw13]; exact chg_a1 _ _
    have hb13 : w13.heap[wj.heap.size]? = some (.cells backA.cells.toArray 35) := by rw [hw13]; simp -dsimp (disch := first | omega | (simp only [go_sem, seval]; first | done | omega)) only [go_sem, seval]; rfl
    clear hw13
    have hN13 := hNj.chg0 hc13
    have hz12 := hcj.size
    have hz13 := hc13.size
    refine OpX.call screen_Screen_Do_b rfl (Calls.ret (sact_c hN13.at_ hN13.ok hb13 backA_fits) ?_)
    rintro v w14 hd14
    obtain ⟨M14, hN14, hS14, hc14, hk14⟩ := hN13.did hd14 hN13.ok.act (by omega)
    have hlast : M14.S.now = M7.S.now := by rw [hS14, saved_back hFj, hnow]
    have hp14 : w14.heap[t14]? = some (.cells M7.S.now.pen.cells.toArray 39) := hc14.keep (hc13.keep hpj (by simp)) hfj14
    have hc214 : Chg [] w2 w14 := (hcj.trans0 hc13).trans hc14 (fun x hx => .inr (hN13.lo x hx))
    refine OpX.call screen_Screen_Cursor_b rfl (Calls.ret (scursor_c hN14.at_ hN14.ok.w0) ?_)
    rintro v w15 ⟨rfl, hc15⟩
    rw [hlast]
    have hN15 := hN14.chg0 hc15
    have hp15 := hc15.keep hp14 (by simp)
    simp -dsimp (disch := first | omega | (simp only [go_sem, seval]; first | done | omega)) only [go_sem, seval]
    refine Join1.cut (fun v w' => v = .bool true ∧ Chg [] w15 w') ?_ ?_
    · simp -dsimp (disch := first | omega | (simp only [go_sem, seval]; first | done | omega)) only [go_sem, seval, hp15]
      refine OpX.call screen_Screen_Pen_b rfl (Calls.ret (spen_c (hN15.at_.chg0 (show Chg [] w15 w15.drew from (Chg.refl _ _).drew)) hN15.ok.w0) ?_)
      rintro v w16 ⟨rfl, hc16⟩
      have hp16 := hc16.keep (show w15.drew.heap[t14]? = _ from hp15) (by simp)
      rw [hlast]
      simp -dsimp (disch := first | omega | (simp only [go_sem, seval]; first | done | omega)) only [go_sem, seval, hp16, Cel.val]
      exact hc16.low_drew
    rintro v w16 ⟨rfl, hc16⟩
    exact hK _ _ ⟨rfl, ((hc02.trans0 hc214).trans0 hc15).trans0 hc16⟩
end Go.Proofs.Ytjfembffjjijaaa
namespace Lyc
open Go
structure Tape (S : Scr) (W H : Nat) (R : Nat → Nat → Cel) (a x g : Nat) (wt : Bool) : Prop where
  ok : S.ok
  w : S.w = W
  h : S.h = H
  alt : S.alt = false
  top : S.top = 0
  fin : S.fin = H
  wraps : S.wraps = true
  shown : S.shown = true
  pen : S.now.pen = Cel.none
  nx : S.now.x = x
  ny : S.now.y + (a + 1 - H) = a
  wt : S.waits = wt
  g0 : S.g0 = Gr.of W H fun y => lineOf W (R (a + 1 - H + y))
  gn : S.gone = (List.range' g (a + 1 - H - g)).map fun y => lineOf W (R y)
  gl : g ≤ a + 1 - H
  bl : ∀ i j, a < i → R i j = Cel.blank
  sg : ∀ i j, (R i j).single = true
theorem line_single {W : Nat} {f : Nat → Cel} (h : ∀ j, (f j).single = true) : mend (lineOf W f) = lineOf W f :=
  mend_id (right_single fun c hc => by
    unfold lineOf at hc
    obtain ⟨j, -, rfl⟩ := List.mem_map.1 hc
    exact h j)
theorem Gr.of_congr {w h : Nat} {R S : Nat → List Cel} (e : ∀ y, y < h → R y = S y) : Gr.of w h R = Gr.of w h S := by
  unfold Gr.of
  rw [rowsOf_congr e]
section
variable {S : Scr} {W H : Nat} {R : Nat → Nat → Cel} {a x g : Nat} {wt : Bool}
theorem Tape.new (W0 : 0 < W) (W1 : W ≤ 200) (H0 : 0 < H) (H1 : H ≤ 60) : Tape (Scr.new W H) W H (fun _ _ => Cel.blank) 0 0 0 false := by
  have e : 0 + 1 - H = 0 := by omega
  refine ⟨Scr.ok_new W0 W1 H0 H1, rfl, rfl, rfl, rfl, rfl, rfl, rfl, rfl, rfl, by rw [e]; rfl, rfl, ?_, by rw [e]; rfl, by omega, fun _ _ _ => rfl, fun _ _ => blank_single⟩
  have hP := Gr.plain_ok W0 W1 H0 H1 Cel.blank
  refine (Gr.of_rows hP fun y hy => ?_).symm
  rw [hP.row_line hy]
  refine lineOf_congr fun i hi => ?_
  exact (Gr.plain_at W0 W1 H0 H1 _ hi hy).symm
theorem Tape.yH (h : Tape S W H R a x g wt) : S.now.y < H := by have := h.ok.ny; rw [h.h] at this; exact this
theorem Tape.W0 (h : Tape S W H R a x g wt) : 0 < W := by have := h.ok.w0; rw [h.w] at this; exact this
theorem Tape.H0 (h : Tape S W H R a x g wt) : 0 < H := by have := h.ok.h0; rw [h.h] at this; exact this
theorem Tape.home (h : Tape S W H R a x g wt) : Tape (S.at 0 S.now.y) W H R a 0 g wt :=
  ⟨(h.ok.at h.ok.w0 h.ok.ny).ok, h.w, h.h, h.alt, h.top, h.fin, h.wraps, h.shown, h.pen, rfl, h.ny, h.wt, h.g0, h.gn, h.gl, h.bl, h.sg⟩
theorem Tape.calm (h : Tape S W H R a x g wt) : Tape S.calm W H R a x g false :=
  ⟨h.ok.calm.ok, h.w, h.h, h.alt, h.top, h.fin, h.wraps, h.shown, h.pen, h.nx, h.ny, rfl, h.g0, h.gn, h.gl, h.bl, h.sg⟩
theorem scroll_tape {f : Nat} (W0 : 0 < W) (W1 : W ≤ 200) (H0 : 0 < H) (H1 : H ≤ 60) (sg : ∀ i j, (R i j).single = true) (bl : ∀ j, R (f + H) j = Cel.blank) :
    (Gr.of W H fun y => lineOf W (R (f + y))).scroll 0 H 1 Cel.blank = Gr.of W H fun y => lineOf W (R (f + 1 + y)) := by
  have hR : ∀ y, y < H → (lineOf W (R (f + y))).length = W := fun _ _ => lineOf_len _ _
  unfold Gr.scroll Gr.chg
  show Gr.of W H _ = Gr.of W H _
  refine Gr.of_congr fun y hy => ?_
  have e1 : min (max (0 : Int) 0) ((Gr.of W H fun y => lineOf W (R (f + y))).h : Int) = 0 := by show min (max (0 : Int) 0) (H : Int) = 0; omega
  have e2 : min (max (H : Int) 0) ((Gr.of W H fun y => lineOf W (R (f + y))).h : Int) = H := by show min (max (H : Int) 0) (H : Int) = H; omega
  have e3 : min (max (1 : Int) (-((Gr.of W H fun y => lineOf W (R (f + y))).h : Int))) ((Gr.of W H fun y => lineOf W (R (f + y))).h : Int) = 1 := by show min (max (1 : Int) (-(H : Int))) (H : Int) = 1; omega
  rw [e1, e2, e3, if_pos ⟨by omega, by omega⟩]
  unfold Gr.scrollF
  by_cases h1 : y + 1 < H
  · rw [if_neg (by omega), show ((y : Int) + 1).toNat = y + 1 by omega, Gr.of_row hR h1, line_single fun j => sg _ j, show f + (y + 1) = f + 1 + y by omega]
  · rw [if_pos (.inr (by omega))]
    show mend (lineOf W fun _ => Cel.blank) = _
    rw [line_single fun _ => blank_single, show f + 1 + y = f + H by omega]
    exact lineOf_congr fun j _ => (bl j).symm
theorem Tape.below (h : Tape S W H R a x g wt) (hg : a + 2 - H - g ≤ 500) : Tape S.below W H R (a + 1) x g wt := by
  have ny := h.ny
  have yH := h.yH
  have H0 := h.H0
  unfold Scr.below
  rw [h.fin, h.h]
  by_cases hy : S.now.y + 1 = H
  · rw [if_pos hy]
    have n := h.ok.up (n := 1)
    have hk : S.keep 1 = { S with gone := latest (S.gone ++ [S.g0.row 0]) } := by
      unfold Scr.keep
      rw [if_pos ⟨h.top, h.alt⟩, h.fin, show (min (1 : Int) (H : Int)).toNat = 1 by omega]
      rfl
    have hu : S.up 1 = { S with gone := latest (S.gone ++ [S.g0.row 0]), g0 := S.g0.scroll 0 H 1 Cel.blank } := by
      unfold Scr.up
      rw [hk, h.top]
      unfold Scr.scroll Scr.setCur Scr.cur Scr.free
      simp only [h.alt, h.fin, h.pen, cond_false]
      rfl
    have hgone : (S.up 1).gone = latest (S.gone ++ [S.g0.row 0]) := by rw [hu]
    have hg0 : (S.up 1).g0 = S.g0.scroll 0 H 1 Cel.blank := by rw [hu]
    have e1 : a + 1 + 1 - H = a + 1 - H + 1 := by omega
    refine ⟨n.ok, n.w.trans h.w, n.h.trans h.h, by rw [hu]; exact h.alt, by rw [hu]; exact h.top, by rw [hu]; exact h.fin, by rw [hu]; exact h.wraps, by rw [hu]; exact h.shown, by rw [hu]; exact h.pen, by rw [hu]; exact h.nx, by rw [hu, e1]; show S.now.y + _ = _; omega, by rw [hu]; exact h.wt, ?_, ?_, by have := h.gl; omega, fun i j hi => h.bl i j (by omega), h.sg⟩
    · rw [hg0, h.g0, e1]
      have ok := h.ok
      rw [scroll_tape h.W0 (h.w ▸ ok.w1) H0 (h.h ▸ ok.h1) h.sg fun j => h.bl _ j (by omega)]
    · rw [hgone]
      have hr : S.g0.row 0 = lineOf W (R (a + 1 - H)) := by
        rw [h.g0, Gr.of_row (fun _ _ => lineOf_len _ _) H0]; rfl
      have hl := h.gl
      rw [hr, h.gn, e1, show a + 1 - H + 1 - g = (a + 1 - H - g) + 1 by omega, List.range'_concat, List.map_append]
      have e2 : g + 1 * (a + 1 - H - g) = a + 1 - H := by omega
      rw [e2]
      unfold latest
      have e3 : ((List.range' g (a + 1 - H - g)).map (fun y => lineOf W (R y)) ++ [lineOf W (R (a + 1 - H))]).length - 500 = 0 := by simp; omega
      rw [e3, List.drop_zero]
      rfl
  · rw [if_neg hy, if_pos (by omega)]
    have n := h.ok.at (x := S.now.x) (y := S.now.y + 1) h.ok.nx (by rw [h.h]; omega)
    have hH : a + 2 - H = a + 1 - H := by omega
    refine ⟨n.ok, h.w, h.h, h.alt, h.top, h.fin, h.wraps, h.shown, h.pen, h.nx, ?_, h.wt, ?_, ?_, ?_, fun i j hi => h.bl i j (by omega), h.sg⟩
    · show S.now.y + 1 + (a + 2 - H) = a + 1; omega
    · show S.g0 = _
      rw [h.g0, show a + 1 + 1 - H = a + 1 - H by omega]
    · show S.gone = _
      rw [h.gn, show a + 1 + 1 - H = a + 1 - H by omega]
    · have := h.gl; omega
theorem span_one {x n : Nat} (hx : x < n) (j : Nat) (hj : j < n) : ((spanG (x : Int) 1 n).1 ≤ (j : Int) ∧ (j : Int) < (spanG (x : Int) 1 n).2) ↔ j = x := by
  rw [spanG_mem (by omega) (by omega)]; omega
theorem put_one {f : Nat → Cel} {c : Cel} (hx : x < W) (hf : ∀ j, (f j).single = true) (hc : c.single = true) :
    ((⟨W, 1, lineOf W f⟩ : Gr).put x 0 [c]).cs = lineOf W fun j => if j = x then c else f j := by
  unfold Gr.put Gr.chg Gr.of
  show rowsOf _ 1 = _
  have e0 : (spanG (0 : Int) 1 ((1 : Nat) : Int)).1 ≤ ((0 : Nat) : Int) ∧ ((0 : Nat) : Int) < (spanG (0 : Int) 1 ((1 : Nat) : Int)).2 := (span_one (x := 0) (n := 1) (by omega) 0 (by omega)).2 rfl
  simp only [rowsOf, List.nil_append]
  rw [if_pos e0]
  have e : (lineOf W fun x' => if (spanG (x : Int) ([c].length : Nat) W).1 ≤ (x' : Int) ∧ (x' : Int) < (spanG (x : Int) ([c].length : Nat) W).2 then [c].getD ((x' : Int) - x).toNat Cel.none else (⟨W, 1, lineOf W f⟩ : Gr).at x' 0) = lineOf W fun j => if j = x then c else f j := by
    refine lineOf_congr fun j hj => ?_
    have e1 : ((spanG (x : Int) ([c].length : Nat) W).1 ≤ (j : Int) ∧ (j : Int) < (spanG (x : Int) ([c].length : Nat) W).2) ↔ j = x := span_one hx j hj
    by_cases hjx : j = x
    · rw [if_pos (e1.2 hjx), if_pos hjx, hjx]
      simp
    · rw [if_neg (fun h => hjx (e1.1 h)), if_neg hjx]
      unfold Gr.at
      show (lineOf W f).getD (0 * W + j) Cel.none = f j
      rw [List.getD_eq_getElem?_getD, Nat.zero_mul, Nat.zero_add, lineOf_get hj]
      rfl
  have h2 := line_single (W := W) (f := fun j => if j = x then c else f j) (fun j => by split <;> simp_all)
  show mend (lineOf W fun x' => if (spanG (x : Int) ([c].length : Nat) W).1 ≤ (x' : Int) ∧ (x' : Int) < (spanG (x : Int) ([c].length : Nat) W).2 then [c].getD ((x' : Int) - x).toNat Cel.none else (⟨W, 1, lineOf W f⟩ : Gr).at x' 0) = _
  rw [e, h2]
def upd (R : Nat → Nat → Cel) (a x : Nat) (c : Cel) : Nat → Nat → Cel := fun i j => if i = a ∧ j = x then c else R i j
def plainC (r : Int) : Cel := ⟨r, 0, 0, 0⟩
theorem Tape.lay (h : Tape S W H R a x g wt) {r : Int} (h0 : 32 ≤ r) (h1 : r < 127) (hx : x < W) : Tape (S.lay r 1) W H (upd R a x (plainC r)) a (if x + 1 = W then W - 1 else x + 1) g (decide (x + 1 = W)) := by
  have n := h.ok.lay (r := r) (n := 1) (by rw [h.nx, h.w]; omega)
  have hsg : (plainC r).single = true := by
    unfold Cel.single Cel.plain Cel.check Cel.tail Cel.wide plainC
    have : width r = 1 := by unfold width; rw [if_neg (by omega), if_pos h1]
    simp [this]
  have hmk : mkCel r S.now.pen = [plainC r] := by
    have : width r = 1 := by unfold width; rw [if_neg (by omega), if_pos h1]
    rw [h.pen]
    unfold mkCel
    rw [if_pos this]
    rfl
  have yH := h.yH
  have ny := h.ny
  have hline : S.line (fun g => g.put S.now.x 0 (mkCel r S.now.pen)) = { S with g0 := Gr.of W H fun y => lineOf W (upd R a x (plainC r) (a + 1 - H + y)) } := by
    unfold Scr.line Scr.setCur Scr.cur
    simp only [h.alt, cond_false, h.w, h.h, hmk, h.nx]
    congr 1
    refine Gr.of_congr fun y hy => ?_
    have hrow : ∀ y, y < H → S.g0.row y = lineOf W (R (a + 1 - H + y)) := fun y hy => by rw [h.g0, Gr.of_row (fun _ _ => lineOf_len _ _) hy]
    by_cases hya : y = S.now.y
    · rw [if_pos hya, hrow y hy, put_one hx (fun j => h.sg _ j) hsg]
      refine lineOf_congr fun j hj => ?_
      unfold upd
      by_cases hjx : j = x
      · rw [if_pos hjx, if_pos ⟨by omega, hjx⟩]
      · rw [if_neg hjx, if_neg fun h => hjx h.2]
    · rw [if_neg hya, hrow y hy]
      refine lineOf_congr fun j hj => ?_
      unfold upd
      rw [if_neg fun h => hya (by omega)]
  have sg' : ∀ i j, (upd R a x (plainC r) i j).single = true := fun i j => by unfold upd; split; exact hsg; exact h.sg _ _
  have bl' : ∀ i j, a < i → upd R a x (plainC r) i j = Cel.blank := fun i j hi => by unfold upd; rw [if_neg fun h => by omega]; exact h.bl i j hi
  have gn' : S.gone = (List.range' g (a + 1 - H - g)).map fun y => lineOf W (upd R a x (plainC r) y) := by
    rw [h.gn]
    refine List.map_congr_left fun y hy => lineOf_congr fun j hj => ?_
    have hy' := List.mem_range'_1.1 hy
    unfold upd
    rw [if_neg fun h => by omega]
  have hlay : S.lay r 1 = (if x + 1 = W then { ({ S with g0 := Gr.of W H fun y => lineOf W (upd R a x (plainC r) (a + 1 - H + y)) } : Scr).at (W - 1) S.now.y with waits := true } else { ({ S with g0 := Gr.of W H fun y => lineOf W (upd R a x (plainC r) (a + 1 - H + y)) } : Scr).at (x + 1) S.now.y with waits := false }) := by
    unfold Scr.lay
    dsimp only
    rw [hline, h.nx, h.w, h.wraps]
  by_cases hw : x + 1 = W
  · rw [if_pos hw] at hlay ⊢
    rw [hlay] at n ⊢
    rw [decide_eq_true hw]
    exact ⟨n.ok, h.w, h.h, h.alt, h.top, h.fin, h.wraps, h.shown, h.pen, rfl, h.ny, rfl, rfl, gn', h.gl, bl', sg'⟩
  · rw [if_neg hw] at hlay ⊢
    rw [hlay] at n ⊢
    rw [decide_eq_false hw]
    exact ⟨n.ok, h.w, h.h, h.alt, h.top, h.fin, h.wraps, h.shown, h.pen, rfl, h.ny, rfl, rfl, gn', h.gl, bl', sg'⟩
theorem Tape.print (h : Tape S W H R a x g false) {r : Int} (h0 : 32 ≤ r) (h1 : r < 127) (hx : x < W) : Tape (S.print r) W H (upd R a x (plainC r)) a (if x + 1 = W then W - 1 else x + 1) g (decide (x + 1 = W)) := by
  have hw : width r = 1 := by unfold width; rw [if_neg (by omega), if_pos h1]
  have e : S.print r = S.lay r 1 := by
    unfold Scr.print
    rw [hw, if_neg (by have := h.ok.w0; omega)]
    show ((S.wrapped).roomFor 1).lay r 1 = _
    have e1 : S.wrapped = S := by unfold Scr.wrapped; rw [h.wt]; rfl
    have e2 : S.roomFor 1 = S := by unfold Scr.roomFor; rw [h.w, h.nx, if_neg (by omega)]
    rw [e1, e2]
  rw [e]
  exact h.lay h0 h1 hx
theorem Tape.printW (h : Tape S W H R a x g true) (hg : a + 2 - H - g ≤ 500) {r : Int} (h0 : 32 ≤ r) (h1 : r < 127) : Tape (S.print r) W H (upd R (a + 1) 0 (plainC r)) (a + 1) (if 0 + 1 = W then W - 1 else 0 + 1) g (decide (0 + 1 = W)) := by
  have hw : width r = 1 := by unfold width; rw [if_neg (by omega), if_pos h1]
  have k := h.home.below hg
  have e : S.print r = (S.at 0 S.now.y).below.lay r 1 := by
    unfold Scr.print
    rw [hw, if_neg (by have := h.ok.w0; omega)]
    show ((S.wrapped).roomFor 1).lay r 1 = _
    have e1 : S.wrapped = (S.at 0 S.now.y).below := by unfold Scr.wrapped; rw [h.wt]; rfl
    have e2 : (S.at 0 S.now.y).below.roomFor 1 = (S.at 0 S.now.y).below := by unfold Scr.roomFor; rw [k.w, k.nx, if_neg (by have := h.W0; omega)]
    rw [e1, e2]
  rw [e]
  exact k.lay h0 h1 h.W0
end
end Lyc
namespace Lyc
open Go
theorem pair_inj {i a j x W : Nat} (hj : j < W) (hx : x < W) (h : i * W + j = a * W + x) : i = a ∧ j = x := by
  have h0 : 0 < W := by omega
  have h1 : (j + i * W) / W = (x + a * W) / W := by rw [Nat.add_comm j, Nat.add_comm x, h]
  rw [Nat.add_mul_div_right _ _ h0, Nat.add_mul_div_right _ _ h0, Nat.div_eq_of_lt hj, Nat.div_eq_of_lt hx] at h1
  have : i = a := by omega
  subst this
  exact ⟨rfl, by omega⟩
def laidC (t : List Int) (k i : Nat) : Cel := if i < k then plainC (t.getD i 0) else Cel.blank
structure Printed (S : Scr) (W H : Nat) (t : List Int) (k : Nat) (a x : Nat) (wt : Bool) (R : Nat → Nat → Cel) : Prop where
  tape : Tape S W H R a x 0 wt
  laid : ∀ i j, j < W → R i j = laidC t k (i * W + j)
  at1 : wt = true → x + 1 = W ∧ k = a * W + W
  at0 : wt = false → x < W ∧ k = a * W + x ∧ (x = 0 → k = 0)
theorem Printed.new {W H : Nat} {t : List Int} (W0 : 0 < W) (W1 : W ≤ 200) (H0 : 0 < H) (H1 : H ≤ 60) : Printed (Scr.new W H) W H t 0 0 0 false fun _ _ => Cel.blank :=
  ⟨Tape.new W0 W1 H0 H1, fun i j _ => by unfold laidC; rw [if_neg (by omega)], by simp, fun _ => ⟨W0, by omega, by simp⟩⟩
theorem laid_upd {W k a x : Nat} {t : List Int} {R : Nat → Nat → Cel} {r : Int} (hx : x < W) (hk : k = a * W + x) (hl : ∀ i j, j < W → R i j = laidC t k (i * W + j)) (hr : t.getD k 0 = r) : ∀ i j, j < W → upd R a x (plainC r) i j = laidC t (k + 1) (i * W + j) := by
  intro i j hj
  unfold upd
  by_cases h : i = a ∧ j = x
  · rw [if_pos h]
    obtain ⟨rfl, rfl⟩ := h
    unfold laidC
    rw [if_pos (by omega), ← hk, hr]
  · rw [if_neg h, hl i j hj]
    have : i * W + j ≠ k := fun e => h (pair_inj hj hx (e.trans hk))
    unfold laidC
    by_cases h2 : i * W + j < k
    · rw [if_pos h2, if_pos (by omega)]
    · rw [if_neg h2, if_neg (by omega)]
theorem Printed.step {S : Scr} {W H : Nat} {t : List Int} {k a x : Nat} {wt : Bool} {R : Nat → Nat → Cel} (h : Printed S W H t k a x wt R) (hk : k < 400) {r : Int} (hr : t.getD k 0 = r) (h0 : 32 ≤ r) (h1 : r < 127) :
    ∃ a' x' wt' R', Printed (S.print r) W H t (k + 1) a' x' wt' R' := by
  have W0 := h.tape.W0
  cases wt with
  | false =>
    obtain ⟨hx, hka, hx0⟩ := h.at0 rfl
    refine ⟨_, _, _, _, h.tape.print h0 h1 hx, laid_upd hx hka h.laid hr, fun e => ?_, fun e => ?_⟩
    · have := of_decide_eq_true e
      rw [if_pos this]
      omega
    · have := of_decide_eq_false e
      rw [if_neg this]
      omega
  | true =>
    obtain ⟨hx, hka⟩ := h.at1 rfl
    have ha : a ≤ k := by
      have := Nat.le_mul_of_pos_right a W0
      omega
    have hka' : k = (a + 1) * W + 0 := by rw [Nat.add_mul]; omega
    refine ⟨_, _, _, _, h.tape.printW (by omega) h0 h1, laid_upd W0 hka' h.laid hr, fun e => ?_, fun e => ?_⟩
    · have := of_decide_eq_true e
      rw [if_pos this]
      rw [Nat.add_mul]
      omega
    · have := of_decide_eq_false e
      rw [if_neg this]
      rw [Nat.add_mul]
      omega
theorem Printed.rows {S : Scr} {W H : Nat} {t : List Int} {k a x : Nat} {wt : Bool} {R : Nat → Nat → Cel} (h : Printed S W H t k a x wt R) : max (((k : Int) + W - 1).tdiv W) 1 = ((a + 1 : Nat) : Int) ∧ min ((k : Int) - (a * W : Nat)) ((W : Int) - 1) = x ∧ 0 ≤ ((k : Int) + W - 1).tdiv W ∧ ((k : Int) + W - 1).tdiv W ≤ k + W := by
  have W0 := h.tape.W0
  have e : ((k : Int) + W - 1).tdiv W = (((k + W - 1) / W : Nat) : Int) := by
    rw [show ((k : Int) + W - 1) = ((k + W - 1 : Nat) : Int) by omega]
    rfl
  rw [e]
  have hself := Nat.div_le_self (k + W - 1) W
  have key : ∀ d, d < W → (a * W + d + W) / W = a + 1 := by
    intro d hd
    rw [show a * W + d + W = d + (a + 1) * W by rw [Nat.add_mul]; omega, Nat.add_mul_div_right _ _ W0, Nat.div_eq_of_lt hd]
    omega
  cases wt with
  | true =>
    obtain ⟨hx, hka⟩ := h.at1 rfl
    have : (k + W - 1) / W = a + 1 := by
      rw [show k + W - 1 = a * W + (W - 1) + W by omega]
      exact key _ (by omega)
    rw [this] at hself ⊢
    omega
  | false =>
    obtain ⟨hx, hka, hx0⟩ := h.at0 rfl
    by_cases h0 : x = 0
    · have hk0 := hx0 h0
      have ha : a = 0 := by
        have := Nat.le_mul_of_pos_right a W0
        omega
      subst ha
      rw [hk0, show (0 + W - 1) / W = 0 from Nat.div_eq_of_lt (by omega)]
      omega
    · have : (k + W - 1) / W = a + 1 := by
        rw [show k + W - 1 = a * W + (x - 1) + W by omega]
        exact key _ (by omega)
      rw [this] at hself ⊢
      omega
end Lyc
namespace Go.Proofs.Ytjfembffjjijaaa
open Lyc Go
def letter (v : Int) : Int := 97 + bitV .and .i64 v 15
theorem letter_bd (v : Int) : 97 ≤ letter v ∧ letter v ≤ 112 := by
  have := and_bd v 15 (by omega) (by omega)
  unfold letter
  omega
theorem SAt.int_off {w : World} {s : Nat} {M : Scm} (h : SAt w s M) {b : Nat} {c : Array Value} {e : TypeId} {fr : Nat × Nat} (hb : w.heap[b]? = some (.cells c e fr)) (he : e = 21) : b ∉ s :: M.blk := by
  subst he
  intro hm
  simp only [Scm.blk, List.mem_cons] at hm
  rcases hm with rfl | rfl | rfl | hx
  · have h2 := h.hb
    unfold Scm.obj at h2
    rw [hb] at h2
    simp at h2
  · have h2 := h.h0; rw [hb] at h2; simp at h2
  · have h2 := h.h1; rw [hb] at h2; simp at h2
  · exact h.own.off hb rfl (by simpa using hx)
theorem printA_fits {r : Int} (h0 : 0 ≤ r) (h1 : r ≤ 200) : (printA r).fits := fits_of (by show (-2147483648 : Int) ≤ r; omega) (by show r ≤ 2147483647; omega) (Int.le_refl 0) (by show (0 : Int) ≤ 9; decide) zeros_ok
theorem act_print (S : Scr) (r : Int) : S.act (printA r) = S.print r := rfl
set_option maxHeartbeats 1000000 in
theorem sprints_c {w : World} {e : Option TypeId} {a : Option Addr} {l : List Int} (hs : Sx w e intF a l) (cap : Nat) (hml : l.length ≤ maxLen) (W H : Int) :
    Calls Try.prog 4 #[.agg #[.int .i64 W, .int .i64 H], .slice a l.length cap] w (retK fun v w' => v = .bool true ∧ Chg [] w w') := by
  simp only [maxLen] at hml
  obtain ⟨-, u0, u1⟩ := szN_eq (n := W) (m := 14) (by omega)
  obtain ⟨-, v0, v1⟩ := szN_eq (n := H) (m := 8) (by omega)
  apply lyceumlaw09_ScreenPrints_link
  intro K hK
  unfold lyceumlaw09_ScreenPrints
  simp -dsimp (disch := first | omega | (simp only [go_sem, seval]; first | done | omega)) only [go_sem, seval]
  refine OpX.gen fun w0 hw0 => ?_
  have hc0 : Chg [] w w0 := by rw [hw0]; exact chg_a1 _ _
  have hz0 : w0.heap[w.heap.size]? = some (.cells #[.int .i64 W, .int .i64 H] 23) := by rw [hw0]; simp -dsimp (disch := first | omega | (simp only [go_sem, seval]; first | done | omega)) only [go_sem, seval]
  clear hw0
  refine OpX.call lyceumlaw09_awake_b rfl (Calls.ret (awake09_c _) ?_)
  rintro v w1 ⟨rfl, hc1⟩
  have hz1 := hc1.keep hz0 (by simp)
  simp -dsimp (disch := first | omega | (simp only [go_sem, seval]; first | done | omega)) only [go_sem, seval, hz1]
  refine OpX.call lyceumlaw09_Size_size_b rfl (Calls.ret (size09_c _ W H) ?_)
  rintro v w2 ⟨rfl, hc2⟩
  generalize szN W 14 = X at *
  generalize szN H 8 = Y at *
  simp -dsimp (disch := first | omega | (simp only [go_sem, seval]; first | done | omega)) only [go_sem, seval]
  refine OpX.call screen_New_b rfl (Calls.ret (snew2_c w2 X Y (by omega) (by omega) (by omega) (by omega)) ?_)
  rintro v w3 ⟨s, M, rfl, hN, hS, hc3⟩
  have hc02 := (hc0.trans0 hc1).trans0 hc2
  have hc03 := hc02.trans0 hc3
  (try simp -dsimp (disch := first | omega | (simp only [go_sem, seval]; first | done | omega)) only [go_sem, seval])
  obtain ⟨n, hn⟩ : ∃ n : Nat, n = min l.length 200 := ⟨_, rfl⟩
  have hz2 := hc02.size
  have hz3 := hc3.size
  have en : min (l.length : Int) 200 = (n : Int) := by omega
  obtain ⟨t, ht⟩ : ∃ t, t = (l.take n).map letter := ⟨_, rfl⟩
  have htl : t.length = n := by rw [ht]; simp; omega
  rw [en]
  refine Loop2.st (fun q : Nat × Value => q.2) (fun q => .int .i64 q.1) (fun q w' => q.1 ≤ n ∧ Ox w3.heap.size w' 21 1 runeF q.2 (t.take q.1) ∧ Chg [] w3 w') (fun q => n - q.1) (0, .slice none 0 0) rfl rfl ⟨by simp, by simpa using Ox.nil _ _ _ _ _, Chg.refl _ _⟩ ?_
  rintro next ⟨k, u⟩ w4 hnx ⟨hk, ho, hc4⟩
  dsimp only at hk ho hc4 ⊢
  simp -dsimp (disch := first | omega | (simp only [go_sem, seval]; first | done | omega)) only [go_sem, seval]
  refine BrW.dec (fun h1 => ?_) (fun h1 => ?_)
  · have hk' : k < l.length := by omega
    obtain ⟨b, o, rfl, hbl, hcell⟩ := ((hs.chg0 hc03).chg0 hc4).get1 (g := fun n => .int .i64 n) (fun _ => rfl) (List.getElem?_eq_getElem hk')
    have hlb := letter_bd l[k]
    have htk : t[k]? = some (letter l[k]) := by rw [ht, List.getElem?_map, List.getElem?_take_of_lt (by omega), List.getElem?_eq_getElem hk']; rfl
    have e1 : (97 : Int) + bitV .and .i64 l[k] 15 = letter l[k] := rfl
    simp -dsimp (disch := first | omega | (simp only [go_sem, seval]; first | done | omega)) only [go_sem, seval, hcell, e1]
    refine app_x (l2 := [letter l[k]]) ty24ap runeF_len runeF_ok (ho.chg0 (chg_a1 _ _)) (Sx.built (c := runeF (letter l[k])) (by simp -dsimp (disch := first | omega | (simp only [go_sem, seval]; first | done | omega)) only [go_sem, seval]; rfl) (by simp)) rfl (by simp; omega) (by omega) (by have := hc4.size; simp -dsimp (disch := first | omega | (simp only [go_sem, seval]; first | done | omega)) only [go_sem, seval]; omega) ?_
    intro v' w5 ho5 hc5 _
    have hca : Chg u.ownBlock.toList w4 w5 := ((Chg.refl _ w4).alloc _).trans hc5 (fun x hx => .inl hx)
    have e2 : (k : Int) + 1 = ((k + 1 : Nat) : Int) := by omega
    (try simp -dsimp (disch := first | omega | (simp only [go_sem, seval]; first | done | omega)) only [go_sem, seval, e2])
    refine hnx (k + 1, v') _ ⟨by dsimp only; omega, ?_, own_chg' ho (Nat.le_refl _) hc4 hca⟩ (by dsimp only; omega)
    dsimp only
    rw [List.take_add_one, htk]
    exact ho5
  · have hkn : k = n := by omega
    subst hkn
    rw [List.take_of_length_le (by omega)] at ho
    obtain ⟨at1, ct1, rfl, -, hst, -, -⟩ := ho.form
    have hN4 := hN.chg0 hc4
    have hz4 := hc4.size
    have hP0 : ∃ a x wt R, Printed M.S X Y t 0 a x wt R := ⟨_, _, _, _, by rw [hS]; exact Printed.new (by omega) (by omega) (by omega) (by omega)⟩
    refine Loop1.st (fun q : Nat × Scm => .int .i64 q.1) (fun q w' => q.1 ≤ k ∧ Sx w' (some 21) runeF at1 t ∧ SNew w2.heap.size w' s X Y q.2 ∧ (∃ a x wt R, Printed q.2.S X Y t q.1 a x wt R) ∧ Chg [] w2 w') (fun q => k - q.1) (0, M) rfl ⟨by simp, hst, hN4, hP0, hc3.trans0 hc4⟩ ?_
    rintro next2 ⟨j, Mj⟩ wj hnx2 ⟨hj, hsj, hNj, hPj, hcj⟩
    dsimp only at hj hsj hNj hPj hcj ⊢
    simp -dsimp (disch := first | omega | (simp only [go_sem, seval]; first | done | omega)) only [go_sem, seval]
    refine BrW.dec (fun h2 => ?_) (fun h2 => ?_)
    · have hj' : j < t.length := by omega
      obtain ⟨b, o, rfl, hbl, hcell⟩ := hsj.get1 (g := fun n => .int .i32 n) (fun _ => rfl) (List.getElem?_eq_getElem hj')
      have htj : t.getD j 0 = t[j] := by rw [List.getD_eq_getElem?_getD, List.getElem?_eq_getElem hj']; rfl
      obtain ⟨r, hrr⟩ : ∃ r, r = t[j] := ⟨_, rfl⟩
      have hrb : 97 ≤ r ∧ r ≤ 112 := by
        have hm := List.getElem_mem hj'
        rw [← hrr, ht] at hm
        obtain ⟨z, -, hz⟩ := List.mem_map.1 hm
        rw [← hz]; exact letter_bd z
      rw [← hrr] at htj hcell
      simp -dsimp (disch := first | omega | (simp only [go_sem, seval]; first | done | omega)) only [go_sem, seval, hcell]
      refine OpX.gen fun w8 hw8 => ?_
      have hc8 : Chg [] wj w8 := by rw [hw8]; exact chg_a1 _ _
      have hb8 : w8.heap[wj.heap.size]? = some (.cells (printA r).cells.toArray 35) := by rw [hw8]; simp -dsimp (disch := first | omega | (simp only [go_sem, seval]; first | done | omega)) only [go_sem, seval, printA]
      clear hw8
      have hN8 := hNj.chg0 hc8
      have hzj := hcj.size
      have hz8 := hc8.size
      refine OpX.call screen_Screen_Do_b rfl (Calls.ret (sact_c hN8.at_ hN8.ok hb8 (printA_fits (by omega) (by omega))) ?_)
      rintro v w9 hd9
      obtain ⟨M9, hN9, hS9, hc9, -⟩ := hN8.did hd9 hN8.ok.act (by omega)
      rw [act_print] at hS9
      obtain ⟨pa, px, pw, pR, hP⟩ := hPj
      have e1 : (j : Int) + 1 = ((j + 1 : Nat) : Int) := by omega
      (try simp -dsimp (disch := first | omega | (simp only [go_sem, seval]; first | done | omega)) only [go_sem, seval, e1])
      refine hnx2 (j + 1, M9) _ ⟨by dsimp only; omega, ?_, hN9, ?_, (hcj.trans0 hc8).trans hc9 (fun x hx => .inr (hN8.lo x hx))⟩ (by dsimp only; omega)
      · refine (hsj.chg0 hc8).chg hc9 fun b' o' hb' hne hm => ?_
        have ht8 := (hsj.chg0 hc8).at_ hne
        obtain ⟨b2, o2, c2, e2, fr, pre, post, h1, h2, h3, -⟩ := ht8
        rw [hb'] at h1
        cases h1
        exact hN8.at_.int_off h2 (tagOk_some h3) hm
      · dsimp only
        rw [hS9]
        exact hP.step (by omega) htj (by omega) (by omega)
    · have hjk : j = k := by omega
      subst hjk
      obtain ⟨pa, px, pw, pR, hP⟩ := hPj
      obtain ⟨q1, q2, q3, q4⟩ := hP.rows
      obtain ⟨q, hq⟩ : ∃ q, q = ((j : Int) + X - 1).tdiv X := ⟨_, rfl⟩
      rw [← hq] at q1 q3 q4
      have hf : max (((pa + 1 : Nat) : Int) - Y) 0 = ((pa + 1 - Y : Nat) : Int) := by omega
      simp -dsimp (disch := first | omega | (simp only [go_sem, seval]; first | done | omega)) only [go_sem, seval, ← hq, q1, hf]
      rw [q1, hf]
      obtain ⟨f, hff⟩ : ∃ f, f = pa + 1 - Y := ⟨_, rfl⟩
      rw [← hff]
      have T := hP.tape
      refine OpX.call screen_Screen_Gone_b rfl (Calls.ret (sgone_c hNj.at_ hNj.ok.w0) ?_)
      rintro v w8 ⟨rfl, hA8, hc8⟩
      have hN8 := hNj.gone hA8
      have hrows : ∀ r ∈ Mj.rows, SxC w8 (some 39) r.a r.cs := fun r hr => (hNj.at_.rows r hr).chg hc8 fun b o ha hne => by simp; exact (hNj.at_.row_ne r hr b o ha hne).1
      have hown : Ox 0 w8 45 1 Rw.f Mj.gv Mj.rows := hNj.at_.own.chg hc8 fun b hb hm => by
        simp at hm; subst hm
        exact hNj.at_.s_own (by simp [← hb])
      have hgn : Mj.rows.map Rw.cs = (List.range' 0 f).map fun y => lineOf X (pR y) := by
        rw [← hNj.at_.gone, T.gn, hff]; rfl
      have hgl : Mj.rows.length = f := by have := congrArg List.length hgn; simpa using this
      have hrow : ∀ y (hy : y < Mj.rows.length), (Mj.rows[y]).cs = lineOf X (pR y) := by
        intro y hy
        have := congrArg (fun l => l[y]?) hgn
        simp [hy, show y < f by omega] at this
        exact this
      have hst8 : Sx w8 (some 21) runeF at1 t := hsj.chg hc8 fun b' o' hb' hne hm => by
        obtain ⟨b2, o2, c2, e2, fr, pre, post, h1, h2, h3, -⟩ := hsj.at_ hne
        rw [hb'] at h1
        cases h1
        exact hNj.at_.int_off h2 (tagOk_some h3) (by simp at hm; simp [hm])
      have hwp := hN8.ok.w0
      have hok8 := hN8.ok
      have hg8 : ∃ M8 : Scm, SAt w8 s M8 ∧ M8.S.ok ∧ M8.S.cur = Gr.of X Y (fun y => lineOf X (pR (f + y))) ∧ M8.S.now = Mj.S.now ∧ M8.S.shown = Mj.S.shown ∧ M8.S.w = X := ⟨_, hA8, hok8, by
        show (bif Mj.S.alt then Mj.S.g1 else Mj.S.g0) = _
        rw [T.alt, hff]; exact T.g0, rfl, rfl, hN8.w⟩
      obtain ⟨M8, hA8', ok8, hcur8, hnow8, hsh8, hw8⟩ := hg8
      have hc28 : Chg [] w2 w8 := hcj.trans hc8 (by simp; exact hNj.lo s (by simp))
      obtain ⟨gl, gc, hgv, -, hsg, -, -⟩ := hown.form
      have hGok := ok8.cur.ok
      rw [hcur8] at hGok
      rw [hgv]
      clear hN8 hok8 hA8 hown hgv hgn hNj hcj hsj hP0 hN4 hst ho hc4 hN
      have hpa : pa ≤ 200 := by
        have W0 := T.W0
        have hle := Nat.le_mul_of_pos_right pa W0
        cases hpw : pw with
        | true => have := hP.at1 hpw; omega
        | false => have := hP.at0 hpw; omega
      simp -dsimp (disch := first | omega | (simp only [go_sem, seval]; first | done | omega)) only [go_sem, seval, hgl]
      refine Loop1.st (fun q : Nat => .int .i64 q) (fun q w' => q ≤ pa + 1 ∧ Chg [] w8 w') (fun q => pa + 1 - q) 0 rfl ⟨by omega, Chg.refl _ _⟩ ?_
      rintro next3 y w9 hn3 ⟨hy, hc9⟩
      simp -dsimp (disch := first | omega | (simp only [go_sem, seval]; first | done | omega)) only [go_sem, seval]
      refine BrW.dec (fun h3 => ?_) (fun h3 => ?_)
      · have hy' : y < pa + 1 := by omega
        refine Loop1.st (fun q : Nat => .int .i64 q) (fun q w' => q ≤ X ∧ Chg [] w8 w') (fun q => X - q) 0 rfl ⟨by omega, hc9⟩ ?_
        rintro next4 x w10 hn4 ⟨hx, hc10⟩
        simp -dsimp (disch := first | omega | (simp only [go_sem, seval]; first | done | omega)) only [go_sem, seval]
        refine BrW.dec (fun h4 => ?_) (fun h4 => ?_)
        · have hx' : x < X := by omega
          have hyX : y * X ≤ 200 * X := Nat.mul_le_mul_right X (by omega)
          have e1 : (y : Int) * (X : Int) = ((y * X : Nat) : Int) := by simp
          have e2 : ((y * X : Nat) : Int) + (x : Int) = ((y * X + x : Nat) : Int) := by simp
          have hcl := hP.laid y x hx'
          refine Join0.cut (fun w' => Chg [] w8 w') ?_ ?_
          · refine Join1.cut (fun v w' => v = .int .i32 (pR y x).r ∧ w' = w10) ?_ ?_
            · simp -dsimp (disch := first | omega | (simp only [go_sem, seval]; first | done | omega)) only [go_sem, seval, e1, e2]
              rw [hcl]
              unfold laidC
              refine BrW.dec (fun h5 => ?_) (fun h5 => ?_)
              · have hi : y * X + x < t.length := by omega
                obtain ⟨b, o, rfl, hbl, hcell⟩ := (hst8.chg0 hc10).get1 (g := fun n => .int .i32 n) (fun _ => rfl) (List.getElem?_eq_getElem hi)
                rw [if_pos (by omega), List.getD_eq_getElem?_getD, List.getElem?_eq_getElem hi]
                simp -dsimp (disch := first | omega | (simp only [go_sem, seval]; first | done | omega)) only [go_sem, seval, e1, e2, hcell]
                rfl
              · rw [if_neg (by omega)]
                exact ⟨rfl, rfl⟩
            rintro v w11 ⟨rfl, rfl⟩
            simp -dsimp (disch := first | omega | (simp only [go_sem, seval]; first | done | omega)) only [go_sem, seval]
            refine BrW.dec (fun h5 => ?_) (fun h5 => ?_)
            · have hyr : y < Mj.rows.length := by omega
              obtain ⟨b, o, rfl, hbl, hcell⟩ := (hsg.chg0 hc10).get1 (g := Rw.val) (fun _ => rfl) (List.getElem?_eq_getElem hyr)
              have hrm := List.getElem_mem hyr
              have hsr := (hrows _ hrm).chg0 hc10
              have hcs := hrow y hyr
              generalize Mj.rows[y] = r at *
              have hrl : r.cs.length = X := by rw [hcs, lineOf_len]
              obtain ⟨b2, o2, hra, -, -, hce, -⟩ := SxC.cel hsr (i := x) (c := pR y x) (by rw [hcs, lineOf_get hx'])
              refine Join1.cut (fun v w' => v = .bool false ∧ w' = w11) ?_ ?_
              · simp -dsimp (disch := first | omega | (simp only [go_sem, seval]; first | done | omega)) only [go_sem, seval, hcell, Rw.val, hrl, hra, hce]
              rintro v w12 ⟨rfl, rfl⟩
              simp -dsimp (disch := first | omega | (simp only [go_sem, seval]; first | done | omega)) only [go_sem, seval]
              exact hc10
            · have hyf : f ≤ y := by omega
              refine OpX.call screen_Screen_Grid_b rfl (Calls.ret (sgrid_c (hA8'.chg0 hc10) ok8) ?_)
              rintro v w12 ⟨hg12, hc12⟩
              rw [hcur8] at hg12
              obtain ⟨nb, cp, rfl, p1, p2, p3, p4⟩ := hg12.sx
              have e3 : (y : Int) - (f : Int) = ((y - f : Nat) : Int) := by omega
              simp -dsimp (disch := first | omega | (simp only [go_sem, seval]; first | done | omega)) only [go_sem, seval, Gr.val, e3]
              refine OpX.call grid_At_b rfl (Calls.ret (gat_c hGok p4 cp x ((y - f : Nat) : Int)) ?_)
              rintro v w13 ⟨rfl, hc13⟩
              have hyY : y - f < Y := by omega
              have hat : (Gr.of X Y fun y => lineOf X (pR (f + y))).at x (y - f) = pR y x := by
                have h6 := hGok.row_get (x := x) (y := y - f) hx' hyY
                rw [Gr.of_row (fun _ _ => lineOf_len _ _) hyY, lineOf_get hx', show f + (y - f) = y by omega] at h6
                exact (Option.some.inj h6).symm
              rw [if_pos ⟨by omega, by show ((y - f : Nat) : Int) < (Y : Int); omega, by omega, by show (x : Int) < (X : Int); omega⟩]
              simp only [Int.toNat_natCast]
              rw [hat]
              simp -dsimp (disch := first | omega | (simp only [go_sem, seval]; first | done | omega)) only [go_sem, seval, Cel.val]
              exact (hc10.trans0 hc12).trans0 hc13
          · intro w11 hc11
            have e5 : (x : Int) + 1 = ((x + 1 : Nat) : Int) := by omega
            simp -dsimp (disch := first | omega | (simp only [go_sem, seval]; first | done | omega)) only [go_sem, seval, e5]
            exact hn4 (x + 1) _ ⟨by omega, hc11⟩ (by omega)
        · have e5 : (y : Int) + 1 = ((y + 1 : Nat) : Int) := by omega
          simp -dsimp (disch := first | omega | (simp only [go_sem, seval]; first | done | omega)) only [go_sem, seval, e5]
          exact hn3 (y + 1) _ ⟨by omega, hc10⟩ (by omega)
      · refine OpX.call screen_Screen_Cursor_b rfl (Calls.ret (scursor_c (hA8'.chg0 hc9) ok8.w0) ?_)
        rintro v w10 ⟨rfl, hc10⟩
        rw [hnow8, hsh8, T.shown, T.nx]
        have e1 : (((pa + 1 : Nat) : Int) - 1) * (X : Int) = ((pa * X : Nat) : Int) := by simp
        have hny := T.ny
        have hjx : pa * X ≤ j := by
          cases hpw : pw with
          | true => have := hP.at1 hpw; omega
          | false => have := hP.at0 hpw; omega
        simp -dsimp (disch := first | omega | (simp only [go_sem, seval]; first | done | omega)) only [go_sem, seval, e1, q2]
        refine Join1.cut (fun v w' => v = .bool true ∧ w' = w10) ?_ ?_
        · simp -dsimp (disch := first | omega | (simp only [go_sem, seval]; first | done | omega)) only [go_sem, seval, e1, q2]
          refine BrW.dec (fun _ => ?_) (fun h => absurd (by omega) h)
          simp -dsimp (disch := first | omega | (simp only [go_sem, seval]; first | done | omega)) only [go_sem, seval, q2]
        rintro v w11 ⟨rfl, rfl⟩
        exact hK _ _ ⟨rfl, ((hc02.trans0 hc28).trans0 hc9).trans0 hc10⟩
end Go.Proofs.Ytjfembffjjijaaa
