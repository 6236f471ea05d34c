/- The law KidsRoom, walked. -/
import Derived.Test.YtdjdeahmhenchaaKidsB
import Derived.Test.YtdjdeahmhenchaaLaw20
set_option linter.unusedSimpArgs false
set_option linter.unusedVariables false
namespace Go.Proofs.Ytdjdeahmhenchaa
open Lyc Go

structure Op20 where
  kind : Int
  id : Int
  far : Bool
def Op20.cells (o : Op20) : List Value := [.int .i64 o.kind, .int .i64 o.id, .bool o.far]
def Op20.no (o : Op20) : Int := if o.far then o.id else bitV .and .i64 o.id 7
theorem opid_c (w : World) (o : Op20) : Calls Try.prog 52 #[.agg #[.int .i64 o.kind, .int .i64 o.id, .bool o.far]] w (retK fun v w' => v = .int .i64 o.no ∧ Chg [] w w') := by
  apply lyceumlaw20_Op_id_link
  intro K hK
  unfold lyceumlaw20_Op_id
  cases hf : o.far with
  | true =>
    simp -dsimp (disch := first | omega | (simp only [go_sem, seval]; first | done | omega)) only [go_sem, seval]
    exact hK _ _ ⟨by simp [Op20.no, hf], chg_a1 _ _⟩
  | false =>
    simp -dsimp (disch := first | omega | (simp only [go_sem, seval]; first | done | omega)) only [go_sem, seval]
    exact hK _ _ ⟨by simp [Op20.no, hf], chg_a1 _ _⟩
theorem kadd_any {w : World} {k m : Nat} {T : Kt} (h : KAt w k m T) (hB : KBorn T) (id : Int) : Calls Try.prog 26 #[.pointer (some ⟨k, 0, none⟩), .int .i64 id] w
    (retK fun _ w' => ∃ T', KAt w' k m T' ∧ KBorn T' ∧ T'.room = T.room ∧ Chg (T.bs k m) w w' ∧ ∀ b ∈ T'.bs k m, b ∈ T.bs k m ∨ w.heap.size ≤ b) := by
  by_cases hid : 0 ≤ id ∧ id < 16
  · cases hf : T.find id with
    | some x =>
      refine Calls.ret (kadd_some h id hf) ?_
      rintro v w' ⟨-, hc, hT⟩
      have hx := (Kt.find_mem hf).1
      refine ⟨T.hear id, hT, hB.hear id, rfl, hc.mono (by simp only [List.mem_singleton]; rintro y rfl; left; simp only [Kt.bs, List.mem_cons, List.mem_flatMap, Kid.bs]; exact .inr (.inr ⟨x, hx, .inl rfl⟩)), fun b hb => .inl ?_⟩
      unfold Kt.bs Kt.hear at hb
      dsimp only at hb
      rw [hear_flat] at hb
      exact hb
    | none =>
      by_cases hr : T.kids.length < T.room
      · refine Calls.ret (kadd_new h id hid.1 hid.2 hf hr) ?_
        rintro v w' ⟨b, q, c, -, hb, hq, hcc, hc, hT⟩
        refine ⟨_, hT, hB.add id b q c, rfl, hc.mono (by simp only [List.mem_singleton]; rintro y rfl; left; simp [Kt.bs]), fun y hy => ?_⟩
        have key : (T.add id b q c).bs k m = T.bs k m ++ [b, q, c] := by simp [Kt.bs, Kt.add, Kid.bs]
        rw [key] at hy
        rcases List.mem_append.1 hy with hy | hy
        · exact .inl hy
        · simp at hy; right; omega
      · refine Calls.ret (kadd_full h id hid.1 hid.2 hf (by omega)) ?_
        rintro v w' ⟨-, hc⟩
        exact ⟨T, h.chg0 hc, hB, rfl, hc.mono (by simp), fun b hb => .inl hb⟩
  · refine Calls.ret (kadd_bad k id hid) ?_
    rintro v w' ⟨-, rfl⟩
    exact ⟨T, h, hB, rfl, Chg.refl _ _, fun b hb => .inl hb⟩

theorem room20_c {w : World} (room : Int) {v : Value} {len : Nat} {ops : Nat → Op20} (hv : SlA w v len 3 fun i => (ops i).cells) (hlen : len ≤ 9223372036854775807) :
    Calls Try.prog 13 #[.int .i64 room, v] w (retK fun v w' => v = .bool true ∧ Chg [] w w') := by
  apply lyceumlaw20_KidsRoom_link
  intro K hK
  unfold lyceumlaw20_KidsRoom
  refine OpX.call lyceumlaw20_awake_b rfl (Calls.ret (awake20_c w) ?_)
  rintro v1 w1 ⟨rfl, hc1⟩
  refine OpX.call kids_New_b rfl (Calls.ret (knew_c w1 room 2) ?_)
  rintro v2 w2 ⟨k, m, rfl, hk, hm, hc2, hT2⟩
  have hb2 := hc1.trans0 hc2
  have hs1 := hc1.size
  simp -dsimp (disch := first | omega | (simp only [go_sem, seval]; first | done | omega)) only [go_sem, seval]
  refine Loop1.st (fun s : Nat × Kt => .int .i64 s.1) (fun s w' => s.1 ≤ 80 ∧ s.1 ≤ len ∧ KAt w' k m s.2 ∧ KBorn s.2 ∧ s.2.room = min (max room 0) 15 ∧ (∀ b ∈ s.2.bs k m, w.heap.size ≤ b) ∧ Chg [] w w') (fun s => 80 - s.1) (0, Kt.new room 2) rfl ⟨by simp, by simp, hT2, KBorn.new _ _, rfl, by simp [Kt.bs, Kt.new]; omega, hb2⟩ ?_
  rintro next ⟨i, T⟩ w3 hn ⟨hi80, hil, hT, hB, hr, hbs, hc3⟩
  dsimp only at hi80 hil hT hB hr hbs ⊢
  refine Join1.cut (fun v w' => v = .bool (decide (i < len ∧ i < 80)) ∧ w' = w3) ?_ ?_
  · obtain ⟨a0, cap0, hve, -⟩ := hv
    rw [hve]
    simp -dsimp (disch := first | omega | (simp only [go_sem, seval]; first | done | omega)) only [go_sem, seval]
    refine BrW.dec (fun h1 => ?_) (fun h1 => ?_)
    · simp -dsimp (disch := first | omega | (simp only [go_sem, seval]; first | done | omega)) only [go_sem, seval]
      exact congrArg Value.bool (decide_eq_decide.2 (by omega))
    · exact ⟨congrArg Value.bool (decide_eq_false (by omega)).symm, rfl⟩
  rintro v w4 ⟨rfl, rfl⟩
  by_cases hin : i < len ∧ i < 80
  · rw [decide_eq_true hin]
    obtain ⟨a, cap, b, o, rfl, rfl, hb, hag⟩ := hv.at hc3 (by simp) i hin.1
    generalize ops i = op at hag
    have hag' : aggAt w4.heap[b]? (o + i * 3) 3 = some #[.int .i64 op.kind, .int .i64 op.id, .bool op.far] := hag
    simp -dsimp (disch := first | omega | (simp only [go_sem, seval]; first | done | omega)) only [go_sem, seval, hag']
    have hc5 := chg_a1 w4 (.cells #[.int .i64 op.kind, .int .i64 op.id, .bool op.far] 80)
    have ho5 : (w4.alloc (.cells #[.int .i64 op.kind, .int .i64 op.id, .bool op.far] 80)).heap[w4.heap.size]? = some (.cells #[.int .i64 op.kind, .int .i64 op.id, .bool op.far] 80) := by simp -dsimp (disch := first | omega | (simp only [go_sem, seval]; first | done | omega)) only [go_sem, seval]
    have hz5 : (w4.alloc (.cells #[.int .i64 op.kind, .int .i64 op.id, .bool op.far] 80)).heap.size = w4.heap.size + 1 := by simp -dsimp (disch := first | omega | (simp only [go_sem, seval]; first | done | omega)) only [go_sem, seval]
    generalize w4.alloc _ = w5 at hc5 ho5 hz5 ⊢
    have hT5 := hT.chg0 hc5
    have hc05 := hc3.trans0 hc5
    refine Join0.cut (fun w' => ∃ T', KAt w' k m T' ∧ KBorn T' ∧ T'.room = T.room ∧ (∀ b ∈ T'.bs k m, w.heap.size ≤ b) ∧ Chg [] w w') ?_ ?_
    · have hbd := and_bd op.kind 15 (by omega) (by omega)
      have hid := fun w' => opid_c w' op
      simp -dsimp (disch := first | omega | (simp only [go_sem, seval]; first | done | omega)) only [go_sem, seval, ho5]
      refine BrW.dec (fun h1 => ?_) (fun h1 => ?_)
      · simp -dsimp (disch := first | omega | (simp only [go_sem, seval]; first | done | omega)) only [go_sem, seval, ho5]
        refine OpX.call lyceumlaw20_Op_id_b rfl (Calls.ret (hid w5) ?_)
        rintro v w6 ⟨rfl, hc6⟩
        simp -dsimp (disch := first | omega | (simp only [go_sem, seval]; first | done | omega)) only [go_sem, seval]
        refine OpX.call kids_Kids_Drop_b rfl (Calls.ret (kdrop_c (hT5.chg0 hc6) op.no) ?_)
        rintro v w7 ⟨-, hc7, hT7⟩
        have hbm := hbs m (by simp [Kt.bs])
        exact ⟨_, hT7, hB.drop _, rfl, fun b hb => hbs b (drop_bs b hb), (hc05.trans0 hc6).trans hc7 (by simp; omega)⟩
      · simp -dsimp (disch := first | omega | (simp only [go_sem, seval]; first | done | omega)) only [go_sem, seval]
        refine BrW.dec (fun h2 => ?_) (fun h2 => ?_)
        · simp -dsimp (disch := first | omega | (simp only [go_sem, seval]; first | done | omega)) only [go_sem, seval]
          refine OpX.call kids_Kids_Tick_b rfl (Calls.ret (tick_c hT5 hB) ?_)
          rintro v w6 ⟨T', hT6, hB6, hr6, hc6, hb6⟩
          exact ⟨T', hT6, hB6, hr6, fun b hb => hbs b (hb6 b hb), hc05.trans hc6 (fun x hx => .inr (hbs x hx))⟩
        · simp -dsimp (disch := first | omega | (simp only [go_sem, seval]; first | done | omega)) only [go_sem, seval, ho5]
          refine OpX.call lyceumlaw20_Op_id_b rfl (Calls.ret (hid w5) ?_)
          rintro v w6 ⟨rfl, hc6⟩
          simp -dsimp (disch := first | omega | (simp only [go_sem, seval]; first | done | omega)) only [go_sem, seval]
          refine OpX.call kids_Kids_Add_b rfl (Calls.ret (kadd_any (hT5.chg0 hc6) hB op.no) ?_)
          rintro v w7 ⟨T', hT7, hB7, hr7, hc7, hb7⟩
          have hs6 := (hc05.trans0 hc6).size
          exact ⟨T', hT7, hB7, hr7, fun b hb => (hb7 b hb).elim (hbs b) (fun h => by omega), (hc05.trans0 hc6).trans hc7 (fun x hx => .inr (hbs x hx))⟩
    · rintro w6 ⟨S, hS, hSB, hSr, hSb, hc6⟩
      refine OpX.call kids_Kids_IDs_b rfl (Calls.ret (ids_c hS hSB) ?_)
      rintro v w7 ⟨ks, hp, hri, ho7, hc7⟩
      obtain ⟨a7, cap7, rfl, -, -⟩ := ho7.form
      have hS7 := hS.chg0 hc7
      have hkl : ks.length = S.kids.length := by rw [hp.length_eq]; simp
      have hfit := hS.fits
      have hrm : S.room = min (max room 0) 15 := hSr.trans hr
      have hmem : ∀ x ∈ ks, ∃ y, S.find x = some y := fun x hx => find_of_mem (hp.mem_iff.1 hx)
      refine Join1.cut (fun v w' => v = .bool false ∧ Chg [] w7 w') ?_ ?_
      · simp -dsimp (disch := first | omega | (simp only [go_sem, seval]; first | done | omega)) only [go_sem, seval]
        refine BrW.dec (fun h1 => by omega) (fun _ => ?_)
        refine OpX.call kids_Kids_Full_b rfl (Calls.ret (full_c hS7) ?_)
        rintro v w8 ⟨rfl, hc8⟩
        simp -dsimp (disch := first | omega | (simp only [go_sem, seval]; first | done | omega)) only [go_sem, seval]
        refine ⟨?_, hc8⟩
        rw [hkl, hrm]
        simp
      rintro v w8 ⟨rfl, hc8⟩
      simp -dsimp (disch := first | omega | (simp only [go_sem, seval]; first | done | omega)) only [go_sem, seval]
      have hS8 := hS7.chg0 hc8
      have ho8 := ho7.chg0 hc8
      have hc08 := (hc6.trans0 hc7).trans0 hc8
      refine Loop1.st (fun j : Nat => .int .i64 j) (fun j w' => j ≤ ks.length ∧ Chg [] w8 w') (fun j => ks.length - j) 0 rfl ⟨by simp, Chg.refl _ _⟩ ?_
      rintro next2 j w9 hn2 ⟨hj, hc9⟩
      have hS9 := hS8.chg0 hc9
      have ho9 := ho8.chg0 hc9
      simp -dsimp (disch := first | omega | (simp only [go_sem, seval]; first | done | omega)) only [go_sem, seval]
      refine BrW.dec (fun h1 => ?_) (fun h1 => ?_)
      · have hjl : j < ks.length := by omega
        obtain ⟨a9, cap9, hv9, -, hs9, -⟩ := ho9.form
        rw [Value.slice.injEq] at hv9
        obtain ⟨rfl, -, rfl⟩ := hv9
        obtain ⟨b9, o9, rfl, hb9, hcell⟩ := hs9.get1 (g := fun n => .int .i64 n) (fun _ => rfl) (List.getElem?_eq_getElem hjl)
        obtain ⟨y, hy⟩ := hmem _ (List.getElem_mem hjl)
        have hyo := hS.each y (Kt.find_mem hy).1
        have hyid := (Kt.find_mem hy).2
        have hy0 := hyo.id0
        have hy1 := hyo.id1
        have hlast : ∀ hc : Chg [] w9 w9.drew, Calls Try.prog 56 #[.pointer (some ⟨k, 0, none⟩), .int .i64 ks[j]] w9.drew (retK fun v w' => v = .bool true ∧ w9.drew = w') := by
          intro hc
          have := has_c (hS9.chg0 hc) ks[j]
          rw [hy] at this
          exact this
        have hlast' := hlast (Chg.refl _ _).drew
        clear hlast
        have hprev : ∀ h0 : 0 < j, cellAt w9.heap[b9]? (o9 + (j - 1)) = some (.int .i64 ks[j - 1]) ∧ ks[j - 1] < ks[j] := by
          intro h0
          obtain ⟨b', o', hbo, _, hc'⟩ := hs9.get1 (g := fun n => .int .i64 n) (fun _ => rfl) (List.getElem?_eq_getElem (show j - 1 < ks.length by omega))
          rw [Option.some.injEq, Addr.mk.injEq] at hbo
          obtain ⟨rfl, rfl, -⟩ := hbo
          exact ⟨hc', (List.pairwise_iff_getElem.1 hri) (j - 1) j (by omega) hjl (by omega)⟩
        rw [hyid] at hy0 hy1
        generalize hz : ks[j] = z at hcell hprev hlast' hy0 hy1
        refine Join1.cut (fun v w' => v = .bool false ∧ Chg [] w9 w') ?_ ?_
        · simp -dsimp (disch := first | omega | (simp only [go_sem, seval]; first | done | omega)) only [go_sem, seval]
          refine BrW.dec (fun h2 => ?_) (fun h2 => ?_)
          · obtain ⟨hp1, hp2⟩ := hprev (by omega)
            have ej : (j : Int) - 1 = ((j - 1 : Nat) : Int) := by omega
            simp -dsimp (disch := first | omega | (simp only [go_sem, seval]; first | done | omega)) only [go_sem, seval, ej, hp1, hcell]
            refine BrW.dec (fun h3 => by omega) (fun _ => ?_)
            simp -dsimp (disch := first | omega | (simp only [go_sem, seval]; first | done | omega)) only [go_sem, seval, hcell]
            refine BrW.dec (fun h3 => by omega) (fun _ => ?_)
            simp -dsimp (disch := first | omega | (simp only [go_sem, seval]; first | done | omega)) only [go_sem, seval, hcell]
            refine BrW.dec (fun h3 => by omega) (fun _ => ?_)
            simp -dsimp (disch := first | omega | (simp only [go_sem, seval]; first | done | omega)) only [go_sem, seval, hcell]
            refine OpX.call kids_Kids_Has_b rfl (Calls.ret (hlast') ?_)
            rintro v w10 ⟨rfl, rfl⟩
            simp -dsimp (disch := first | omega | (simp only [go_sem, seval]; first | done | omega)) only [go_sem, seval]
            exact (Chg.refl _ _).drew
          · simp -dsimp (disch := first | omega | (simp only [go_sem, seval]; first | done | omega)) only [go_sem, seval, hcell]
            refine BrW.dec (fun h3 => by omega) (fun _ => ?_)
            simp -dsimp (disch := first | omega | (simp only [go_sem, seval]; first | done | omega)) only [go_sem, seval, hcell]
            refine BrW.dec (fun h3 => by omega) (fun _ => ?_)
            simp -dsimp (disch := first | omega | (simp only [go_sem, seval]; first | done | omega)) only [go_sem, seval, hcell]
            refine OpX.call kids_Kids_Has_b rfl (Calls.ret (hlast') ?_)
            rintro v w10 ⟨rfl, rfl⟩
            simp -dsimp (disch := first | omega | (simp only [go_sem, seval]; first | done | omega)) only [go_sem, seval]
            exact (Chg.refl _ _).drew
        · rintro v w10 ⟨rfl, hc10⟩
          simp -dsimp (disch := first | omega | (simp only [go_sem, seval]; first | done | omega)) only [go_sem, seval]
          exact hn2 (j + 1) _ ⟨by omega, hc9.trans0 hc10⟩ (by omega)
      · simp -dsimp (disch := first | omega | (simp only [go_sem, seval]; first | done | omega)) only [go_sem, seval]
        exact hn (i + 1, S) _ ⟨by dsimp only; omega, by dsimp only; omega, hS9, hSB, hrm, hSb, hc08.trans0 hc9⟩ (by dsimp only; omega)
  · rw [decide_eq_false hin]
    simp -dsimp (disch := first | omega | (simp only [go_sem, seval]; first | done | omega)) only [go_sem, seval]
    exact hK _ _ ⟨rfl, hc3⟩
end Go.Proofs.Ytdjdeahmhenchaa
