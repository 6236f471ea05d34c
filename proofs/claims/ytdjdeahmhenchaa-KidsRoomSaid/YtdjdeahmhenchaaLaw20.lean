/- The laws of layer 20, walked: the example; KidsNil. -/
import Derived.Test.YtdjdeahmhenchaaKids
set_option linter.unusedSimpArgs false
set_option linter.unusedVariables false
namespace Go.Proofs.Ytdjdeahmhenchaa
open Lyc Go

theorem awake20_c (w : World) : Calls Try.prog 24 #[] w (retK fun v w' => v = .bool true ∧ Chg [] w w') := by
  apply lyceumlaw20_awake_link
  intro K hK
  unfold lyceumlaw20_awake
  refine OpX.call kids_New_b rfl (Calls.ret (knew_c w 1 2) ?_)
  rintro v w1 ⟨k, m, rfl, hk, hm, hc1, hT1⟩
  try simp -dsimp (disch := first | omega | (simp only [go_sem, seval]; first | done | omega)) only [go_sem, seval]
  refine OpX.call kids_Kids_Add_b rfl (Calls.ret (kadd_new hT1 3 (by omega) (by omega) rfl (by simp [Kt.new]; decide)) ?_)
  rintro v w2 ⟨b, q, c, rfl, hb, hq, hc, hc2, hT2⟩
  try simp -dsimp (disch := first | omega | (simp only [go_sem, seval]; first | done | omega)) only [go_sem, seval]
  refine OpX.call kids_Kids_Add_b rfl (Calls.ret (kadd_full hT2 4 (by omega) (by omega) (by simp [Kt.find, Kt.add, Kt.new]) (by simp [Kt.add, Kt.new]; decide)) ?_)
  rintro v w3 ⟨rfl, hc3⟩
  have hT3 := hT2.chg0 hc3
  have hf : ((Kt.new 1 2).add 3 b q c).find 3 = some ⟨3, b, q, c, 0, 0, Qs.new 2⟩ := by simp [Kt.find, Kt.add, Kt.new]
  try simp -dsimp (disch := first | omega | (simp only [go_sem, seval]; first | done | omega)) only [go_sem, seval]
  refine OpX.call kids_Kids_Add_b rfl (Calls.ret (kadd_some hT3 3 hf) ?_)
  rintro v w4 ⟨rfl, hc4, hT4⟩
  refine Join1.inl ?_
  simp -dsimp (disch := first | omega | (simp only [go_sem, seval]; first | done | omega)) only [go_sem, seval]
  refine OpX.call kids_Kids_Has_b rfl (Calls.ret (has_c hT4 3) ?_)
  rintro v w5 ⟨hv, rfl⟩
  have hf2 : (((Kt.new 1 2).add 3 b q c).hear 3).find 3 = some ⟨3, b, q, c, 0, 0, Qs.new 2⟩ := by simp [Kt.find, Kt.add, Kt.new, Kt.hear, Kid.heard]
  rw [hf2] at hv
  subst hv
  simp -dsimp (disch := first | omega | (simp only [go_sem, seval]; first | done | omega)) only [go_sem, seval]
  refine OpX.call kids_Kids_Full_b rfl (Calls.ret (full_c hT4) ?_)
  rintro v w6 ⟨rfl, hc6⟩
  refine hK _ _ ⟨by simp [Kt.add, Kt.new, Kt.hear]; decide, ((((hc1.trans hc2 ?_).trans0 hc3).trans hc4 ?_).trans0 hc6)⟩
  · simp; omega
  · have := hc1.size
    simp; omega

theorem ids_nil (w : World) : Calls Try.prog 54 #[.pointer none] w (retK fun v w' => v = .slice none 0 0 ∧ w = w') := by
  apply kids_Kids_IDs_link
  intro K hK
  unfold kids_Kids_IDs
  simp -dsimp (disch := first | omega | (simp only [go_sem, seval]; first | done | omega)) only [go_sem, seval]
  exact hK _ _ ⟨rfl, rfl⟩
theorem tick_nil (w : World) : Calls Try.prog 53 #[.pointer none] w (retK fun v w' => v = .slice none 0 0 ∧ w = w') := by
  apply kids_Kids_Tick_link
  intro K hK
  unfold kids_Kids_Tick
  refine OpX.call kids_Kids_IDs_b rfl (Calls.ret (ids_nil w) ?_)
  rintro v w1 ⟨rfl, rfl⟩
  simp -dsimp (disch := first | omega | (simp only [go_sem, seval]; first | done | omega)) only [go_sem, seval]
  refine Loop2.st (St := Unit) (fun _ => .slice none 0 0) (fun _ => .int .i64 0) (fun _ w' => w' = w) (fun _ => 0) () rfl rfl rfl ?_
  rintro next _ w1 - rfl
  simp -dsimp (disch := first | omega | (simp only [go_sem, seval]; first | done | omega)) only [go_sem, seval]
  exact hK _ _ ⟨rfl, rfl⟩
theorem knext_nil (w : World) : Calls Try.prog 59 #[.pointer none] w (retK fun v w' => v = .int .i64 0 ∧ w = w') := by
  apply kids_Kids_Next_link
  intro K hK
  unfold kids_Kids_Next
  refine OpX.call kids_Kids_IDs_b rfl (Calls.ret (ids_nil w) ?_)
  rintro v w1 ⟨rfl, rfl⟩
  simp -dsimp (disch := first | omega | (simp only [go_sem, seval]; first | done | omega)) only [go_sem, seval]
  exact hK _ _ ⟨rfl, rfl⟩
theorem kdrop_nil (w : World) (id : Int) : Calls Try.prog 28 #[.pointer none, .int .i64 id] w (retK fun v w' => v = .bool false ∧ w = w') := by
  apply kids_Kids_Drop_link
  intro K hK
  unfold kids_Kids_Drop
  refine OpX.call kids_Kids_Has_b rfl (Calls.ret (has_nil w id) ?_)
  rintro v w1 ⟨rfl, rfl⟩
  simp -dsimp (disch := first | omega | (simp only [go_sem, seval]; first | done | omega)) only [go_sem, seval]
  exact hK _ _ ⟨rfl, rfl⟩
theorem kqueue_nil (w : World) (id : Int) : Calls Try.prog 27 #[.pointer none, .int .i64 id] w (retK fun v w' => v = .pointer none ∧ w = w') := by
  apply kids_Kids_Queue_link
  intro K hK
  unfold kids_Kids_Queue
  refine OpX.call kids_Kids_Has_b rfl (Calls.ret (has_nil w id) ?_)
  rintro v w1 ⟨rfl, rfl⟩
  simp -dsimp (disch := first | omega | (simp only [go_sem, seval]; first | done | omega)) only [go_sem, seval]
  exact hK _ _ ⟨rfl, rfl⟩
theorem heard_nil (w : World) (id : Int) : Calls Try.prog 57 #[.pointer none, .int .i64 id] w (retK fun v w' => v = .tuple #[] ∧ w = w') := by
  apply kids_Kids_Heard_link
  intro K hK
  unfold kids_Kids_Heard
  simp -dsimp (disch := first | omega | (simp only [go_sem, seval]; first | done | omega)) only [go_sem, seval]
  exact hK _ _ ⟨rfl, rfl⟩
theorem kclear_nil (w : World) : Calls Try.prog 58 #[.pointer none] w (retK fun v w' => v = .tuple #[] ∧ w = w') := by
  apply kids_Kids_Clear_link
  intro K hK
  unfold kids_Kids_Clear
  simp -dsimp (disch := first | omega | (simp only [go_sem, seval]; first | done | omega)) only [go_sem, seval]
  exact hK _ _ ⟨rfl, rfl⟩

theorem nil20_c (w : World) (id : Int) : Calls Try.prog 14 #[.int .i64 id] w (retK fun v w' => v = .bool true ∧ Chg [] w w') := by
  apply lyceumlaw20_KidsNil_link
  intro K hK
  unfold lyceumlaw20_KidsNil
  refine OpX.call kids_Kids_Heard_b rfl (Calls.ret (heard_nil w id) ?_)
  rintro v w1 ⟨rfl, rfl⟩
  refine OpX.call kids_Kids_Clear_b rfl (Calls.ret (kclear_nil w) ?_)
  rintro v w1 ⟨rfl, rfl⟩
  refine Join1.inl ?_
  refine OpX.call lyceumlaw20_awake_b rfl (Calls.ret (awake20_c w) ?_)
  rintro v w1 ⟨rfl, hc1⟩
  simp -dsimp (disch := first | omega | (simp only [go_sem, seval]; first | done | omega)) only [go_sem, seval]
  refine OpX.call kids_Kids_Add_b rfl (Calls.ret (kadd_nil w1 id) ?_)
  rintro v w2 ⟨rfl, rfl⟩
  simp -dsimp (disch := first | omega | (simp only [go_sem, seval]; first | done | omega)) only [go_sem, seval]
  refine OpX.call kids_Kids_Drop_b rfl (Calls.ret (kdrop_nil w1 id) ?_)
  rintro v w2 ⟨rfl, rfl⟩
  simp -dsimp (disch := first | omega | (simp only [go_sem, seval]; first | done | omega)) only [go_sem, seval]
  refine OpX.call kids_Kids_Has_b rfl (Calls.ret (has_nil w1 id) ?_)
  rintro v w2 ⟨rfl, rfl⟩
  simp -dsimp (disch := first | omega | (simp only [go_sem, seval]; first | done | omega)) only [go_sem, seval]
  refine OpX.call kids_Kids_Tick_b rfl (Calls.ret (tick_nil w1) ?_)
  rintro v w2 ⟨rfl, rfl⟩
  simp -dsimp (disch := first | omega | (simp only [go_sem, seval]; first | done | omega)) only [go_sem, seval]
  refine OpX.call kids_Kids_IDs_b rfl (Calls.ret (ids_nil w1) ?_)
  rintro v w2 ⟨rfl, rfl⟩
  simp -dsimp (disch := first | omega | (simp only [go_sem, seval]; first | done | omega)) only [go_sem, seval]
  refine OpX.call kids_Kids_Queue_b rfl (Calls.ret (kqueue_nil w1 id) ?_)
  rintro v w2 ⟨rfl, rfl⟩
  try simp -dsimp (disch := first | omega | (simp only [go_sem, seval]; first | done | omega)) only [go_sem, seval]
  refine OpX.call queue_Queue_Len_b rfl (Calls.ret (len_nil w1) ?_)
  rintro v w2 ⟨rfl, rfl⟩
  simp -dsimp (disch := first | omega | (simp only [go_sem, seval]; first | done | omega)) only [go_sem, seval]
  refine OpX.call kids_Kids_Full_b rfl (Calls.ret (full_nil w1) ?_)
  rintro v w2 ⟨rfl, hc2⟩
  simp -dsimp (disch := first | omega | (simp only [go_sem, seval]; first | done | omega)) only [go_sem, seval]
  refine OpX.call kids_Kids_Next_b rfl (Calls.ret (knext_nil w2) ?_)
  rintro v w3 ⟨rfl, rfl⟩
  simp -dsimp (disch := first | omega | (simp only [go_sem, seval]; first | done | omega)) only [go_sem, seval]
  exact hK _ _ ⟨rfl, hc1.trans0 hc2⟩
end Go.Proofs.Ytdjdeahmhenchaa
