/- The contracts of package history: a ring of rows. -/
import Derived.Test.YtdjdeahmhenchaaW4
import Derived.Test.YtdjdeahmhenchaaCell
set_option linter.unusedSimpArgs false
set_option linter.unusedVariables false
namespace Go.Proofs.Ytdjdeahmhenchaa
open Lyc Go

/-- A row that is kept: where it lies, its room, its cells. -/
structure Rw where
  a : Option Addr
  cap : Nat
  cs : List Cel
def Rw.f (r : Rw) : List Value := [.slice r.a r.cs.length r.cap]
def Rw.val (r : Rw) : Value := .slice r.a r.cs.length r.cap
theorem Rw.len (r : Rw) : r.f.length = 1 := rfl
theorem Rw.ok (r : Rw) : okCells r.f = true := rfl

/-- A history: its room, its first row's place, where its rows' array lies, its rows. -/
structure Hs where
  room : Nat
  first : Nat
  a : Option Addr
  cap : Nat
  all : List Rw
def Hs.v (H : Hs) : Value := .slice H.a H.all.length H.cap
def rot {α : Type} (n : Nat) (l : List α) : List α := l.drop n ++ l.take n
/-- Its rows, the oldest one first. -/
def Hs.list (H : Hs) : List (List Cel) := (rot H.first H.all).map Rw.cs
def Hs.blk (H : Hs) : List Nat := H.v.ownBlock.toList
structure HAt (w : World) (h : Nat) (H : Hs) : Prop where
  hb : w.heap[h]? = some (.cells #[.int .i64 H.room, .int .i64 H.first, H.v] 99)
  own : Ox 0 w 45 1 Rw.f H.v H.all
  rows : ∀ r ∈ H.all, SxC w (some 44) r.a r.cs
  room1 : H.room ≤ 500
  fit : H.all.length ≤ H.room
  first1 : H.first = 0 ∨ H.first < H.room
  first0 : H.all.length < H.room → H.first = 0

theorem rot_len {α : Type} (n : Nat) (l : List α) : (rot n l).length = l.length := by
  unfold rot; simp; omega
theorem Hs.list_len (H : Hs) : H.list.length = H.all.length := by simp [Hs.list, rot_len]
theorem rot_get {α : Type} {n : Nat} {l : List α} (hn : n < l.length) (i : Nat) (hi : i < l.length) : (rot n l)[i]? = l[(n + i) % l.length]? := by
  unfold rot
  by_cases h : n + i < l.length
  · rw [Nat.mod_eq_of_lt h, List.getElem?_append_left (by simp; omega), List.getElem?_drop]
  · rw [List.getElem?_append_right (by simp; omega), List.getElem?_take, if_pos (by simp; omega)]
    congr 1
    simp
    rw [Nat.mod_eq_sub_mod (by omega), Nat.mod_eq_of_lt (by omega)]
    omega
theorem rot_set {α : Type} {n : Nat} {l : List α} (hn : n < l.length) (x : α) : rot ((n + 1) % l.length) (l.set n x) = (rot n l).tail ++ [x] := by
  have hd : l.drop n = l[n] :: l.drop (n + 1) := List.drop_eq_getElem_cons hn
  have ht : (rot n l).tail = l.drop (n + 1) ++ l.take n := by unfold rot; rw [hd]; rfl
  rw [ht]
  unfold rot
  by_cases h : n + 1 < l.length
  · rw [Nat.mod_eq_of_lt h, List.drop_set_of_lt (by omega), List.take_add_one, List.take_set_of_le (Nat.le_refl _), List.getElem?_set_self hn]
    simp
  · have : n + 1 = l.length := by omega
    rw [this, Nat.mod_self, List.drop_eq_nil_of_le (Nat.le_refl _)]
    simp only [List.drop_zero, List.take_zero, List.append_nil, List.nil_append]
    have e : l = l.take n ++ [l[n]] := by
      have := List.take_append_drop n l
      rw [hd, List.drop_eq_nil_of_le (by omega : l.length ≤ n + 1)] at this
      exact this.symm
    conv => lhs; rw [e]
    rw [List.set_append_right _ _ (by simp; omega)]
    have h0 : n - (l.take n).length = 0 := by simp; omega
    rw [h0]; simp

/-- What a push leaves. -/
def pushed (room : Nat) (l : List (List Cel)) (x : List Cel) : List (List Cel) := if room = 0 then l else if l.length < room then l ++ [x] else l.tail ++ [x]

theorem HAt.tags {w : World} {h : Nat} {H : Hs} (hh : HAt w h H) : ∀ x ∈ h :: H.blk, ∃ c e' fr, w.heap[x]? = some (.cells c e' fr) ∧ Nat.beq e' 44 = false := by
  intro x hx
  rcases List.mem_cons.1 hx with rfl | hx
  · exact ⟨_, _, _, hh.hb, rfl⟩
  · obtain ⟨hl, ho⟩ := hh.own
    rcases ho with ⟨hv, -⟩ | ⟨g, cap, cur, hv, -, hg, -⟩
    · rw [Hs.blk, hv] at hx; simp [Value.ownBlock] at hx
    · rw [Hs.blk, hv] at hx; simp [Value.ownBlock] at hx
      subst hx
      exact ⟨_, _, _, hg, rfl⟩
theorem HAt.blk_lt {w : World} {h : Nat} {H : Hs} (hh : HAt w h H) : ∀ x ∈ h :: H.blk, x < w.heap.size := by
  intro x hx
  obtain ⟨c, e, fr, h1, -⟩ := hh.tags x hx
  exact lt_of_heap h1
/-- Rows of cells stay, whatever a history changes of its own. -/
theorem HAt.keeps {w w' : World} {h : Nat} {H : Hs} (hh : HAt w h H) (hc : Chg (h :: H.blk) w w') {a : Option Addr} {l : List Cel} (hs : SxC w (some 44) a l) : SxC w' (some 44) a l := by
  refine hs.chg hc fun b o ha hl hm => ?_
  obtain ⟨c, e, fr, h1, h2⟩ := hh.tags b hm
  exact hs.ne ha hl h1 h2 rfl
theorem HAt.ne {w : World} {h : Nat} {H : Hs} (hh : HAt w h H) : h ∉ H.blk := by
  intro hx
  obtain ⟨hl, ho⟩ := hh.own
  rcases ho with ⟨hv, -⟩ | ⟨g, cap, cur, hv, -, hg, -⟩
  · rw [Hs.blk, hv] at hx; simp [Value.ownBlock] at hx
  · rw [Hs.blk, hv] at hx; simp [Value.ownBlock] at hx
    subst hx
    rw [hh.hb] at hg
    simp at hg
theorem HAt.chg {w w' : World} {h : Nat} {H : Hs} {F : List Nat} (hh : HAt w h H) (hc : Chg F w w') (hF : ∀ x ∈ h :: H.blk, x ∉ F) (hr : ∀ r ∈ H.all, ∀ b o, r.a = some ⟨b, o, none⟩ → r.cs ≠ [] → b ∉ F) : HAt w' h H :=
  ⟨hc.keep hh.hb (hF h (by simp)), hh.own.chg hc fun b hb => hF b (by simp [Hs.blk, ← hb]), fun r hr' => (hh.rows r hr').chg hc (hr r hr'), hh.room1, hh.fit, hh.first1, hh.first0⟩
theorem HAt.chg0 {w w' : World} {h : Nat} {H : Hs} (hh : HAt w h H) (hc : Chg [] w w') : HAt w' h H := hh.chg hc (by simp) (by simp)

theorem hnew_c (w : World) (room : Int) : Calls Try.prog 30 #[.int .i64 room] w (retK fun v w' => ∃ H, v = .pointer (some ⟨w.heap.size, 0, none⟩) ∧ HAt w' w.heap.size H ∧ H.blk = [] ∧ H.list = [] ∧ H.room = (min (max room 0) 500).toNat ∧ Chg [] w w') := by
  apply history_New_link
  intro K hK
  unfold history_New
  simp -dsimp (disch := first | omega | (simp only [go_sem, seval]; first | done | omega)) only [go_sem, seval]
  refine hK _ _ ⟨⟨(min (max room 0) 500).toNat, 0, none, 0, []⟩, rfl, ⟨?_, Ox.nil _ _ _ _ _, by simp, by dsimp only; omega, by simp, .inl rfl, fun _ => rfl⟩, rfl, rfl, rfl, ?_⟩
  · have : (((min (max room 0) 500).toNat : Nat) : Int) = min (max room 0) 500 := by omega
    simp -dsimp (disch := first | omega | (simp only [go_sem, seval]; first | done | omega)) only [go_sem, seval, this]
    rfl
  · exact (Chg.refl [] w).alloc _

theorem size_c {w : World} {h : Nat} {H : Hs} (hh : HAt w h H) : Calls Try.prog 66 #[.pointer (some ⟨h, 0, none⟩)] w (retK fun v w' => v = .int .i64 H.list.length ∧ w' = w) := by
  have hb := hh.hb
  apply history_ring_api_Cell_size_link
  intro K hK
  unfold history_ring_api_Cell_size
  simp -dsimp (disch := first | omega | (simp only [go_sem, seval]; first | done | omega)) only [go_sem, seval, hb, Hs.v]
  exact hK _ _ ⟨by rw [H.list_len], rfl⟩
theorem hlen_c {w : World} {h : Nat} {H : Hs} (hh : HAt w h H) : Calls Try.prog 32 #[.pointer (some ⟨h, 0, none⟩)] w (retK fun v w' => v = .int .i64 H.list.length ∧ w' = w) := by
  apply history_History_Len_link
  intro K hK
  unfold history_History_Len
  simp -dsimp (disch := first | omega | (simp only [go_sem, seval]; first | done | omega)) only [go_sem, seval]
  refine OpX.call history_ring_api_Cell_size_b rfl (Calls.ret (size_c hh) ?_)
  rintro v w1 ⟨rfl, rfl⟩
  exact hK _ _ ⟨rfl, rfl⟩
theorem hlen_nil (w : World) : Calls Try.prog 32 #[.pointer none] w (retK fun v w' => v = .int .i64 0 ∧ w' = w) := by
  apply history_History_Len_link
  intro K hK
  unfold history_History_Len
  simp -dsimp (disch := first | omega | (simp only [go_sem, seval]; first | done | omega)) only [go_sem, seval]
  exact hK _ _ ⟨rfl, rfl⟩

theorem empty_c {w : World} {h : Nat} {H : Hs} (hh : HAt w h H) : Calls Try.prog 69 #[.pointer (some ⟨h, 0, none⟩)] w (retK fun v w' => HAt w' h ⟨H.room, 0, none, 0, []⟩ ∧ Chg [h] w w') := by
  have hb := hh.hb
  have hlt := lt_of_heap hb
  apply history_ring_api_Cell_empty_link
  intro K hK
  unfold history_ring_api_Cell_empty
  simp -dsimp (disch := first | omega | (simp only [go_sem, seval]; first | done | omega)) only [go_sem, seval, hb]
  refine hK _ _ ⟨⟨by simp -dsimp (disch := first | omega | (simp only [go_sem, seval]; first | done | omega)) only [go_sem, seval]; rfl, Ox.nil _ _ _ _ _, by simp, hh.room1, by simp, .inl rfl, fun _ => rfl⟩, (Chg.refl _ _).set _ _ (by simp)⟩
theorem hclear_c {w : World} {h : Nat} {H : Hs} (hh : HAt w h H) : Calls Try.prog 36 #[.pointer (some ⟨h, 0, none⟩)] w (retK fun v w' => ∃ H', HAt w' h H' ∧ H'.room = H.room ∧ H'.list = [] ∧ H'.blk = [] ∧ Chg [h] w w') := by
  apply history_History_Clear_link
  intro K hK
  unfold history_History_Clear
  simp -dsimp (disch := first | omega | (simp only [go_sem, seval]; first | done | omega)) only [go_sem, seval]
  refine OpX.call history_ring_api_Cell_empty_b rfl (Calls.ret (empty_c hh) ?_)
  rintro v w1 ⟨h1, h2⟩
  exact hK _ _ ⟨_, h1, rfl, rfl, rfl, h2⟩

theorem hat_none {w : World} {h : Nat} {H : Hs} (hh : HAt w h H) (i : Int) (hi : i < 0 ∨ H.list.length ≤ i) : Calls Try.prog 67 #[.pointer (some ⟨h, 0, none⟩), .int .i64 i] w (retK fun v w' => v = .tuple #[.slice none 0 0, .bool false] ∧ Chg [] w w') := by
  have hb := hh.hb
  rw [H.list_len] at hi
  apply history_ring_api_Cell_at_link
  intro K hK
  unfold history_ring_api_Cell_at
  refine Join1.inl ?_
  simp -dsimp (disch := first | omega | (simp only [go_sem, seval]; first | done | omega)) only [go_sem, seval]
  refine BrW.dec (fun h1 => ?_) (fun h1 => ?_)
  · simp -dsimp (disch := first | omega | (simp only [go_sem, seval]; first | done | omega)) only [go_sem, seval]
    exact hK _ _ ⟨rfl, Chg.refl _ _⟩
  · simp -dsimp (disch := first | omega | (simp only [go_sem, seval]; first | done | omega)) only [go_sem, seval, hb, Hs.v]
    refine BrW.dec (fun h2 => ?_) (fun h2 => absurd hi (by omega))
    exact hK _ _ ⟨rfl, Chg.refl _ _⟩
theorem tmod_nat (a b : Nat) (x : Int) (hx : x = a) : x.tmod b = ((a % b : Nat) : Int) := by subst hx; rfl
theorem hat_some {w : World} {h : Nat} {H : Hs} (hh : HAt w h H) (i : Nat) (hi : i < H.list.length) : Calls Try.prog 67 #[.pointer (some ⟨h, 0, none⟩), .int .i64 i] w
    (retK fun v w' => ∃ r : Rw, v = .tuple #[r.val, .bool true] ∧ H.list[i]? = some r.cs ∧ SxC w' (some 44) r.a r.cs ∧ r ∈ H.all ∧ Chg [] w w') := by
  have hb := hh.hb
  rw [H.list_len] at hi
  have hfit := hh.fit
  have hroom := hh.room1
  have hf : H.first < H.all.length := by
    rcases hh.first1 with h1 | h1
    · omega
    · by_cases hl : H.all.length < H.room
      · have := hh.first0 hl; omega
      · omega
  have hj : (H.first + i) % H.all.length < H.all.length := Nat.mod_lt _ (by omega)
  obtain ⟨a, cap, hv, -, hsx, -⟩ := hh.own.form
  obtain ⟨b, o, ha, hb2, hcell⟩ := hsx.get1 (g := Rw.val) (fun _ => rfl) (List.getElem?_eq_getElem hj)
  have hv2 : H.v = .slice (some ⟨b, o, none⟩) H.all.length cap := by rw [hv, ha]
  rw [hv2] at hb
  apply history_ring_api_Cell_at_link
  intro K hK
  unfold history_ring_api_Cell_at
  refine Join1.inl ?_
  simp -dsimp (disch := first | omega | (simp only [go_sem, seval]; first | done | omega)) only [go_sem, seval]
  refine BrW.dec (fun h1 => absurd h1 (by omega)) (fun h1 => ?_)
  simp -dsimp (disch := first | omega | (simp only [go_sem, seval]; first | done | omega)) only [go_sem, seval, hb]
  refine BrW.dec (fun h1 => absurd h1 (by omega)) (fun h1 => ?_)
  have hmod : ((H.first : Int) + (i : Int)).tmod (H.all.length : Int) = (((H.first + i) % H.all.length : Nat) : Int) := tmod_nat _ _ _ (by omega)
  simp -dsimp (disch := first | omega | (simp only [go_sem, seval]; first | done | omega)) only [go_sem, seval, hb, hmod, hcell]
  refine hK _ _ ⟨H.all[(H.first + i) % H.all.length], rfl, ?_, (hh.rows _ (List.getElem_mem _)).chg0 (Chg.refl _ _).drew, List.getElem_mem _, (Chg.refl _ _).drew⟩
  rw [Hs.list, List.getElem?_map, rot_get hf i hi, List.getElem?_eq_getElem hj]
  rfl

theorem hrow_none {w : World} {h : Nat} {H : Hs} (hh : HAt w h H) (i : Int) (hi : i < 0 ∨ H.list.length ≤ i) : Calls Try.prog 33 #[.pointer (some ⟨h, 0, none⟩), .int .i64 i] w (retK fun v w' => v = .slice none 0 0 ∧ Chg [] w w') := by
  apply history_History_Row_link
  intro K hK
  unfold history_History_Row
  simp -dsimp (disch := first | omega | (simp only [go_sem, seval]; first | done | omega)) only [go_sem, seval]
  refine OpX.call history_ring_api_Cell_at_b rfl (Calls.ret (hat_none hh i hi) ?_)
  rintro v w1 ⟨rfl, hc⟩
  simp -dsimp (disch := first | omega | (simp only [go_sem, seval]; first | done | omega)) only [go_sem, seval]
  exact hK _ _ ⟨rfl, hc⟩
theorem hrow_some {w : World} {h : Nat} {H : Hs} (hh : HAt w h H) (i : Nat) (hi : i < H.list.length) (hlen : ∀ r ∈ H.list, r.length ≤ 100000) : Calls Try.prog 33 #[.pointer (some ⟨h, 0, none⟩), .int .i64 i] w (retK fun v w' => ∃ r, H.list[i]? = some r ∧ Ox w.heap.size w' 44 4 Cel.cells v r ∧ Chg [] w w') := by
  apply history_History_Row_link
  intro K hK
  unfold history_History_Row
  simp -dsimp (disch := first | omega | (simp only [go_sem, seval]; first | done | omega)) only [go_sem, seval]
  refine OpX.call history_ring_api_Cell_at_b rfl (Calls.ret (hat_some hh i hi) ?_)
  rintro v w1 ⟨r, rfl, hr, hs, hm, hc⟩
  have hl : r.cs.length ≤ 100000 := hlen _ (List.mem_of_getElem? hr)
  simp -dsimp (disch := first | omega | (simp only [go_sem, seval]; first | done | omega)) only [go_sem, seval, Rw.val]
  refine app_x (l := []) ty45ap Cel.len Cel.ok (Ox.nil w.heap.size _ _ _ _) hs rfl (by simp; omega) (by omega) hc.size ?_
  intro v' w' ho hc' _
  exact hK _ _ ⟨r.cs, hr, by simpa using ho, hc.trans0 hc'⟩

theorem put_c {w : World} {h : Nat} {H : Hs} (hh : HAt w h H) (r : Rw) (hr : SxC w (some 44) r.a r.cs) : Calls Try.prog 64 #[.pointer (some ⟨h, 0, none⟩), r.val] w
    (retK fun v w' => ∃ H', HAt w' h H' ∧ H'.room = H.room ∧ H'.list = pushed H.room H.list r.cs ∧ Chg (h :: H.blk) w w' ∧ ∀ b ∈ H'.blk, b ∈ H.blk ∨ w.heap.size ≤ b) := by
  have hb := hh.hb
  have hlt := lt_of_heap hb
  have hfit := hh.fit
  have hroom := hh.room1
  have hne := hh.ne
  apply history_ring_api_Cell_put_link
  intro K hK
  unfold history_ring_api_Cell_put
  simp -dsimp (disch := first | omega | (simp only [go_sem, seval]; first | done | omega)) only [go_sem, seval, hb]
  refine BrW.dec (fun h1 => ?_) (fun h1 => ?_)
  · refine hK _ _ ⟨H, hh, rfl, ?_, Chg.refl _ _, fun b hb => .inl hb⟩
    simp [pushed, show H.room = 0 by omega]
  · simp -dsimp (disch := first | omega | (simp only [go_sem, seval]; first | done | omega)) only [go_sem, seval, hb, Hs.v]
    refine BrW.dec (fun h2 => ?_) (fun h2 => ?_)
    · have hc0 := ((Chg.refl [] w).drew).alloc (.cells #[r.val] 45)
      have ho0 := hh.own.chg0 hc0
      simp -dsimp (disch := first | omega | (simp only [go_sem, seval]; first | done | omega)) only [go_sem, seval, hb, Hs.v, Rw.val]
      refine app_x (f := Rw.f) (l2 := [r]) ty95ap Rw.len Rw.ok ho0 (e' := some 45) (Sx.built (c := r.f) (by simp -dsimp (disch := first | omega | (simp only [go_sem, seval]; first | done | omega)) only [go_sem, seval]; rfl) (by simp)) rfl (by simp; omega) (by omega) (by omega) ?_
      intro v' w' ho hc hat
      have hc2 : Chg H.blk w w' := (hc0.mono (by simp)).trans hc (by intro x hx; exact .inl hx)
      have hb2 := hc2.keep hb hne
      have hlt2 := lt_of_heap hb2
      obtain ⟨a', cap', hv', -, -, hblk, -⟩ := ho.form
      subst hv'
      simp -dsimp (disch := first | omega | (simp only [go_sem, seval]; first | done | omega)) only [go_sem, seval, hb2]
      have hla : (H.all ++ [r]).length = H.all.length + 1 := by simp
      have hf0 := hh.first0 (by omega)
      generalize hw2 : setBlk w' h _ = w2
      have hc3 : Chg [h] w' w2 := by rw [← hw2]; exact (Chg.refl _ _).set _ _ (by simp)
      have hc4 : Chg (h :: H.blk) w w2 := (hc2.mono (by simp; intro x hx; exact .inl (.inr hx))).trans hc3 (by simp)
      have hb3 : w2.heap[h]? = some (.cells #[.int .i64 H.room, .int .i64 H.first, .slice a' (H.all ++ [r]).length cap'] 99) := by rw [← hw2]; simp -dsimp (disch := first | omega | (simp only [go_sem, seval]; first | done | omega)) only [go_sem, seval]
      refine hK _ _ ⟨⟨H.room, H.first, a', cap', H.all ++ [r]⟩, ⟨hb3, ho.chg hc3 (fun b hbb => ?_), ?_, hroom, by dsimp only; omega, hh.first1, fun h => hf0⟩, rfl, ?_, hc4, ?_⟩
      · intro hm
        simp at hm
        subst hm
        rcases hat with h7 | h7
        · exact hne (by rw [Hs.blk, Hs.v, ← h7, ← hbb]; simp)
        · rw [← hbb] at h7; simp at h7; omega
      · intro x hx
        rcases List.mem_append.1 hx with hx | hx
        · exact hh.keeps hc4 (hh.rows x hx)
        · simp at hx; subst hx
          exact hh.keeps hc4 hr
      · have e1 : pushed H.room H.list r.cs = H.list ++ [r.cs] := by rw [pushed, if_neg (by omega), if_pos (by rw [H.list_len]; omega)]
        rw [e1]
        simp [Hs.list, hf0, rot]
      · intro b hb
        simp only [Hs.blk, Hs.v] at hb
        rcases hat with h7 | h7
        · left; rw [Hs.blk, Hs.v, ← h7]; exact hb
        · right; rw [h7] at hb; simp at hb; omega
    · have hfull : H.all.length = H.room := by omega
      have hf : H.first < H.all.length := by have := hh.first1; omega
      obtain ⟨g, cp, x', hv, hg, hgl, hput, ho2⟩ := hh.own.put Rw.len hf r
      have hv1 : H.a = some ⟨g, 0, none⟩ := by have := hv; simp [Hs.v] at this; exact this.1
      have hput' : putAt w.heap[g]? H.first [.slice r.a r.cs.length r.cap] = some x' := by simpa [Rw.f] using hput
      have hgb : g ∈ H.blk := by rw [Hs.blk, hv]; simp [Value.ownBlock]
      have hgh : h ≠ g := fun e => hne (e ▸ hgb)
      have hmod : ((H.first : Int) + 1).tmod (H.room : Int) = (((H.first + 1) % H.room : Nat) : Int) := tmod_nat _ _ _ (by omega)
      simp -dsimp (disch := first | omega | (simp only [go_sem, seval]; first | done | omega)) only [go_sem, seval, hb, Hs.v, hv1, Rw.val, hput', hmod]
      generalize hw2 : (setBlk (setBlk w g x') h _).drew.drew.drew = w2
      have hc2 : Chg (h :: H.blk) w w2 := by rw [← hw2]; exact ((((Chg.refl _ _).set _ _ (by simp [hgb])).set _ _ (by simp)).drew).drew.drew
      have hc3 : Chg [h] (setBlk w g x') w2 := by rw [← hw2]; exact (((Chg.refl _ _).set _ _ (by simp)).drew).drew.drew
      have hmlt := Nat.mod_lt (H.first + 1) (show 0 < H.room by omega)
      refine hK _ _ ⟨⟨H.room, (H.first + 1) % H.room, H.a, H.cap, H.all.set H.first r⟩, ⟨?_, ?_, ?_, hroom, by simpa using hfit, .inr hmlt, fun h9 => ?_⟩, rfl, ?_, hc2, ?_⟩
      · rw [← hw2]
        simp only [heap_drew]
        rw [heap_set_same _ _ _ _ rfl (by rw [size_setBlk]; exact hlt), Hs.v, hv1]
        simp
      · refine Ox.chg (w := setBlk w g x') ?_ hc3 fun b hbb => ?_
        · have e : (⟨H.room, (H.first + 1) % H.room, H.a, H.cap, H.all.set H.first r⟩ : Hs).v = H.v := by simp [Hs.v]
          rw [e]; exact ho2
        · intro hm
          simp at hm; subst hm
          apply hne
          have e : (⟨H.room, (H.first + 1) % H.room, H.a, H.cap, H.all.set H.first r⟩ : Hs).v = H.v := by simp [Hs.v]
          rw [e] at hbb
          rw [Hs.blk, ← hbb]; simp
      · intro x hx
        rcases List.mem_or_eq_of_mem_set hx with hx | rfl
        · exact hh.keeps hc2 (hh.rows x hx)
        · exact hh.keeps hc2 hr
      · simp at h9; omega
      · have e1 : pushed H.room H.list r.cs = H.list.tail ++ [r.cs] := by rw [pushed, if_neg (by omega), if_neg (by rw [H.list_len]; omega)]
        rw [e1]
        have := rot_set hf r
        rw [hfull] at this
        simp only [Hs.list]
        rw [this]
        simp [List.map_tail]
      · intro b hbb
        left
        have e : (⟨H.room, (H.first + 1) % H.room, H.a, H.cap, H.all.set H.first r⟩ : Hs).v = H.v := by simp [Hs.v]
        rw [Hs.blk, e] at hbb
        exact hbb

/-- A row that is like another one. -/
def pushAll (room : Nat) (l : List (List Cel)) (xs : List (List Cel)) : List (List Cel) := xs.foldl (fun l x => pushed room l (mend x)) l
theorem push_c {w : World} {h : Nat} {H : Hs} (hh : HAt w h H) {e : Option TypeId} {a : Option Addr} {rs : List Rw} (ha : Sx w e Rw.f a rs) (hab : ∀ b o, a = some ⟨b, o, none⟩ → b ∉ h :: H.blk) (hr : ∀ r ∈ rs, SxC w (some 44) r.a r.cs) (hl : ∀ r ∈ rs, r.cs.length ≤ 100000) (hlr : rs.length ≤ 1000000) (cap : Nat) :
    Calls Try.prog 31 #[.pointer (some ⟨h, 0, none⟩), .slice a rs.length cap] w
    (retK fun v w' => ∃ H', HAt w' h H' ∧ H'.room = H.room ∧ H'.list = pushAll H.room H.list (rs.map Rw.cs) ∧ Chg (h :: H.blk) w w' ∧ ∀ b ∈ H'.blk, b ∈ H.blk ∨ w.heap.size ≤ b) := by
  apply history_History_Push_link
  intro K hK
  unfold history_History_Push
  simp -dsimp (disch := first | omega | (simp only [go_sem, seval]; first | done | omega)) only [go_sem, seval]
  refine Loop1.st (fun s : Nat × Hs => .int .i64 s.1) (fun s w' => s.1 ≤ rs.length ∧ HAt w' h s.2 ∧ s.2.room = H.room ∧ s.2.list = pushAll H.room H.list ((rs.take s.1).map Rw.cs) ∧ Chg (h :: H.blk) w w' ∧ ∀ b ∈ s.2.blk, b ∈ H.blk ∨ w.heap.size ≤ b) (fun s => rs.length - s.1) (0, H) rfl ⟨by simp, hh, rfl, rfl, Chg.refl _ _, fun b hb => .inl hb⟩ ?_
  rintro next ⟨k, G⟩ w' hn ⟨hk, hG, hroom, hlist, hc, hblk⟩
  dsimp only at hk hG hroom hlist hblk ⊢
  simp -dsimp (disch := first | omega | (simp only [go_sem, seval]; first | done | omega)) only [go_sem, seval]
  refine BrW.dec (fun h1 => ?_) (fun h1 => ?_)
  · have hk' : k < rs.length := by omega
    have hgl := hh.blk_lt
    have ha' : Sx w' e Rw.f a rs := ha.chg hc fun b o hb _ => hab b o hb
    obtain ⟨b, o, rfl, hb, hcell⟩ := ha'.get1 (g := Rw.val) (fun _ => rfl) (List.getElem?_eq_getElem hk')
    have hrk : SxC w' (some 44) rs[k].a rs[k].cs := hh.keeps hc (hr _ (List.getElem_mem _))
    simp -dsimp (disch := first | omega | (simp only [go_sem, seval]; first | done | omega)) only [go_sem, seval, hcell, Rw.val]
    refine OpX.call cell_Mend_b rfl (Calls.ret (mend_c (hrk.chg0 (Chg.refl _ _).drew) rs[k].cap (hl _ (List.getElem_mem _))) ?_)
    rintro v w1 ⟨ho, hc1⟩
    have hc1' : Chg [] w' w1 := (Chg.refl _ _).drew.trans0 hc1
    obtain ⟨a1, cap1, rfl, hcp, hs1, -, -⟩ := ho.form
    have hc2 : Chg (h :: H.blk) w w1 := hc.trans0 hc1'
    refine OpX.call history_ring_api_Cell_put_b rfl (Calls.ret (put_c (hG.chg0 hc1') ⟨a1, cap1, mend rs[k].cs⟩ hs1) ?_)
    rintro v w2 ⟨G', hG', hroom', hlist', hc3, hblk'⟩
    simp -dsimp (disch := first | omega | (simp only [go_sem, seval]; first | done | omega)) only [go_sem, seval]
    refine hn (k + 1, G') _ ⟨by dsimp only; omega, hG', hroom'.trans hroom, ?_, ?_, ?_⟩ (by dsimp only; omega)
    · dsimp only
      rw [hlist', hlist, hroom, List.take_add_one, List.getElem?_eq_getElem hk']
      simp only [Option.toList, List.map_append, List.map_cons, List.map_nil, pushAll, List.foldl_append, List.foldl_cons, List.foldl_nil]
    · refine hc2.trans hc3 fun x hx => ?_
      rcases List.mem_cons.1 hx with rfl | hx
      · exact .inl (by simp)
      · rcases hblk x hx with h7 | h7
        · exact .inl (by simp [h7])
        · exact .inr h7
    · intro b hb
      dsimp only at hb
      rcases hblk' b hb with h7 | h7
      · exact hblk b h7
      · right; have := hc2.size; omega
  · have hk' : k = rs.length := by omega
    subst hk'
    rw [List.take_length] at hlist
    exact hK _ _ ⟨G, hG, hroom, hlist, hc, hblk⟩
theorem push_nil (w : World) (v : Value) : Calls Try.prog 31 #[.pointer none, v] w (retK fun v w' => w' = w) := by
  apply history_History_Push_link
  intro K hK
  unfold history_History_Push
  simp -dsimp (disch := first | omega | (simp only [go_sem, seval]; first | done | omega)) only [go_sem, seval]
  exact hK _ _ rfl
end Go.Proofs.Ytdjdeahmhenchaa
