/- Helpers of this claim, part 5: engine, translated functions, contracts, plain laws. -/
import Derived.Test.YtelplojmbjnplaaGreatDoorB4
set_option linter.unusedSimpArgs false
set_option linter.unusedVariables false
namespace Go.Proofs.YtelplojmbjnplaaGreatDoor
open Lyc Go
def Bw (T : Nat → Bool) : List Value := (List.range 10).map fun j => Value.bool (T j)
theorem El (T : Nat → Bool) : (Bw T).length = 10 := by simp [Bw]
theorem ED {T : Nat → Bool} {i : Nat} (h : i < 10) : (Bw T)[i]? = some (.bool (T i)) := by
  unfold Bw
  rw [List.getElem?_map, List.getElem?_range h]; rfl
theorem Ig {T : Nat → Bool} {i : Nat} (h : i < 10) (v : Bool) : (Bw T).take i ++ [Value.bool v] ++ (Bw T).drop (i + 1) = Bw (fun j => if j = i then v else T j) := by
  apply List.ext_getElem?
  intro k
  have hl : ((Bw T).take i).length = i := by rw [List.length_take, El]; omega
  by_cases hk : k < 10
  · rw [ED hk]
    rcases Nat.lt_trichotomy k i with h1 | h1 | h1
    · rw [List.append_assoc, List.getElem?_append_left (by omega), List.getElem?_take, if_pos h1, ED hk, if_neg (by omega)]
    · subst h1
      rw [List.append_assoc, List.getElem?_append_right (by omega), hl]
      simp
    · rw [List.getElem?_append_right (by rw [List.length_append, hl]; simp; omega), List.length_append, hl, List.getElem?_drop, show i + 1 + (k - (i + [Value.bool v].length)) = k by simp; omega, ED hk, if_neg (by omega)]
  · rw [List.getElem?_eq_none (by rw [List.length_append, List.length_append, hl, List.length_drop, El]; simp; omega), List.getElem?_eq_none (by rw [El]; omega)]
theorem Ol (n : Nat) : Br (n + 1) = Br n ++ [(n : Int) + 1] := by
  unfold Br
  rw [List.range_succ, List.map_append]; rfl
theorem Sw {m : Nat} : ∀ {n : Nat}, m ≤ n → ∃ l, Br n = Br m ++ l := by
  intro n
  induction n with
  | zero => intro h; obtain rfl : m = 0 := by omega
            exact ⟨[], by simp⟩
  | succ n ih =>
    intro h
    rcases Nat.lt_or_ge n m with h1 | h1
    · obtain rfl : m = n + 1 := by omega
      exact ⟨[], by simp⟩
    · obtain ⟨l, e⟩ := ih h1
      exact ⟨l ++ [(n : Int) + 1], by rw [Ol, e, List.append_assoc]⟩
theorem WM {ids ks : List Int} (h : B8 ks) (hp : ks.Perm ids) (hb : ∀ x ∈ ids, 1 ≤ x ∧ x ≤ 9) : ks = (Br 9).filter (fun x => decide (x ∈ ids)) := by
  have hr : B8 ((Br 9).filter fun x => decide (x ∈ ids)) := List.Pairwise.filter _ (QY 9)
  refine XR h hr ((List.perm_ext_iff_of_nodup (h.imp fun h => by omega) (hr.imp fun h => by omega)).2 fun x => ?_)
  rw [hp.mem_iff, List.mem_filter, WD, decide_eq_true_iff]
  exact ⟨fun h => ⟨hb x h, h⟩, fun h => h.2⟩
theorem P4 : Bv false false [2, 120] = ⟨false, false, [⟨5, 0, []⟩], []⟩ := rfl
structure Wd (base : Nat) (w0 w : World) (s t : Nat) (S : Ss) (T : Nat → Bool) (i : Nat) : Prop where
  A : SsAt base w s S
  ok : S.ok (1 + 5000 * i)
  one : ∀ W ∈ S.wins, ∃ t, W.L.root = .pane t 1
  pre : S.pre = false
  cop : S.cop = false
  far : ¬S.own s t
  arr : w.heap[t]? = some (.cells (Bw T).toArray 70)
  tru : ∀ j : Nat, 1 ≤ j → j ≤ 9 → (T j = true ↔ (j : Int) ∈ S.wins.map (·.n))
  chg : Chg [] w0 w
theorem Wd.chg0 {base : Nat} {w0 w w' : World} {s t : Nat} {S : Ss} {T : Nat → Bool} {i : Nat} (h : Wd base w0 w s t S T i) (hc : Chg [] w w') : Wd base w0 w' s t S T i :=
  ⟨h.A.chg0 hc, h.ok, h.one, h.pre, h.cop, h.far, hc.keep h.arr (by simp), h.tru, h.chg.trans0 hc⟩
theorem Wd.put {base : Nat} {w0 w : World} {s t : Nat} {S : Ss} {T : Nat → Bool} {i k : Nat} (h : Wd base w0 w s t S T i) (hk : k < 10) (v : Bool) : Az w.heap[t]? k [.bool v] = some (.cells (Bw fun j => if j = k then v else T j).toArray 70) := by
  rw [h.arr, CW, if_pos (by rw [List.size_toArray, El]; simp; omega), E3]
  rw [show k + [Value.bool v].length = k + 1 from rfl, Ig hk]
theorem Wd.read {base : Nat} {w0 w : World} {s t : Nat} {S : Ss} {T : Nat → Bool} {i k : Nat} (h : Wd base w0 w s t S T i) (hk : k < 10) : Av w.heap[t]? k = some (.bool (T k)) := by
  rw [h.arr]
  show (Bw T).toArray[k]? = _
  rw [List.getElem?_toArray, ED hk]
theorem PU (w : World) (x y row : Int) (hL : Cx w) : Calls Tryz.prog 7 #[.agg #[.int .i64 x, .int .i64 y], .int .u64 row] w
    (Ac fun v w' => v = .bool true ∧ Chg [] w w') := by
  apply XL
  intro K hK
  unfold JS
  simp -dsimp (disch := first | omega | (simp only [go_sem, seval]; first | done | omega)) only [go_sem, seval]
  have hca := AE w (.cells #[.int .i64 x, .int .i64 y] 23)
  have haz : (w.alloc (.cells #[.int .i64 x, .int .i64 y] 23)).heap[w.heap.size]? = some (.cells #[.int .i64 x, .int .i64 y] 23) := by simp -dsimp (disch := first | omega | (simp only [go_sem, seval]; first | done | omega)) only [go_sem, seval]
  generalize w.alloc (.cells #[.int .i64 x, .int .i64 y] 23) = wz at *
  refine OpX.call Zn rfl (Calls.ret (V8 wz) ?_)
  rintro v w1 ⟨rfl, hc1⟩
  have az1 := hc1.keep haz (by simp)
  simp -dsimp (disch := first | omega | (simp only [go_sem, seval]; first | done | omega)) only [go_sem, seval, az1]
  refine OpX.call Qc rfl (Calls.ret (XJ w1 x y) ?_)
  rintro v w2 ⟨rfl, hc2⟩
  obtain ⟨x1, x2⟩ := OP (n := x) (m := 40) (k := 1) (by omega)
  obtain ⟨y1, y2⟩ := OP (n := y) (m := 19) (k := 2) (by omega)
  generalize Dl x 40 1 = X at *
  generalize Dl y 19 2 = Y at *
  simp -dsimp (disch := first | omega | (simp only [go_sem, seval]; first | done | omega)) only [go_sem, seval]
  refine OpX.call J9 rfl (Calls.ret (Kj w2 X Y 3) ?_)
  rintro v w3 (⟨hno, -⟩ | ⟨-, s, S0, rfl, A3, ok3, fr, hc3⟩)
  · exact absurd ⟨by omega, by omega, by omega, by omega⟩ hno
  have hc02 := (hca.trans0 hc1).trans0 hc2
  have hc03 := hc02.trans0 hc3
  have hz02 := hc02.size
  have hz03 := hc03.size
  simp -dsimp (disch := first | omega | (simp only [go_sem, seval]; first | done | omega)) only [go_sem, seval]
  refine Dz (F := Loop1 _ _) fun w4 hw4 => ?_
  have hc4 : Chg [] w3 w4 := by rw [hw4]; (repeat (first | exact Chg.refl _ _ | apply Chg.drew | apply Chg.alloc | (refine Chg.set ?_ _ _ (by first | (left; simp; done) | (right; omega)))))
  have ar4 : w4.heap[w3.heap.size]? = some (.cells (Bw fun j => decide (j = 1)).toArray 70) := by rw [hw4]; simp -dsimp (disch := first | omega | (simp only [go_sem, seval]; first | done | omega)) only [go_sem, seval]; rfl
  clear hw4
  obtain ⟨t9, ht9⟩ : ∃ t9, t9 = w3.heap.size := ⟨_, rfl⟩
  rw [← ht9] at ar4 ⊢
  have hD0 : Wd w2.heap.size w w4 s t9 S0 (fun j => decide (j = 1)) 0 := by
    obtain ⟨V, hw, hn, hact, ht⟩ := fr.wins
    refine ⟨A3.chg0 hc4, ok3.mono (by omega), fun W hW => ?_, fr.pre, fr.cop, fun ho => by have := A3.lt _ ho; omega, ar4, fun j h1 h2 => ?_, hc03.trans0 hc4⟩
    · rw [hw] at hW; simp at hW; subst hW; exact let ⟨t, e⟩ := ht; ⟨t, e⟩
    · rw [hw]
      simp only [List.map_cons, List.map_nil, List.mem_singleton, hn, decide_eq_true_eq]
      omega
  have ht9w : w.heap.size ≤ t9 := by omega
  refine Loop1.st (fun q : Nat × Ss × (Nat → Bool) => .int .i64 (q.1 : Int)) (fun q w' => q.1 ≤ 40 ∧ Wd w2.heap.size w w' s t9 q.2.1 q.2.2 q.1) (fun q => 40 - q.1) (0, S0, _) rfl ⟨Nat.zero_le _, hD0⟩ ?_
  rintro next ⟨i, S, T⟩ wi hn ⟨hi, D⟩
  dsimp only at hi D ⊢
  simp -dsimp (disch := first | omega | (simp only [go_sem, seval]; first | done | omega)) only [go_sem, seval]
  refine BrW.dec (fun g => ?_) (fun g => hK _ _ ⟨rfl, D.chg⟩)
  have hlen : S.wins.length ≤ 1000 := by have := D.A.len D.ok; omega
  refine OpX.call Hz rfl (Calls.ret (Hh D.A hlen) ?_)
  rintro v w5 ⟨ks, k1, k2, ko, hc5⟩
  obtain ⟨ka, kc, rfl, -, -, -, -⟩ := ko.form
  have hkl : ks.length = S.wins.length := by rw [k1.length_eq, List.length_map]
  rw [hkl]
  have D5 := D.chg0 hc5
  have hid : ∀ x ∈ S.wins.map (·.n), 1 ≤ x ∧ x ≤ 9 := fun x hx => by
    obtain ⟨W, hW, rfl⟩ := List.mem_map.1 hx
    exact (D.ok.win W hW).2.2.2
  simp -dsimp (disch := first | omega | (simp only [go_sem, seval]; first | done | omega)) only [go_sem, seval]
  refine Join0.cut (fun w' => ∃ S2 T2, Wd w2.heap.size w w' s t9 S2 T2 (i + 1)) ?_ ?_
  · have hcd5 : w2.heap.size ≤ w5.heap.size := by have := D5.A.lt _ (.inl rfl); have := D5.A.los; omega
    simp -dsimp (disch := first | omega | (simp only [go_sem, seval]; first | done | omega)) only [go_sem, seval]
    refine BrW.dec (fun hb => ?_) (fun hb => ?_)
    · simp -dsimp (disch := first | omega | (simp only [go_sem, seval]; first | done | omega)) only [go_sem, seval]
      refine OpX.call G7 rfl (Calls.ret (Hu D5.A D5.ok hcd5 (by omega) ⟨1, 0, 0, [2, 99], 0, 0⟩) ?_)
      rintro v w6 ⟨S6, A6, ok6, T6, rel⟩
      obtain ⟨word, v0, r, hv, hdeep⟩ := rel.key1 (by decide) rfl (by rw [D.cop, D.pre]; exact Vr)
      obtain ⟨F, hF, hFo⟩ := T6.chg
      have hc06 : Chg [] w w6 := D5.chg.trans hF fun z hz => .inr (by have := D5.A.lo z (hFo z hz); omega)
      have ar6 := hF.keep D5.arr fun hm => D5.far (hFo _ hm)
      have lt9 := Aa D5.arr
      have far6 : ¬S6.own s t9 := fun ho => (T6.grow _ ho).elim D5.far fun h => by omega
      have hcase : ∃ f : Nat, f ≤ 9 ∧ (∀ j : Nat, 1 ≤ j → j ≤ 9 → (f = 0 ∨ j < f) → T j = true) ∧ (f ≠ 0 → T f = false) ∧ ((1 ≤ f ∧ v = .nilIface ∧ S6.cur = f) ∨ (f = 0 ∧ ∃ b b2, v = PLv b ∧ Deep w6 b b2 15 [119, 105, 110, 100, 111, 119])) ∧
          (∀ x : Int, x ∈ S6.wins.map (·.n) ↔ x ∈ S.wins.map (·.n) ∨ (1 ≤ f ∧ x = f)) ∧ (∀ W ∈ S6.wins, ∃ t, W.L.root = .pane t 1) ∧ S6.pre = false ∧ S6.cop = false := by
        rcases r.k6 rfl with ⟨hv0, V, n, n1, n9, hVn, hno, hall, -, hroot, hw, hc, -⟩ | ⟨ev, rfl, hall, hS⟩
        · have hw : S6.wins = S.wins ++ [V] := hw
          refine ⟨n, n9, fun j j1 j9 hj => (D.tru j j1 j9).2 (hall j j1 (by omega)), fun _ => ?_, .inl ⟨n1, hv hv0, hc⟩, fun x => ?_, fun W hW => ?_, r.pre, r.cop.elim id id⟩
          · cases hT : T n
            · rfl
            · exact absurd ((D.tru n n1 n9).1 hT) hno
          · rw [hw, List.map_append, List.mem_append, List.map_cons, List.map_nil, List.mem_singleton, hVn]
            exact or_congr Iff.rfl ⟨fun h => ⟨n1, h⟩, fun h => h.2⟩
          · rw [hw] at hW
            rcases List.mem_append.1 hW with hW | hW
            · exact D.one W hW
            · simp at hW; subst hW; exact hroot
        · obtain ⟨b, b2, e1, e2, e3⟩ := hdeep 15 ev
          refine ⟨0, by omega, fun j j1 j9 _ => (D.tru j j1 j9).2 (hall j j1 j9), fun h => absurd rfl h, .inr ⟨rfl, b, b2, e1, e2, e3⟩, fun x => ?_, fun W hW => ?_, r.pre, r.cop.elim id id⟩
          · rw [hS]
            show x ∈ S.wins.map (·.n) ↔ _
            exact ⟨.inl, fun h => h.elim id fun h => by omega⟩
          · rw [hS] at hW
            exact D.one W hW
      obtain ⟨f, f9, hf1, hf2, hv6, hids, hone, hpre, hcop⟩ := hcase
      clear r rel hdeep
      have hread : ∀ (w' : World) (k : Nat), Chg [] w6 w' → k < 10 → Av w'.heap[t9]? k = some (.bool (T k)) := fun w' k hc hk => by
        rw [hc.keep ar6 (by simp)]
        show (Bw T).toArray[k]? = _
        rw [List.getElem?_toArray, ED hk]
      refine Loop2.st (fun q : Nat × Nat => .int .i64 (q.1 : Int)) (fun q => .int .i64 (q.2 : Int)) (fun q w' => q.2 ≤ 9 ∧ w' = w6 ∧ (∀ j : Nat, q.2 < j → j ≤ 9 → (q.1 = 0 ∨ j < q.1) → T j = true) ∧ (q.1 ≠ 0 → q.2 < q.1 ∧ q.1 ≤ 9 ∧ T q.1 = false)) (fun q => q.2) (0, 9) rfl rfl ⟨Nat.le_refl _, rfl, fun j h1 h2 => by dsimp only at h1; omega, fun h => absurd rfl h⟩ ?_
      rintro next3 ⟨fr', k⟩ wk hn3 ⟨hk9, rfl, hq1, hq2⟩
      dsimp only at hk9 hq1 hq2 ⊢
      simp -dsimp (disch := first | omega | (simp only [go_sem, seval]; first | done | omega)) only [go_sem, seval]
      refine BrW.dec (fun hk1 => ?_) (fun hk1 => ?_)
      · have hr := hread wk k (Chg.refl _ _) (by omega)
        have e1 : (k : Int) - 1 = ((k - 1 : Nat) : Int) := by omega
        refine Join1.cut (fun v w' => v = .int .i64 ((if T k = true then fr' else k : Nat) : Int) ∧ w' = wk) ?_ ?_
        · cases hT : T k
          · rw [hT] at hr
            simp -dsimp (disch := first | omega | (simp only [go_sem, seval]; first | done | omega)) only [go_sem, seval, hr]
          · rw [hT] at hr
            simp -dsimp (disch := first | omega | (simp only [go_sem, seval]; first | done | omega)) only [go_sem, seval, hr]
        rintro v7 w7 ⟨rfl, rfl⟩
        simp -dsimp (disch := first | omega | (simp only [go_sem, seval]; first | done | omega)) only [go_sem, seval, e1]
        refine hn3 (if T k = true then fr' else k, k - 1) _ ⟨by dsimp only; omega, rfl, fun j j1 j9 hj => ?_, fun h => ?_⟩ (by dsimp only; omega)
        · dsimp only at j1 hj
          by_cases hT : T k = true
          · rw [if_pos hT] at hj
            by_cases hjk : j = k
            · rw [hjk]; exact hT
            · exact hq1 j (by omega) j9 hj
          · rw [if_neg hT] at hj
            omega
        · dsimp only at h ⊢
          by_cases hT : T k = true
          · rw [if_pos hT] at h ⊢
            obtain ⟨a, b, c⟩ := hq2 h
            exact ⟨by omega, b, c⟩
          · rw [if_neg hT]
            exact ⟨by omega, hk9, by simpa using hT⟩
      · obtain rfl : k = 0 := by omega
        obtain rfl : fr' = f := by
          rcases Nat.lt_trichotomy fr' f with h | h | h
          · by_cases h0 : fr' = 0
            · have := hq1 f (by omega) f9 (.inl h0)
              rw [hf2 (by omega)] at this; cases this
            · obtain ⟨a, b, c⟩ := hq2 h0
              have := hf1 fr' (by omega) b (.inr h)
              rw [c] at this; cases this
          · exact h
          · obtain ⟨a, b, c⟩ := hq2 (by omega)
            by_cases h0 : f = 0
            · have := hf1 fr' (by omega) b (.inl h0)
              rw [c] at this; cases this
            · have := hq1 f (by omega) f9 (.inr h)
              rw [hf2 h0] at this; cases this
        rw [show ({ data := #[119, 105, 110, 100, 111, 119] } : ByteArray) = Aq [119, 105, 110, 100, 111, 119] from rfl]
        have hL6 := hL.keep hc06 (by simp)
        refine Join1.cut (fun v w' => v = .bool false ∧ Chg [] wk w') ?_ ?_
        · rcases hv6 with ⟨h1, rfl, hcur⟩ | ⟨rfl, b, b2, rfl, hd⟩
          · have d1 : decide (0 < (fr' : Int)) = true := decide_eq_true (by omega)
            have d2 : decide ((fr' : Int) = 0) = false := decide_eq_false (by omega)
            refine OpX.call E8 rfl (Calls.ret (IL wk) ?_)
            rintro v8 w8 ⟨rfl, hc8⟩
            simp -dsimp (disch := first | omega | (simp only [go_sem, seval]; first | done | omega)) only [go_sem, seval, d1]
            refine OpX.call FY rfl (Calls.ret (FW (A6.chg0 hc8)) ?_)
            rintro v9 w9 ⟨rfl, rfl⟩
            rw [hcur]
            simp -dsimp (disch := first | omega | (simp only [go_sem, seval]; first | done | omega)) only [go_sem, seval, d2]
            exact hc8
          · refine OpX.call E8 rfl (Calls.ret (Mk hd hL6) ?_)
            rintro v8 w8 ⟨rfl, hc8⟩
            simp -dsimp (disch := first | omega | (simp only [go_sem, seval]; first | done | omega)) only [go_sem, seval]
            refine OpX.call VU rfl (Calls.ret (R8 (hd.chg0 hc8)) ?_)
            rintro v9 w9 ⟨rfl, rfl⟩
            simp -dsimp (disch := first | omega | (simp only [go_sem, seval]; first | done | omega)) only [go_sem, seval]
            refine OpX.call Y4 rfl (Calls.ret (XO (hd.chg0 hc8)) ?_)
            rintro v10 w10 ⟨rfl, hc10⟩
            simp -dsimp (disch := first | omega | (simp only [go_sem, seval]; first | done | omega)) only [go_sem, seval]
            exact hc8.trans0 hc10
        rintro v8 w8 ⟨rfl, hc8⟩
        have hr8 : w8.heap[t9]? = some (.cells (Bw T).toArray 70) := hc8.keep ar6 (by simp)
        have lt8 := Aa hr8
        have hput : ∀ v : Bool, Az w8.heap[t9]? fr' [.bool v] = some (.cells (Bw fun j => if j = fr' then v else T j).toArray 70) := fun v => by
          rw [hr8, CW, if_pos (by rw [List.size_toArray, El]; simp; omega), E3]
          rw [show fr' + [Value.bool v].length = fr' + 1 from rfl, Ig (by omega)]
        simp -dsimp (disch := first | omega | (simp only [go_sem, seval]; first | done | omega)) only [go_sem, seval, hput]
        have hcs : ∀ o, Chg [t9] w8 (Ab w8 t9 o) := fun o => (Chg.refl _ _).set _ _ (by simp)
        refine ⟨S6, _, (A6.chg0 hc8).chg (hcs _) (by simpa using far6), ok6.mono (by omega), hone, hpre, hcop, far6, Au _ _ _ _ rfl lt8, fun j j1 j9 => ?_, (hc06.trans0 hc8).trans (hcs _) (by simp; omega)⟩
        rw [hids]
        by_cases hj : j = fr'
        · subst hj
          rw [if_pos rfl]
          exact ⟨fun _ => .inr ⟨j1, rfl⟩, fun _ => decide_eq_true (by omega)⟩
        · rw [if_neg hj, D.tru j j1 j9]
          exact ⟨.inl, fun h => h.elim id fun h => absurd h.2 (by omega)⟩
    · obtain ⟨C, hC⟩ : ∃ C : Nat, S.cur = C := ⟨S.cur.toNat, by have := hid _ D.ok.cur; omega⟩
      have hCb := hid _ D.ok.cur
      rw [hC] at hCb
      refine OpX.call FY rfl (Calls.ret (FW D5.A) ?_)
      rintro v w6 ⟨rfl, rfl⟩
      rw [hC]
      simp -dsimp (disch := first | omega | (simp only [go_sem, seval]; first | done | omega)) only [go_sem, seval]
      refine OpX.call G7 rfl (Calls.ret (Hu D5.A D5.ok hcd5 (by omega) ⟨1, 0, 0, [2, 120], 0, 0⟩) ?_)
      rintro v w7 ⟨S6, A6, ok6, T6, rel⟩
      obtain ⟨word, v0, r, hv, hdeep⟩ := rel.key1 (by decide) rfl (by rw [D.cop, D.pre]; exact P4)
      obtain ⟨F, hF, hFo⟩ := T6.chg
      have hc06 : Chg [] w w7 := D5.chg.trans hF fun z hz => .inr (by have := D5.A.lo z (hFo z hz); omega)
      have ar6 := hF.keep D5.arr fun hm => D5.far (hFo _ hm)
      have lt9 := Aa D5.arr
      have far6 : ¬S6.own s t9 := fun ho => (T6.grow _ ho).elim D5.far fun h => by omega
      have hcase : ((1 < S.wins.length ∧ v = .nilIface ∧ S6.cur ≠ C ∧ ∀ x : Int, x ∈ S6.wins.map (·.n) ↔ x ∈ S.wins.map (·.n) ∧ x ≠ C) ∨ (S.wins.length = 1 ∧ (∃ b b2, v = PLv b ∧ Deep w7 b b2 13 word) ∧ ∀ x : Int, x ∈ S6.wins.map (·.n) ↔ x ∈ S.wins.map (·.n))) ∧
          (∀ W ∈ S6.wins, ∃ t, W.L.root = .pane t 1) ∧ S6.pre = false ∧ S6.cop = false := by
        obtain ⟨W, hg, hd⟩ := r.k5 rfl
        have hgm : W ∈ S.wins := (Ss.get_mem hg).1
        obtain ⟨tw, hroot⟩ := D.one W hgm
        rcases hd with ⟨-, h2⟩ | ⟨e0, -, h2, hw, hcne⟩ | ⟨e0, -, h1, hS⟩
        · rw [hroot] at h2; simp [Mt.ids] at h2
        · have hw : S6.wins = S.wins.eraseP (fun x => x.ent.1 == S.cur) := hw
          refine ⟨.inl ⟨h2, hv e0, by rw [← hC]; exact hcne, fun x => ?_⟩, fun U hU => ?_, r.pre, r.cop.elim id id⟩
          · rw [hw, List.mem_map, List.mem_map]
            constructor
            · rintro ⟨U, hU, rfl⟩
              obtain ⟨a, b⟩ := (Fb D.A.ids U).1 hU
              exact ⟨⟨U, a, rfl⟩, by rw [← hC]; exact b⟩
            · rintro ⟨⟨U, hU, rfl⟩, hne⟩
              exact ⟨U, (Fb D.A.ids U).2 ⟨hU, by rw [hC]; exact hne⟩, rfl⟩
          · rw [hw] at hU
            exact D.one U ((Fb D.A.ids U).1 hU).1
        · obtain ⟨b, b2, e1, e2, e3⟩ := hdeep 13 e0
          refine ⟨.inr ⟨h1, ⟨b, b2, e1, e2, e3⟩, fun x => by rw [hS]⟩, fun U hU => ?_, r.pre, r.cop.elim id id⟩
          rw [hS] at hU
          exact D.one U hU
      obtain ⟨hv6, hone, hpre, hcop⟩ := hcase
      clear r rel hdeep
      have hL6 := hL.keep hc06 (by simp)
      refine Join1.cut (fun v w' => v = .bool false ∧ Chg [] w7 w') ?_ ?_
      · rcases hv6 with ⟨h1, rfl, hcur, -⟩ | ⟨h1, ⟨b, b2, rfl, hd⟩, -⟩
        · have d1 : decide (1 < (S.wins.length : Int)) = true := decide_eq_true (by omega)
          refine OpX.call E8 rfl (Calls.ret (IL w7) ?_)
          rintro v8 w8 ⟨rfl, hc8⟩
          simp -dsimp (disch := first | omega | (simp only [go_sem, seval]; first | done | omega)) only [go_sem, seval, d1]
          refine OpX.call FY rfl (Calls.ret (FW (A6.chg0 hc8)) ?_)
          rintro v9 w9 ⟨rfl, rfl⟩
          simp -dsimp (disch := first | omega | (simp only [go_sem, seval]; first | done | omega)) only [go_sem, seval]
          exact ⟨congrArg Value.bool (decide_eq_false hcur), hc8⟩
        · have d1 : decide (1 < (S.wins.length : Int)) = false := decide_eq_false (by omega)
          refine OpX.call E8 rfl (Calls.ret (Mk hd hL6) ?_)
          rintro v8 w8 ⟨rfl, hc8⟩
          simp -dsimp (disch := first | omega | (simp only [go_sem, seval]; first | done | omega)) only [go_sem, seval, d1]
          exact hc8
      rintro v8 w8 ⟨rfl, hc8⟩
      have hr8 : w8.heap[t9]? = some (.cells (Bw T).toArray 70) := hc8.keep ar6 (by simp)
      have lt8 := Aa hr8
      have hput : ∀ v : Bool, Az w8.heap[t9]? C [.bool v] = some (.cells (Bw fun j => if j = C then v else T j).toArray 70) := fun v => by
        rw [hr8, CW, if_pos (by rw [List.size_toArray, El]; simp; omega), E3]
        rw [show C + [Value.bool v].length = C + 1 from rfl, Ig (by omega)]
      simp -dsimp (disch := first | omega | (simp only [go_sem, seval]; first | done | omega)) only [go_sem, seval, hput]
      have hcs : ∀ o, Chg [t9] w8 (Ab w8 t9 o) := fun o => (Chg.refl _ _).set _ _ (by simp)
      refine ⟨S6, _, (A6.chg0 hc8).chg (hcs _) (by simpa using far6), ok6.mono (by omega), hone, hpre, hcop, far6, Au _ _ _ _ rfl lt8, fun j j1 j9 => ?_, (hc06.trans0 hc8).trans (hcs _) (by simp; omega)⟩
      rcases hv6 with ⟨h1, -, -, hids⟩ | ⟨h1, -, hids⟩
      · rw [hids]
        by_cases hj : j = C
        · subst hj
          rw [if_pos rfl]
          exact ⟨fun h => absurd (of_decide_eq_true h) (by omega), fun h => absurd rfl h.2⟩
        · rw [if_neg hj, D.tru j j1 j9]
          exact ⟨fun h => ⟨h, by omega⟩, fun h => h.1⟩
      · rw [hids]
        by_cases hj : j = C
        · subst hj
          rw [if_pos rfl]
          exact ⟨fun _ => by rw [← hC]; exact D.ok.cur, fun _ => decide_eq_true (by omega)⟩
        · rw [if_neg hj, D.tru j j1 j9]
  · rintro w6 ⟨S2, T2, D6⟩
    have hlen6 : S2.wins.length ≤ 1000 := by have := D6.A.len D6.ok; omega
    refine OpX.call Hz rfl (Calls.ret (Hh D6.A hlen6) ?_)
    rintro v w7 ⟨ls, m1, m2, mo, hc7⟩
    obtain ⟨la, lc, rfl, -, hls, -, -⟩ := mo.form
    have D7 := D6.chg0 hc7
    have hid2 : ∀ x ∈ S2.wins.map (·.n), 1 ≤ x ∧ x ≤ 9 := fun x hx => by
      obtain ⟨W, hW, rfl⟩ := List.mem_map.1 hx
      exact (D6.ok.win W hW).2.2.2
    have hleq := WM m2 m1 hid2
    obtain ⟨P, hP⟩ : ∃ P : Int → Bool, P = fun x => decide (x ∈ S2.wins.map (·.n)) := ⟨_, rfl⟩
    rw [← hP] at hleq
    have hll : ls.length ≤ 9 := by rw [m1.length_eq, List.length_map]; exact D6.A.len D6.ok
    refine Loop2.st (fun q : Nat => .int .i64 (((Br (q - 1)).filter P).length : Int)) (fun q => .int .i64 (q : Int)) (fun q w' => 1 ≤ q ∧ q ≤ 10 ∧ w' = w7) (fun q => 10 - q) 1 rfl rfl ⟨Nat.le_refl _, by omega, rfl⟩ ?_
    rintro next7 j wj hn7 ⟨j1, j10, rfl⟩
    simp -dsimp (disch := first | omega | (simp only [go_sem, seval]; first | done | omega)) only [go_sem, seval]
    refine BrW.dec (fun g7 => ?_) (fun g7 => ?_)
    · have hr := D7.read (k := j) (by omega)
      have e1 : (j : Int) + 1 = ((j + 1 : Nat) : Int) := by omega
      have eu : Br j = Br (j - 1) ++ [(j : Int)] := by
        obtain ⟨m, rfl⟩ : ∃ m, j = m + 1 := ⟨j - 1, by omega⟩
        rw [Ol]; rfl
      have hPj : P j = T2 j := by
        rw [hP]
        cases hT : T2 j
        · refine decide_eq_false fun h => ?_
          rw [(D6.tru j j1 (by omega)).2 h] at hT; cases hT
        · exact decide_eq_true ((D6.tru j j1 (by omega)).1 hT)
      have hk : ((Br j).filter P).length = ((Br (j - 1)).filter P).length + (if T2 j = true then 1 else 0) := by
        rw [eu, List.filter_append, List.length_append, List.filter_cons, hPj, List.filter_nil]
        cases T2 j <;> rfl
      obtain ⟨l9, e9⟩ := Sw (m := j) (n := 9) (by omega)
      have hget : T2 j = true → ls[((Br (j - 1)).filter P).length]? = some (j : Int) := fun hT => by
        rw [hleq, e9, eu, List.filter_append, List.filter_append, List.filter_cons, hPj, hT, List.filter_nil]
        rw [List.append_assoc, List.getElem?_append_right (Nat.le_refl _), Nat.sub_self]
        rfl
      generalize ((Br (j - 1)).filter P).length = k at *
      refine Join1.cut (fun v w' => v = .int .i64 ((k + (if T2 j = true then 1 else 0) : Nat) : Int) ∧ w' = wj) ?_ ?_
      · cases hT : T2 j
        · rw [hT] at hr
          simp -dsimp (disch := first | omega | (simp only [go_sem, seval]; first | done | omega)) only [go_sem, seval, hr]
        · rw [hT] at hr
          have hg := hget hT
          have hkl := (List.getElem?_eq_some_iff.1 hg).1
          obtain ⟨b', o', rfl, hbl, hcell⟩ := hls.get1 (g := fun n => .int .i64 n) (fun _ => rfl) hg
          simp -dsimp (disch := first | omega | (simp only [go_sem, seval]; first | done | omega)) only [go_sem, seval, hr]
          refine Join1.cut (fun v w' => v = .bool false ∧ w' = wj) ?_ ?_
          · simp -dsimp (disch := first | omega | (simp only [go_sem, seval]; first | done | omega)) only [go_sem, seval]
            refine BrW.dec (fun h => absurd h (by omega)) (fun _ => ?_)
            simp -dsimp (disch := first | omega | (simp only [go_sem, seval]; first | done | omega)) only [go_sem, seval, hcell]
          rintro v w8 ⟨rfl, rfl⟩
          simp -dsimp (disch := first | omega | (simp only [go_sem, seval]; first | done | omega)) only [go_sem, seval]
          rfl
      rintro v w8 ⟨rfl, rfl⟩
      simp -dsimp (disch := first | omega | (simp only [go_sem, seval]; first | done | omega)) only [go_sem, seval, e1]
      have h := hn7 (j + 1) w8 ⟨by omega, by omega, rfl⟩ (by omega)
      rw [Nat.add_sub_cancel, hk] at h
      exact h
    · obtain rfl : j = 10 := by omega
      have hfin : ((Br (10 - 1)).filter P).length = ls.length := by rw [hleq]
      rw [hfin]
      have e1 : (i : Int) + 1 = ((i + 1 : Nat) : Int) := by omega
      simp -dsimp (disch := first | omega | (simp only [go_sem, seval]; first | done | omega)) only [go_sem, seval, e1]
      exact hn (i + 1, S2, T2) _ ⟨by dsimp only; omega, D7⟩ (by dsimp only; omega)
end Go.Proofs.YtelplojmbjnplaaGreatDoor
