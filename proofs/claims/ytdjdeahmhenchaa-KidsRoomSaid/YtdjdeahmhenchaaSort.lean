/- The keys of a map, collected and sorted. -/
import Derived.Test.YtdjdeahmhenchaaW9
import Derived.Test.YtdjdeahmhenchaaW3
import Derived.Test.YtdjdeahmhenchaaLycMap
import Derived.Test.YtdjdeahmhenchaaLycOps9
import Derived.Test.YtdjdeahmhenchaaKids
import Derived.Test.YtdjdeahmhenchaaMem
import Derived.Test.YtdjdeahmhenchaaArgs
import Derived.Test.YtdjdeahmhenchaaShelf
import Derived.Sort.OwnSortedInts
set_option linter.unusedSimpArgs false
set_option linter.unusedVariables false
namespace Go.Proofs.Ytdjdeahmhenchaa
open Lyc Go

/-- An entry's number. -/
def ebo (x : Int × Value × Nat) : Nat := x.2.2
theorem ents_mem {l : Ents} {x : MapEntry} (h : x ∈ (ents .i64 l).toList) : ∃ y ∈ l, x = ⟨.int .i64 y.1, y.2.1, y.2.2⟩ := by
  simp only [ents, List.mem_map] at h
  obtain ⟨y, hy, rfl⟩ := h
  exact ⟨y, hy, rfl⟩
theorem ents_born (l : Ents) : (ents .i64 l).toList.map (·.born) = l.map ebo := by
  simp [ents, ebo, Function.comp_def]

theorem ebo_inj : ∀ {l : Ents}, (l.map ebo).Nodup → ∀ {x y : Int × Value × Nat}, x ∈ l → y ∈ l → ebo x = ebo y → x = y
  | [], _, _, _, h, _, _ => by simp at h
  | a :: l, hn, x, y, hx, hy, he => by
    rw [List.map_cons, List.nodup_cons] at hn
    rcases List.mem_cons.1 hx with rfl | hx' <;> rcases List.mem_cons.1 hy with rfl | hy'
    · rfl
    · exact absurd (he ▸ List.mem_map.2 ⟨y, hy', rfl⟩) hn.1
    · exact absurd (he ▸ List.mem_map.2 ⟨x, hx', rfl⟩) hn.1
    · exact ebo_inj hn.2 hx' hy' he

theorem keys1_c {w : World} {pt m c : Nat} {l : Ents} (hb : w.heap[pt]? = some (.cells #[.map (some m)] 87)) (hm : w.heap[m]? = some (.map (ents .i64 l) c)) (hlt : ∀ x ∈ l, ebo x < c) (hnd : (l.map ebo).Nodup) {yv : Value} (I : List Int → World → Prop)
    (h0 : ∀ w1, Chg [] w w1 → I [] w1) (hI : ∀ ks w1 w2, I ks w1 → Chg [w.heap.size] w1 w2 → I ks w2) (hM : ∀ ks w1, I ks w1 → w1.heap[m]? = some (.map (ents .i64 l) c))
    (hy : ∀ ks x w1, I ks w1 → x ∈ l → ks.length < l.length → YCall Try.prog yv [.int .i64 x.1] (fun v w2 => v = .bool true ∧ I (ks ++ [x.1]) w2 ∧ ∃ G, Chg G w1 w2 ∧ w.heap.size ∉ G) w1) :
    Calls Try.prog 113 #[yv, .pointer (some ⟨pt, 0, none⟩)] w (retK fun _ w' => ∃ ks, ks.Perm (l.map (·.1)) ∧ I ks w') := by
  apply maps_Keys_map_int_kids_child_int_kids_child_1_link
  intro K hK
  unfold maps_Keys_map_int_kids_child_int_kids_child_1
  simp -dsimp (disch := first | omega | (simp only [go_sem, seval]; first | done | omega)) only [go_sem, seval, hb]
  rw [range_map ty87.1 hm]
  have hndl : l.Nodup := by
    have : (l.map ebo).Pairwise (· ≠ ·) := hnd
    exact (List.pairwise_map.1 this).imp fun h e => h (by rw [e])
  have hborn : ∀ x ∈ (ents .i64 l).toList, x.born < c := by
    intro x hx
    obtain ⟨y, hy, rfl⟩ := ents_mem hx
    exact hlt y hy
  refine Loop0.st (fun (done : Ents) w1 => (∀ x ∈ done, x ∈ l) ∧ (done.map ebo).Nodup ∧ I (done.map (·.1)) w1 ∧ w1.heap[w.heap.size]? = some (.mapIter (some m) c (done.map ebo).toArray c)) (fun done => l.length - done.length) [] ⟨by simp, by simp, h0 _ (chg_a1 _ _), Lyc.heap_alloc_new _ _ _ rfl⟩ ?_
  rintro next done w1 hn ⟨hd, hdn, hi, hit⟩
  have hm1 := hM _ _ hi
  refine next_map hit hm1 hborn (fun hover => ?_) (fun e he hne w2 hw2 => ?_)
  · simp -dsimp (disch := first | omega | (simp only [go_sem, seval]; first | done | omega)) only [go_sem, seval]
    refine hK _ _ ⟨done.map (·.1), List.Perm.map _ ?_, hi⟩
    have hdl : done.Nodup := by
      have : (done.map ebo).Pairwise (· ≠ ·) := hdn
      exact (List.pairwise_map.1 this).imp fun h e => h (by rw [e])
    refine (List.perm_ext_iff_of_nodup hdl hndl).2 fun x => ⟨hd x, fun hx => ?_⟩
    have := hover ⟨.int .i64 x.1, x.2.1, x.2.2⟩ (by simp only [ents, List.mem_map]; exact ⟨x, hx, rfl⟩)
    simp only [List.mem_map] at this
    obtain ⟨y, hyd, hy2⟩ := this
    have hyl := hd y hyd
    rw [← ebo_inj hnd hyl hx hy2]
    exact hyd
  · obtain ⟨y, hyl, rfl⟩ := ents_mem he
    have hnd' : ebo y ∉ done.map ebo := by simpa [ebo] using hne
    have hit2 : w2.heap[w.heap.size]? = some (.mapIter (some m) c (done.map ebo).toArray c) := by rcases hw2 with rfl | rfl <;> exact hit
    have hc2 : Chg [] w1 w2 := by rcases hw2 with rfl | rfl; exact Chg.refl _ _; exact (Chg.refl _ _).drew
    have hl2 := lt_of_heap hit2
    have hc3 : Chg [w.heap.size] w1 (setBlk w2 w.heap.size (.mapIter (some m) c ((done.map ebo).toArray.push y.2.2) c)) := (hc2.mono (by simp)).set _ _ (by simp)
    have hi3 := hI _ _ _ hi hc3
    have hit3 : (setBlk w2 w.heap.size (.mapIter (some m) c ((done.map ebo).toArray.push y.2.2) c)).heap[w.heap.size]? = some (.mapIter (some m) c ((done.map ebo).toArray.push y.2.2) c) := heap_set_same _ _ _ _ rfl hl2
    generalize setBlk w2 _ _ = w3 at hc3 hi3 hit3 ⊢
    have hm3 := hM _ _ hi3
    simp -dsimp (disch := first | omega | (simp only [go_sem, seval]; first | done | omega)) only [go_sem, seval]
    rw [entry_map (e := ⟨.int .i64 y.1, y.2.1, y.2.2⟩) hit3 hm3 he (by rw [ents_born]; exact hnd)]
    simp -dsimp (disch := first | omega | (simp only [go_sem, seval]; first | done | omega)) only [go_sem, seval]
    have hdl : done.length < l.length := by
      have h1 : (done.map ebo ++ [ebo y]).Nodup := by
        rw [List.nodup_append]
        exact ⟨hdn, by simp, by intro a ha b hb; simp at hb; subst hb; rintro rfl; exact hnd' ha⟩
      have h2 := List.Nodup.length_le_of_subset h1 (l₂ := l.map ebo) (by
        intro a ha
        rcases List.mem_append.1 ha with ha | ha
        · obtain ⟨z, hz, rfl⟩ := List.mem_map.1 ha
          exact List.mem_map.2 ⟨z, hd z hz, rfl⟩
        · simp at ha; subst ha; exact List.mem_map.2 ⟨y, hyl, rfl⟩)
      simp at h2; omega
    refine (hy _ y w3 hi3 hyl (by simpa using hdl)).use ?_
    rintro v w4 ⟨rfl, hi4, G, hc4, hG⟩
    simp -dsimp (disch := first | omega | (simp only [go_sem, seval]; first | done | omega)) only [go_sem, seval]
    have hit4 := hc4.keep hit3 hG
    refine hn (done ++ [y]) _ ⟨?_, ?_, ?_, ?_⟩ (by simp; omega)
    · intro x hx
      rcases List.mem_append.1 hx with hx | hx
      · exact hd x hx
      · simp at hx; subst hx; exact hyl
    · rw [List.map_append, List.nodup_append]
      exact ⟨hdn, by simp, by intro a ha b hb; simp at hb; subst hb; rintro rfl; exact hnd' ha⟩
    · simpa using hi4
    · rw [hit4]; simp [ebo]

def keysV (pt : Nat) : Value := .func (.func 113) #[] #[.pointer (some ⟨pt, 0, none⟩)]
theorem keys_c {w : World} {m c : Nat} {l : Ents} (hm : w.heap[m]? = some (.map (ents .i64 l) c)) : Calls Try.prog 97 #[.map (some m)] w
    (retK fun v w' => v = keysV w.heap.size ∧ w'.heap[w.heap.size]? = some (.cells #[.map (some m)] 87) ∧ Chg [] w w') := by
  apply maps_Keys_map_int_kids_child_int_kids_child_link
  intro K hK
  unfold maps_Keys_map_int_kids_child_int_kids_child
  simp -dsimp (disch := first | omega | (simp only [go_sem, seval]; first | done | omega)) only [go_sem, seval]
  exact hK _ _ ⟨rfl, Lyc.heap_alloc_new _ _ _ rfl, chg_a1 _ _⟩

theorem appseq_c {w : World} {pt m c : Nat} {l : Ents} (hb : w.heap[pt]? = some (.cells #[.map (some m)] 87)) (hm : w.heap[m]? = some (.map (ents .i64 l) c)) (hlt : ∀ x ∈ l, ebo x < c) (hnd : (l.map ebo).Nodup) (hlen : l.length ≤ 1000000) :
    Calls Try.prog 123 #[.slice none 0 0, keysV pt] w (retK fun v w' => ∃ ks, ks.Perm (l.map (·.1)) ∧ Ox w.heap.size w' 3 1 intF v ks ∧ Chg [] w w') := by
  have hlp := lt_of_heap hb
  have hlm := lt_of_heap hm
  apply slices_AppendSeq_int_int_link
  intro K hK
  unfold slices_AppendSeq_int_int
  simp -dsimp (disch := first | omega | (simp only [go_sem, seval]; first | done | omega)) only [go_sem, seval]
  have hc0 := chg_a1 w (.cells #[.slice none 0 0] 50)
  have hb0 := Lyc.heap_alloc_new w (.cells #[.slice none 0 0] 50) _ rfl
  have hz0 : (w.alloc (.cells #[.slice none 0 0] 50)).heap.size = w.heap.size + 1 := by simp -dsimp (disch := first | omega | (simp only [go_sem, seval]; first | done | omega)) only [go_sem, seval]
  generalize w.alloc (.cells #[.slice none 0 0] 50) = w0 at hc0 hb0 hz0 ⊢
  refine ⟨fun Lp yv hyv => ⟨_, [], _, rfl, maps_Keys_map_int_kids_child_int_kids_child_1_b, ?_⟩⟩
  have hl : ((w0.alloc (.deferred (some []))).alloc (Lp .ready)).heap[w0.heap.size + 1]? = some (Lp .ready) := by simp -dsimp (disch := first | omega | (simp only [go_sem, seval]; first | done | omega)) only [go_sem, seval]
  have hr : ((w0.alloc (.deferred (some []))).alloc (Lp .ready)).heap[w0.heap.size]? = some (.deferred (some [])) := by simp -dsimp (disch := first | omega | (simp only [go_sem, seval]; first | done | omega)) only [go_sem, seval]
  have hc1 := chg_a2 w0 (.deferred (some [])) (Lp .ready)
  have hz1 : ((w0.alloc (.deferred (some []))).alloc (Lp .ready)).heap.size = w0.heap.size + 2 := by simp -dsimp (disch := first | omega | (simp only [go_sem, seval]; first | done | omega)) only [go_sem, seval]
  generalize (w0.alloc (.deferred (some []))).alloc (Lp .ready) = w1 at hl hr hc1 hz1 ⊢
  have hc01 := hc0.trans0 hc1
  have hb1 := hc1.keep hb0 (by simp)
  refine Calls.ret (keys1_c (w := w1) (pt := pt) (m := m) (c := c) (l := l) (hc01.keep hb (by simp)) (hc01.keep hm (by simp)) hlt hnd
    (fun ks w2 => w2.heap[w0.heap.size + 1]? = some (Lp .ready) ∧ Chg [w.heap.size, w0.heap.size + 1] w1 w2 ∧ ∃ v, w2.heap[w.heap.size]? = some (.cells #[v] 50) ∧ Ox (w1.heap.size + 1) w2 3 1 intF v ks) ?_ ?_ ?_ ?_) ?_
  · exact fun w2 hc2 => ⟨hc2.keep hl (by simp), hc2.mono (by simp), _, hc2.keep hb1 (by simp), Ox.nil _ _ _ _ _⟩
  · rintro ks w2 w3 ⟨h1, h2, v, h3, h4⟩ hc
    exact ⟨hc.keep h1 (by simp; omega), h2.trans hc (by simp), v, hc.keep h3 (by simp; omega), h4.low hc (by simp)⟩
  · rintro ks w2 ⟨h1, h2, v, h3, h4⟩
    exact h2.keep (hc01.keep hm (by simp)) (by simp; omega)
  · rintro ks x w2 ⟨h1, h2, v, h3, h4⟩ hx hlen'
    refine hyv _ _ _ rfl h1 ⟨h1, ?_⟩
    have hl1 := lt_of_heap h1
    have hl3 := lt_of_heap h3
    have hc3 : Chg [w0.heap.size + 1] w2 (setBlk w2 (w0.heap.size + 1) (Lp .busy)) := (Chg.refl _ _).set _ _ (by simp)
    have h1' : (setBlk w2 (w0.heap.size + 1) (Lp .busy)).heap[w0.heap.size + 1]? = some (Lp .busy) := heap_set_same _ _ _ _ rfl hl1
    have h3' := hc3.keep h3 (by simp; omega)
    have h4' := h4.low hc3 (by simp; omega)
    have h2' : Chg [w.heap.size, w0.heap.size + 1] w1 (setBlk w2 (w0.heap.size + 1) (Lp .busy)) := h2.trans hc3 (by simp)
    generalize setBlk w2 _ _ = w3 at hc3 h1' h3' h4' h2' ⊢
    have hl3' := lt_of_heap h3'
    obtain ⟨a, cap, rfl, hcp, hsx, hown, -⟩ := h4'.form
    simp -dsimp (disch := first | omega | (simp only [go_sem, seval]; first | done | omega)) only [go_sem, seval, h3', nthV]
    have hs2 := h2'.size
    have hca := chg_a1 w3 (.cells #[.int .i64 x.1] 3)
    have ho := h4'.chg0 hca
    have hsa : Sx (w3.alloc (.cells #[.int .i64 x.1] 3)) (some 3) intF (some ⟨w3.heap.size, 0, none⟩) [x.1] := Sx.built (c := [.int .i64 x.1]) (by simp -dsimp (disch := first | omega | (simp only [go_sem, seval]; first | done | omega)) only [go_sem, seval]) rfl
    have hb3 := hca.keep h3' (by simp)
    have hb3' := hca.keep h1' (by simp)
    have hz3 : (w3.alloc (.cells #[.int .i64 x.1] 3)).heap.size = w3.heap.size + 1 := by simp -dsimp (disch := first | omega | (simp only [go_sem, seval]; first | done | omega)) only [go_sem, seval]
    generalize w3.alloc _ = w4 at hca ho hsa hb3 hb3' hz3 ⊢
    refine app_x ty50ap intF_len intF_ok ho hsa rfl (by simp; omega) (by omega) (by omega) ?_
    intro v' w5 ho5 hc5 _
    have hge := ho.own_ge
    have hb5 := hc5.keep hb3 (fun hm => by have := hge _ hm; omega)
    have hb5' := hc5.keep hb3' (fun hm => by have := hge _ hm; omega)
    have hl5 := lt_of_heap hb5
    have hl5' := lt_of_heap hb5'
    obtain ⟨a5, cap5, rfl, -, -, hown5, -⟩ := ho5.form
    have hc6 : Chg [w.heap.size, w0.heap.size + 1] w5 (setBlk (setBlk w5 w.heap.size (.cells #[.slice a5 (ks ++ [x.1]).length cap5] 50)) (w0.heap.size + 1) (Lp .ready)) := ((Chg.refl _ _).set _ _ (by simp)).set _ _ (by simp)
    have hc25 : Chg ([w0.heap.size + 1] ++ (Value.slice a ks.length cap).ownBlock.toList) w2 w5 := ((hc3.mono (by simp)).trans0 hca).trans hc5 (by simp; intro x hx; exact .inl (.inr hx))
    have hc46 : Chg ((Value.slice a ks.length cap).ownBlock.toList ++ [w.heap.size, w0.heap.size + 1]) w4 (setBlk (setBlk w5 w.heap.size (.cells #[.slice a5 (ks ++ [x.1]).length cap5] 50)) (w0.heap.size + 1) (Lp .ready)) := (hc5.mono (fun x hx => .inl (List.mem_append_left _ hx))).trans hc6 (fun x hx => .inl (List.mem_append_right _ hx))
    simp -dsimp (disch := first | omega | (simp only [go_sem, seval]; first | done | omega)) only [go_sem, seval, hb5, hb5']
    refine ⟨⟨((h2'.trans0 hca)).trans hc46 ?_, _, rfl, ho5.low hc6 (by simp; omega)⟩, _, (((hc3.mono (F' := (w0.heap.size + 1) :: ((Value.slice a ks.length cap).ownBlock.toList ++ [w.heap.size, w0.heap.size + 1])) (by simp)).trans0 hca).trans hc46 (fun x hx => .inl (by simp only [List.mem_cons]; exact .inr hx))), ?_⟩
    · intro x hx
      rcases List.mem_append.1 hx with hx | hx
      · right; have := hge x hx; omega
      · exact .inl hx
    · simp only [List.mem_cons, List.mem_append, List.not_mem_nil, or_false, not_or]
      refine ⟨by omega, fun hm => ?_, by omega, by omega⟩
      have := hge _ hm; omega
  · rintro v w2 ⟨ks, hp, h1, h2, v', h3, h4⟩
    refine .inl ⟨h1, ?_⟩
    have hl1 := lt_of_heap h1
    have hc3 : Chg [w0.heap.size + 1] w2 (setBlk w2 (w0.heap.size + 1) (Lp (.over .normal))) := (Chg.refl _ _).set _ _ (by simp)
    have h3' := hc3.keep h3 (by simp; omega)
    have h4' := h4.low hc3 (by simp; omega)
    have hr2 := (h2.trans hc3 (by simp)).keep hr (by simp; omega)
    have hc4 := h2.trans hc3 (by simp)
    generalize setBlk w2 _ _ = w3 at hc3 h3' h4' hr2 hc4 ⊢
    simp -dsimp (disch := first | omega | (simp only [go_sem, seval]; first | done | omega)) only [go_sem, seval, h3']
    refine close_by hr2 ?_
    have hc5 : Chg [w0.heap.size] w3 (setBlk w3 w0.heap.size (.deferred none)) := (Chg.refl _ _).set _ _ (by simp)
    refine hK _ _ ⟨ks, hp, (h4'.low hc5 (by simp; omega)).base_le (by omega), (hc01.trans hc4 ?_).trans hc5 ?_⟩
    · simp; omega
    · simp; omega
theorem sort_c {w : World} {base : Nat} {a : Option Addr} {cap : Nat} {zs : List Int} (ho : Ox base w 3 1 intF (.slice a zs.length cap) zs) (hz : zs.length ≤ 1000000) :
    Calls Try.prog 112 #[.slice a zs.length cap] w (retK fun v w' => Ox base w' 3 1 intF (.slice a zs.length cap) (zs.mergeSort fun x y => decide (x ≤ y)) ∧ Chg (Value.slice a zs.length cap).ownBlock.toList w w') := by
  have hfl : zs.flatMap intF = zs.map (Value.int .i64) := by
    clear ho hz
    induction zs with
    | nil => rfl
    | cons x l ih => rw [List.flatMap_cons, ih]; rfl
  by_cases h0 : zs = []
  · subst h0
    have hms : ([] : List Int).mergeSort (fun x y => decide (x ≤ y)) = [] := by simp
    rw [hms]
    refine (Try.slices_Sort_int_none a cap w).mono ?_
    rintro e w' ⟨rfl, rfl⟩
    exact ⟨ho, Chg.refl _ _⟩
  · obtain ⟨hl, ho'⟩ := ho
    rcases ho' with ⟨hv, -⟩ | ⟨g, cap', cur, hv, hbase, hg, h1, h2, h3, h4⟩
    · rw [Value.slice.injEq] at hv
      exact absurd (List.eq_nil_of_length_eq_zero hv.2.1) h0
    rw [Value.slice.injEq] at hv
    obtain ⟨rfl, -, rfl⟩ := hv
    have hlt := lt_of_heap hg
    have h2' : cap ≤ maxLen := h2
    unfold maxLen at h2'
    have ht : cur.toList.take zs.length = zs.map (Value.int .i64) := by rw [← hfl]; simpa using h4
    have hml : (zs.mergeSort fun x y => decide (x ≤ y)).length = zs.length := List.length_mergeSort _
    have hfl2 : ∀ l : List Int, l.flatMap intF = l.map (Value.int .i64) := by
      intro l
      induction l with
      | nil => rfl
      | cons x l ih => rw [List.flatMap_cons, ih]; rfl
    refine (Try.slices_Sort_int g 0 cap zs w (holds_of_blockI hg ht) hlt (by omega)).mono ?_
    rintro e w' ⟨rfl, n, os, rfl⟩
    refine ⟨?_, ?_⟩
    · have := ownsRow_sortedI (base := base) (n := n) (os := os) (ss := zs) (ts := zs.mergeSort fun x y => decide (x ≤ y)) hml hbase hg h1 h2 h3
      unfold Ox
      rw [hfl2, hml]
      exact this
    · obtain ⟨k1, k2, k3, k4, k5⟩ := grownBy_sortedI (w := w) (g := g) (n := n) (os := os) (zs.mergeSort fun x y => decide (x ≤ y)).toArray
      refine ⟨k1, k2, k3, k4, fun b hb hn => k5 b hb ?_⟩
      simp [Value.ownBlock] at hn
      intro he
      exact hn (Option.some.inj he)
/-- Numbers, rising, each once. -/
def Rising (l : List Int) : Prop := l.Pairwise (· < ·)
theorem sorted_rising {l : List Int} (h : l.Nodup) : Rising (l.mergeSort fun x y => decide (x ≤ y)) := by
  have h1 := List.pairwise_mergeSort (le := fun x y : Int => decide (x ≤ y)) (by intro a b c; simp; omega) (by intro a b; simp; omega) l
  have h2 : (l.mergeSort fun x y => decide (x ≤ y)).Nodup := (List.mergeSort_perm l _).nodup_iff.2 h
  have h3 : (l.mergeSort fun x y => decide (x ≤ y)).Pairwise (· ≠ ·) := h2
  exact (h1.and h3).imp fun h => by simp at h; omega
theorem sorted_c {w : World} {pt m c : Nat} {l : Ents} (hb : w.heap[pt]? = some (.cells #[.map (some m)] 87)) (hm : w.heap[m]? = some (.map (ents .i64 l) c)) (hlt : ∀ x ∈ l, ebo x < c) (hnd : (l.map ebo).Nodup) (hlen : l.length ≤ 1000000) (hk : (l.map (·.1)).Nodup) :
    Calls Try.prog 96 #[keysV pt] w (retK fun v w' => ∃ ks, ks.Perm (l.map (·.1)) ∧ Rising ks ∧ Ox w.heap.size w' 3 1 intF v ks ∧ Chg [] w w') := by
  have hcol : Calls Try.prog 111 #[keysV pt] w (retK fun v w' => ∃ ks, ks.Perm (l.map (·.1)) ∧ Ox w.heap.size w' 3 1 intF v ks ∧ Chg [] w w') := by
    apply slices_Collect_int_link
    intro K hK
    unfold slices_Collect_int
    refine OpX.call slices_AppendSeq_int_int_b rfl (Calls.ret (appseq_c hb hm hlt hnd hlen) ?_)
    exact fun v w' h => hK _ _ h
  apply slices_Sorted_int_link
  intro K hK
  unfold slices_Sorted_int
  refine OpX.call slices_Collect_int_b rfl (Calls.ret (hcol) ?_)
  rintro v w1 ⟨ks, hp, ho, hc⟩
  obtain ⟨a, cap, rfl, -, -, hown, -⟩ := ho.form
  refine OpX.call ?_ rfl (Calls.ret (sort_c ho (by rw [hp.length_eq]; simpa using hlen)) ?_)
  · exact bd Try.func112 (by kernel_rfl)
  rintro v w2 ⟨ho2, hc2⟩
  refine hK _ _ ⟨_, (List.mergeSort_perm _ _).trans hp, sorted_rising (hp.nodup_iff.2 hk), ?_, hc.trans hc2 fun x hx => .inr (ho.own_ge x hx)⟩
  have hml : (ks.mergeSort fun x y => decide (x ≤ y)).length = ks.length := List.length_mergeSort _
  exact ho2
end Go.Proofs.Ytdjdeahmhenchaa
