/- The contracts of package grid: loops over rows, Check, change. -/
import Derived.Test.YtdjdeahmhenchaaGrid
set_option linter.unusedSimpArgs false
set_option linter.unusedVariables false
namespace Go.Proofs.Ytdjdeahmhenchaa
open Lyc Go

def rowV (b o : Nat) (g : Gr) (y : Nat) : Value := .slice (some ⟨b, o + y * g.w * 4, none⟩) g.w g.w

/-- The boxes of a loop over rows stand. -/
structure Boxes (w : World) (g : Gr) (a : Option Addr) (cap pt : Nat) (top fin : Int) : Prop where
  t : w.heap[pt + 1]? = some (.cells #[.int .i64 top] 3)
  e : w.heap[pt + 2]? = some (.cells #[.int .i64 fin] 3)
  g : w.heap[pt]? = some (.cells #[.int .i64 g.w, .int .i64 g.h, .slice a g.cs.length cap] 54)

theorem Boxes.chg {w w' : World} {g : Gr} {a : Option Addr} {cap pt : Nat} {top fin : Int} {F : List Nat} (h : Boxes w g a cap pt top fin) (hc : Chg F w w') (hF : ∀ x ∈ F, x < pt ∨ pt + 2 < x) : Boxes w' g a cap pt top fin :=
  ⟨hc.keep h.t (fun hm => by have := hF _ hm; omega), hc.keep h.e (fun hm => by have := hF _ hm; omega), hc.keep h.g (fun hm => by have := hF _ hm; omega)⟩

theorem rows1_c {w : World} {g : Gr} (hg : g.ok) {b o cap pt : Nat} (hcap : g.cs.length ≤ cap) {top fin : Int} {yv : Value} (ht : -9223372036854775808 ≤ top) (ht2 : top ≤ 9223372036854775807)
    (Inv : Nat → World → Prop) (Stop : World → Prop) (hI : ∀ y w1, Inv y w1 → Boxes w1 g (some ⟨b, o, none⟩) cap pt top fin) (hS : ∀ y w1 w2, Inv y w1 → Chg [] w1 w2 → Inv y w2)
    (h0 : Inv (max top 0).toNat w)
    (hR : ∀ y w1, Inv y w1 → top ≤ (y : Int) → (y : Int) < fin → y < g.h → YCall Try.prog yv [.int .i64 y, rowV b o g y] (fun v w2 => (v = .bool true ∧ Inv (y + 1) w2) ∨ (v = .bool false ∧ Stop w2)) w1) :
    Calls Try.prog 110 #[yv, .pointer (some ⟨pt + 1, 0, none⟩), .pointer (some ⟨pt + 2, 0, none⟩), .pointer (some ⟨pt, 0, none⟩)] w
      (retK fun _ w' => (∃ y : Nat, top ≤ (y : Int) ∧ (min fin g.h ≤ y) ∧ ((y : Int) ≤ min fin g.h ∨ (y : Int) = max top 0) ∧ Inv y w') ∨ Stop w') := by
  have hB := hI _ _ h0
  have h5 := hg.h1
  apply grid_rows_1_link
  intro K hK
  unfold grid_rows_1
  simp -dsimp (disch := first | omega | (simp only [go_sem, seval]; first | done | omega)) only [go_sem, seval, hB.t]
  refine Loop1.st (fun y : Nat => .int .i64 y) (fun y w1 => Inv y w1 ∧ top ≤ (y : Int) ∧ ((y : Int) ≤ min fin g.h ∨ (y : Int) = max top 0)) (fun y => g.h - y) (max top 0).toNat (by congr 1; omega) ⟨h0, by omega, by omega⟩ ?_
  rintro next y w1 hn ⟨hi, h1, h2⟩
  have hB1 := hI _ _ hi
  simp -dsimp (disch := first | omega | (simp only [go_sem, seval]; first | done | omega)) only [go_sem, seval, hB1.e, hB1.g]
  refine BrW.dec (fun h3 => ?_) (fun h3 => ?_)
  · simp -dsimp (disch := first | omega | (simp only [go_sem, seval]; first | done | omega)) only [go_sem, seval, hB1.g]
    refine OpX.call grid_cut_b rfl (Calls.ret (cut_c (w := w1) hg b o cap hcap y (by omega)) ?_)
    rintro v w2 ⟨rfl, hc⟩
    refine (hR y w2 (hS _ _ _ hi hc) h1 (by omega) (by omega)).use ?_
    rintro v w3 (⟨rfl, hi3⟩ | ⟨rfl, hs3⟩)
    · simp -dsimp (disch := first | omega | (simp only [go_sem, seval]; first | done | omega)) only [go_sem, seval]
      exact hn (y + 1) _ ⟨hi3, by omega, by omega⟩ (by omega)
    · simp -dsimp (disch := first | omega | (simp only [go_sem, seval]; first | done | omega)) only [go_sem, seval]
      exact hK _ _ (.inr hs3)
  · exact hK _ _ (.inl ⟨y, h1, by omega, h2, hi⟩)

def rowsV (pt : Nat) : Value := .func (.func 110) #[] #[.pointer (some ⟨pt + 1, 0, none⟩), .pointer (some ⟨pt + 2, 0, none⟩), .pointer (some ⟨pt, 0, none⟩)]

theorem rows_c (w : World) (g : Gr) (a : Option Addr) (cap : Nat) (top fin : Int) : Calls Try.prog 94 #[g.val a cap, .int .i64 top, .int .i64 fin] w
    (retK fun v w' => v = rowsV w.heap.size ∧ Boxes w' g a cap w.heap.size top fin ∧ Chg [] w w' ∧ w'.heap.size = w.heap.size + 3) := by
  apply grid_rows_link
  intro K hK
  unfold grid_rows
  simp -dsimp (disch := first | omega | (simp only [go_sem, seval]; first | done | omega)) only [go_sem, seval, Gr.val]
  exact hK _ _ ⟨rfl, ⟨(by simp -dsimp (disch := first | omega | (simp only [go_sem, seval]; first | done | omega)) only [go_sem, seval]), (by simp -dsimp (disch := first | omega | (simp only [go_sem, seval]; first | done | omega)) only [go_sem, seval]), (by simp -dsimp (disch := first | omega | (simp only [go_sem, seval]; first | done | omega)) only [go_sem, seval])⟩, (((Chg.refl [] w).alloc _).alloc _).alloc _, (by simp -dsimp (disch := first | omega | (simp only [go_sem, seval]; first | done | omega)) only [go_sem, seval])⟩

/-- A loop over rows. -/
theorem rng_rows {w : World} {g : Gr} (hg : g.ok) {b o cap pt : Nat} (hcap : g.cs.length ≤ cap) {top fin : Int} (ht : -9223372036854775808 ≤ top) (ht2 : top ≤ 9223372036854775807)
    (hB : Boxes w g (some ⟨b, o, none⟩) cap pt top fin) (F : List Nat) (hF : ∀ x ∈ F, x < w.heap.size ∧ (x < pt ∨ pt + 2 < x)) (I : Nat → World → Prop) (Stop : World → Prop)
    (hI : ∀ y w1 w2, I y w1 → Chg [w.heap.size + 1] w1 w2 → I y w2) (hSt : ∀ w1 w2, Stop w1 → Chg [w.heap.size + 1] w1 w2 → Stop w2) (h0 : I (max top 0).toNat w)
    {body : List Value → (World → Prop) → (World → Prop) → (Nat → World → Prop) → World → Prop} {QN QR : Nat → World → Prop} {QE : List (Nat × (Nat → World → Prop))}
    (hR : ∀ y kn kr kx w1, Chg F w w1 → w.heap.size + 2 ≤ w1.heap.size → I y w1 → top ≤ (y : Int) → (y : Int) < fin → y < g.h → (∀ w2 G, Chg G w1 w2 → (∀ x ∈ G, x ∈ F ∨ w.heap.size + 2 ≤ x) → I (y + 1) w2 → kn w2) → (∀ w2 G, Chg G w1 w2 → (∀ x ∈ G, x ∈ F ∨ w.heap.size + 2 ≤ x) → Stop w2 → kr w2) → body [.int .i64 y, rowV b o g y] kn kr kx w1)
    (hN : ∀ y w2, Chg F w w2 → w2.heap[w.heap.size]? = some (.deferred (some [])) → I y w2 → top ≤ (y : Int) → (min fin g.h ≤ y) → ((y : Int) ≤ min fin g.h ∨ (y : Int) = max top 0) → QN w.heap.size w2)
    (hQ : ∀ w2, Chg F w w2 → w2.heap[w.heap.size]? = some (.deferred (some [])) → Stop w2 → QR w.heap.size w2) :
    RngX Try.prog (rowsV pt) 2 (fun vs bg kn kr kx w => bg (fun w => body vs kn kr kx w) w) QN QR QE w := by
  have hp := lt_of_heap hB.e
  have hlow : ∀ {w2 : World} {G : List Nat} (Lp : Obj), Chg ((w.heap.size + 1) :: F) ((w.alloc (.deferred (some []))).alloc Lp) w2 → Chg F w w2 := fun {w2} {G} Lp h =>
    ((((Chg.refl F w).alloc (.deferred (some []))).alloc Lp).trans h (by
      intro x hx
      rcases List.mem_cons.1 hx with rfl | hx
      · exact .inr (by omega)
      · exact .inl hx))
  refine ⟨fun Lp yv hy => ⟨_, [], _, rfl, grid_rows_1_b, ?_⟩⟩
  have hl : ∀ (st : LSt), ((w.alloc (.deferred (some []))).alloc (Lp st)).heap[w.heap.size + 1]? = some (Lp st) := fun st => by simp -dsimp (disch := first | omega | (simp only [go_sem, seval]; first | done | omega)) only [go_sem, seval]
  have hr : ∀ (st : LSt), ((w.alloc (.deferred (some []))).alloc (Lp st)).heap[w.heap.size]? = some (.deferred (some [])) := fun st => by simp -dsimp (disch := first | omega | (simp only [go_sem, seval]; first | done | omega)) only [go_sem, seval]
  have hcB : Boxes ((w.alloc (.deferred (some []))).alloc (Lp .ready)) g (some ⟨b, o, none⟩) cap pt top fin := hB.chg (((Chg.refl [] w).alloc _).alloc _) (by simp)
  have hFw : w.heap.size ∉ (w.heap.size + 1) :: F := by
    intro hm
    rcases List.mem_cons.1 hm with h | h
    · omega
    · have := hF _ h; omega
  refine Calls.ret (rows1_c (w := (w.alloc (.deferred (some []))).alloc (Lp .ready)) hg hcap (b := b) (o := o) (pt := pt) (top := top) (fin := fin) (yv := yv) ht ht2
    (fun y w1 => I y w1 ∧ Chg ((w.heap.size + 1) :: F) ((w.alloc (.deferred (some []))).alloc (Lp .ready)) w1 ∧ w1.heap[w.heap.size + 1]? = some (Lp .ready))
    (fun w1 => Stop w1 ∧ Chg ((w.heap.size + 1) :: F) ((w.alloc (.deferred (some []))).alloc (Lp .ready)) w1 ∧ w1.heap[w.heap.size + 1]? = some (Lp (.gone .ret)))
    ?_ ?_ ?_ ?_) (fun v w' h => ?_)
  · rintro y w1 ⟨_, hc, _⟩
    refine hcB.chg hc fun x hx => ?_
    rcases List.mem_cons.1 hx with rfl | hx
    · exact .inr (by omega)
    · exact (hF x hx).2
  · rintro y w1 w2 ⟨hi, hc, hw⟩ h12
    exact ⟨hI _ _ _ hi (h12.mono (by simp)), hc.trans0 h12, h12.keep hw (by simp)⟩
  · exact ⟨hI _ _ _ h0 ((((Chg.refl _ w).alloc _).alloc _)), Chg.refl _ _, hl _⟩
  · rintro y w1 ⟨hi, hc, hw⟩ h1 h2 h3
    refine hy _ _ _ rfl hw ⟨hw, ?_⟩
    have hcb : Chg [w.heap.size + 1] w1 (setBlk w1 (w.heap.size + 1) (Lp .busy)) := (Chg.refl _ _).set _ _ (by simp)
    have hcL : Chg ((w.heap.size + 1) :: F) ((w.alloc (.deferred (some []))).alloc (Lp .ready)) (setBlk w1 (w.heap.size + 1) (Lp .busy)) := hc.trans hcb (by simp)
    have hzl : ((w.alloc (.deferred (some []))).alloc (Lp .ready)).heap.size = w.heap.size + 2 := by simp -dsimp (disch := first | omega | (simp only [go_sem, seval]; first | done | omega)) only [go_sem, seval]
    have hlG : ∀ G : List Nat, (∀ x ∈ G, x ∈ F ∨ w.heap.size + 2 ≤ x) → (w.heap.size + 1) ∉ G := fun G hG hm => by
      rcases hG _ hm with h | h
      · have := hF _ h; omega
      · omega
    refine hR y _ _ _ _ (hlow (G := F) _ hcL) (by have := hcL.size; omega) (hI _ _ _ hi hcb) h1 h2 h3 (fun w2 G hc2 hG hi2 => ?_) (fun w2 G hc2 hG hs2 => ?_)
    · have hb := hc2.keep (heap_set_same _ _ _ _ rfl (lt_of_heap hw)) (hlG G hG)
      exact ⟨hb, .inl ⟨rfl, hI _ _ _ hi2 ((Chg.refl _ _).set _ _ (by simp)), (hcL.trans hc2 (fun x hx => (hG x hx).elim (fun h => .inl (by simp [h])) (fun h => .inr (by omega)))).set _ _ (.inl (by simp)), heap_set_same _ _ _ _ rfl (lt_of_heap hb)⟩⟩
    · have hb := hc2.keep (heap_set_same _ _ _ _ rfl (lt_of_heap hw)) (hlG G hG)
      exact ⟨hb, .inr ⟨rfl, hSt _ _ hs2 ((Chg.refl _ _).set _ _ (by simp)), (hcL.trans hc2 (fun x hx => (hG x hx).elim (fun h => .inl (by simp [h])) (fun h => .inr (by omega)))).set _ _ (.inl (by simp)), heap_set_same _ _ _ _ rfl (lt_of_heap hb)⟩⟩
  · obtain ⟨y, h1, h2, h3, hi, hc, hw⟩ | ⟨hs, hc, hw⟩ := h
    · have hc' := hc.set (w.heap.size + 1) (Lp (.over .normal)) (.inl (by simp))
      exact .inl ⟨hw, hN y _ (hlow (G := F) _ hc') (hc'.keep (hr _) hFw) (hI _ _ _ hi ((Chg.refl _ _).set _ _ (by simp))) h1 h2 h3⟩
    · have hc' := hc.set (w.heap.size + 1) (Lp (.over .ret)) (.inl (by simp))
      exact .inr (.inl ⟨hw, hQ _ (hlow (G := F) _ hc') (hc'.keep (hr _) hFw) (hSt _ _ hs ((Chg.refl _ _).set _ _ (by simp)))⟩)

theorem gcheck_c {w : World} {g : Gr} (hg : g.ok) {e : Option TypeId} {a : Option Addr} (hs : SxC w e a g.cs) (cap : Nat) (hcap : g.cs.length ≤ cap) : Calls Try.prog 51 #[g.val a cap] w
    (retK fun v w' => v = .bool g.right ∧ Chg [] w w') := by
  obtain ⟨b, o, _, _, _, _, _, rfl, hb0, _⟩ := hs.at_ hg.ne
  have hb0' := lt_of_heap hb0
  clear hb0
  have hle := hg.le
  have hm : (g.w : Int) * (g.h : Int) = (g.cs.length : Int) := by rw [hg.len]; simp
  have h0 := hg.h0
  have h1 := hg.h1
  apply grid_Check_link
  intro K hK
  unfold grid_Check
  simp -dsimp (disch := first | omega | (simp only [go_sem, seval]; first | done | omega)) only [go_sem, seval, Gr.val]
  refine Join1.inl ?_
  simp -dsimp (disch := first | omega | (simp only [go_sem, seval]; first | done | omega)) only [go_sem, seval]
  refine OpX.call grid_fits_b rfl (Calls.ret (fits_c _ g.w g.h) ?_)
  rintro v w1 ⟨rfl, rfl⟩
  simp -dsimp (disch := first | omega | (simp only [go_sem, seval]; first | done | omega)) only [go_sem, seval, hg.fits, hm]
  have hcw := ((Chg.refl [] w).alloc (Obj.cells #[.int .i64 g.w, .int .i64 g.h, .slice (some ⟨b, o, none⟩) g.cs.length cap] 54)).alloc (Obj.cells #[.bool false] 4)
  have hrv : ((w.alloc (Obj.cells #[.int .i64 g.w, .int .i64 g.h, .slice (some ⟨b, o, none⟩) g.cs.length cap] 54)).alloc (Obj.cells #[.bool false] 4)).heap[w.heap.size + 1]? = some (Obj.cells #[.bool false] 4) := by simp -dsimp (disch := first | omega | (simp only [go_sem, seval]; first | done | omega)) only [go_sem, seval]
  refine OpX.call grid_rows_b rfl (Calls.ret (rows_c _ g (some ⟨b, o, none⟩) cap 0 g.h) ?_)
  rintro v w2 ⟨rfl, hB, hc2, hsz⟩
  have hs2 := (hs.chg0 hcw).chg0 hc2
  have hrv2 := hc2.keep hrv (by simp)
  have hcw2 := hcw.trans0 hc2
  have e1 : ((w.alloc (Obj.cells #[.int .i64 g.w, .int .i64 g.h, .slice (some ⟨b, o, none⟩) g.cs.length cap] 54)).alloc (Obj.cells #[.bool false] 4)).heap.size = w.heap.size + 2 := by simp -dsimp (disch := first | omega | (simp only [go_sem, seval]; first | done | omega)) only [go_sem, seval]
  rw [e1] at hB hsz ⊢
  clear hc2 hcw hrv hs
  refine rng_rows hg hcap (by omega) (by omega) hB [w.heap.size + 1] (by simp; omega) (fun y w1 => (∀ y' < y, right (g.row y') = true) ∧ w1.heap[w.heap.size + 1]? = some (Obj.cells #[.bool false] 4))
    (fun w1 => g.right = false ∧ w1.heap[w.heap.size + 1]? = some (Obj.cells #[.bool false] 4)) ?_ ?_ ⟨by simp, hrv2⟩ ?_ ?_ ?_
  · rintro y w3 w4 ⟨h2, h3⟩ hc
    exact ⟨h2, hc.keep h3 (by simp; omega)⟩
  · rintro w3 w4 ⟨h2, h3⟩ hc
    exact ⟨h2, hc.keep h3 (by simp; omega)⟩
  · rintro y kn kr kx w3 hc - ⟨hi, hr3⟩ - - hy hkn hkr
    have hs3 : SxC w3 e (some ⟨b, o + y * g.w * 4, none⟩) (g.row y) := by
      refine Sx.sub (hs2.chg hc ?_) Cel.len (y * g.w) g.w _ (.inr (.inr rfl))
      intro b' o' hb' _ hm'
      cases hb'
      simp at hm'
      omega
    have hrl := hg.row_len hy
    have hw1 := hg.w1
    have hrc := right_c hs3 g.w (by omega)
    rw [hrl] at hrc
    simp -dsimp (disch := first | omega | (simp only [go_sem, seval]; first | done | omega)) only [go_sem, seval, rowV]
    refine OpX.call cell_Right_b rfl (Calls.ret (hrc) ?_)
    rintro v w4 ⟨rfl, hc4⟩
    have hr4 := hc4.keep hr3 (by simp)
    simp -dsimp (disch := first | omega | (simp only [go_sem, seval]; first | done | omega)) only [go_sem, seval]
    refine BrW.by (fun h => ?_) (fun h => ?_)
    · simp -dsimp (disch := first | omega | (simp only [go_sem, seval]; first | done | omega)) only [go_sem, seval, hr4]
      refine hkr _ [w.heap.size + 1] ((hc4.mono (by simp)).set _ _ (by simp)) (by simp) ⟨g.right_not hy (by simpa using h), heap_set_same _ _ _ _ rfl (lt_of_heap hr4)⟩
    · refine hkn _ [] hc4 (by simp) ⟨?_, hr4⟩
      intro y' hy'
      by_cases he : y' = y
      · subst he; simpa using h
      · exact hi _ (by omega)
  · rintro y w3 hc3 hd ⟨hi, hr3⟩ - h2 -
    have hlt := lt_of_heap hr3
    simp -dsimp (disch := first | omega | (simp only [go_sem, seval]; first | done | omega)) only [go_sem, seval, hr3]
    refine close_by (by simp -dsimp (disch := first | omega | (simp only [go_sem, seval]; first | done | omega)) only [go_sem, seval, hd]) ?_
    simp -dsimp (disch := first | omega | (simp only [go_sem, seval]; first | done | omega)) only [go_sem, seval]
    refine hK _ _ ⟨?_, ?_⟩
    · rw [g.right_of (fun y' hy' => hi _ (by omega))]
    · refine (hcw2.trans hc3 (by simp)).set _ _ (.inr (by omega)) |>.set _ _ (.inr (by omega))
  · rintro w3 hc3 hd ⟨hr, hr3⟩
    refine close_by hd ?_
    simp -dsimp (disch := first | omega | (simp only [go_sem, seval]; first | done | omega)) only [go_sem, seval, hr3]
    refine hK _ _ ⟨?_, ?_⟩
    · rw [hr]
    · refine (hcw2.trans hc3 (by simp)).set _ _ (.inr (by omega))

/-- A grid lies whole in a block that was made behind base. -/
def GAt (base : Nat) (w : World) (v : Value) (g : Gr) : Prop :=
  ∃ nb cap sp, v = g.val (some ⟨nb, 0, none⟩) cap ∧ g.cs.length ≤ cap ∧ base ≤ nb ∧ w.heap[nb]? = some (.cells (g.cs.flatMap Cel.cells ++ sp).toArray 44)

theorem GAt.chg0 {base : Nat} {w w' : World} {v : Value} {g : Gr} (h : GAt base w v g) (hc : Chg [] w w') : GAt base w' v g :=
  let ⟨nb, cap, sp, h1, h2, h3, h4⟩ := h; ⟨nb, cap, sp, h1, h2, h3, hc.keep h4 (by simp)⟩
theorem GAt.low {base : Nat} {w w' : World} {v : Value} {g : Gr} {F : List Nat} (h : GAt base w v g) (hc : Chg F w w') (hF : ∀ x ∈ F, x < base) : GAt base w' v g :=
  let ⟨nb, cap, sp, h1, h2, h3, h4⟩ := h; ⟨nb, cap, sp, h1, h2, h3, hc.keep h4 fun hm => by have := hF _ hm; omega⟩
theorem GAt.le {base base' : Nat} {w : World} {v : Value} {g : Gr} (h : GAt base w v g) (hb : base' ≤ base) : GAt base' w v g :=
  let ⟨nb, cap, sp, h1, h2, h3, h4⟩ := h; ⟨nb, cap, sp, h1, h2, Nat.le_trans hb h3, h4⟩
theorem GAt.sx {base : Nat} {w : World} {v : Value} {g : Gr} (h : GAt base w v g) : ∃ nb cap, v = g.val (some ⟨nb, 0, none⟩) cap ∧ g.cs.length ≤ cap ∧ base ≤ nb ∧ nb < w.heap.size ∧ SxC w (some 44) (some ⟨nb, 0, none⟩) g.cs :=
  let ⟨nb, cap, sp, h1, h2, h3, h4⟩ := h; ⟨nb, cap, h1, h2, h3, lt_of_heap h4, ⟨fun _ => ⟨nb, 0, _, _, _, [], sp, rfl, h4, by simp [tagOk], by simp, rfl⟩⟩⟩

/-- What a closure does with a row. -/
def DoSpec (w : World) (g : Gr) (top fin : Int) (dv : Value) (f : Nat → List Cel) : Prop :=
  ∀ (y : Nat) (w1 : World) (nb : Nat) (pre post : List Value), top ≤ (y : Int) → (y : Int) < fin → y < g.h → Chg [] w w1 → w.heap.size ≤ nb →
    w1.heap[nb]? = some (.cells (pre ++ (g.row y).flatMap Cel.cells ++ post).toArray 44) → pre.length = y * g.w * 4 →
    YCall Try.prog dv [.int .i64 y, rowV nb 0 g y] (fun _ w2 => Chg [nb] w1 w2 ∧ w2.heap[nb]? = some (.cells (pre ++ (f y).flatMap Cel.cells ++ post).toArray 44)) w1

theorem change_c {w : World} {g : Gr} (hg : g.ok) {e : Option TypeId} {a : Option Addr} (hs : SxC w e a g.cs) (cap : Nat) {top fin : Int} (ht : -9223372036854775808 ≤ top) (ht2 : top ≤ 9223372036854775807)
    {fn : Fn} {us cs : Array Value} {f : Nat → List Cel} (hdo : DoSpec w g top fin (.func fn us cs) f) (hf : ∀ y, y < g.h → top ≤ (y : Int) → (y : Int) < fin → (f y).length = g.w) :
    Calls Try.prog 73 #[g.val a cap, .int .i64 top, .int .i64 fin, .func fn us cs] w (retK fun v w' => GAt w.heap.size w' v (g.chg top fin f) ∧ Chg [] w w') := by
  have hle := hg.le
  have h0 := hg.h0
  have h1 := hg.h1
  apply grid_change_link
  intro K hK
  unfold grid_change
  simp -dsimp (disch := first | omega | (simp only [go_sem, seval]; first | done | omega)) only [go_sem, seval, Gr.val]
  have hcw := (((Chg.refl [] w).alloc (Obj.cells #[.int .i64 g.w, .int .i64 g.h, .slice a g.cs.length cap] 54)).alloc (Obj.cells #[.func fn us cs] 110)).alloc (Obj.cells #[.int .i64 0, .int .i64 0, .slice none 0 0] 54)
  generalize hw0 : (((w.alloc (Obj.cells #[.int .i64 g.w, .int .i64 g.h, .slice a g.cs.length cap] 54)).alloc (Obj.cells #[.func fn us cs] 110)).alloc (Obj.cells #[.int .i64 0, .int .i64 0, .slice none 0 0] 54)) = w0 at *
  have hz : w0.heap.size = w.heap.size + 3 := by subst hw0; simp -dsimp (disch := first | omega | (simp only [go_sem, seval]; first | done | omega)) only [go_sem, seval]
  have hg0 : w0.heap[w.heap.size]? = some (Obj.cells #[.int .i64 g.w, .int .i64 g.h, .slice a g.cs.length cap] 54) := by subst hw0; simp -dsimp (disch := first | omega | (simp only [go_sem, seval]; first | done | omega)) only [go_sem, seval]
  have hd0 : w0.heap[w.heap.size + 1]? = some (Obj.cells #[.func fn us cs] 110) := by subst hw0; simp -dsimp (disch := first | omega | (simp only [go_sem, seval]; first | done | omega)) only [go_sem, seval]
  have hr0 : w0.heap[w.heap.size + 2]? = some (Obj.cells #[.int .i64 0, .int .i64 0, .slice none 0 0] 54) := by subst hw0; simp -dsimp (disch := first | omega | (simp only [go_sem, seval]; first | done | omega)) only [go_sem, seval]
  refine OpX.call slices_Clone_api_Cell_api_Cell_b rfl (Calls.ret (clone_c (hs.chg0 hcw) cap (by omega)) ?_)
  rintro v w1 ⟨ho, hc1⟩
  obtain ⟨nb, cap', sp, rfl, hcap, hnb, hblk⟩ := ho.blk hg.ne
  clear ho
  have hg1 := hc1.keep hg0 (by simp)
  have hd1 := hc1.keep hd0 (by simp)
  have hr1 := hc1.keep hr0 (by simp)
  have hnb1 := lt_of_heap hblk
  simp -dsimp (disch := first | omega | (simp only [go_sem, seval]; first | done | omega)) only [go_sem, seval, hg1]
  have hb1 : w1.heap[nb]? ≠ none := by rw [hblk]; simp
  have hc2 : Chg [] w (setBlk w1 w.heap.size (Obj.cells #[.int .i64 g.w, .int .i64 g.h, .slice (some ⟨nb, 0, none⟩) g.cs.length cap'] 54)) := (hcw.trans0 hc1).set _ _ (.inr (Nat.le_refl _))
  have hg2 := heap_set_same w1 w.heap.size (Obj.cells #[.int .i64 g.w, .int .i64 g.h, .slice (some ⟨nb, 0, none⟩) g.cs.length cap'] 54) w.heap.size rfl (lt_of_heap hg1)
  have hd2 := ((Chg.refl [w.heap.size] w1).set w.heap.size (Obj.cells #[.int .i64 g.w, .int .i64 g.h, .slice (some ⟨nb, 0, none⟩) g.cs.length cap'] 54) (by simp)).keep hd1 (by simp)
  have hr2 := ((Chg.refl [w.heap.size] w1).set w.heap.size (Obj.cells #[.int .i64 g.w, .int .i64 g.h, .slice (some ⟨nb, 0, none⟩) g.cs.length cap'] 54) (by simp)).keep hr1 (by simp)
  have hb2 := ((Chg.refl [w.heap.size] w1).set w.heap.size (Obj.cells #[.int .i64 g.w, .int .i64 g.h, .slice (some ⟨nb, 0, none⟩) g.cs.length cap'] 54) (by simp)).keep hblk (by simp; omega)
  generalize hw2 : setBlk w1 w.heap.size (Obj.cells #[.int .i64 g.w, .int .i64 g.h, .slice (some ⟨nb, 0, none⟩) g.cs.length cap'] 54) = w2 at *
  refine OpX.call grid_rows_b rfl (Calls.ret (rows_c _ g (some ⟨nb, 0, none⟩) cap' top fin) ?_)
  rintro v w3 ⟨rfl, hB, hc3, hsz3⟩
  have hc3' := hc2.trans0 hc3
  have hg3 := hc3.keep hg2 (by simp)
  have hd3 := hc3.keep hd2 (by simp)
  have hr3 := hc3.keep hr2 (by simp)
  have hb3 := hc3.keep hb2 (by simp)
  have hlt2 := lt_of_heap hb2
  have hlt3 := lt_of_heap hb3
  have hRl : ∀ Y y, y < g.h → (if top ≤ (y : Int) ∧ (y : Int) < fin ∧ y < Y then mend (f y) else g.row y).length = g.w := by
    intro Y y hy
    split
    · rename_i h9; rw [mend_len, hf y hy h9.1 h9.2.1]
    · exact hg.row_len hy
  refine rng_rows hg hcap ht ht2 hB [nb] (by simp; omega)
    (fun Y w4 => w4.heap[nb]? = some (Obj.cells ((rowsOf (fun y => if top ≤ (y : Int) ∧ (y : Int) < fin ∧ y < Y then mend (f y) else g.row y) g.h).flatMap Cel.cells ++ sp).toArray 44)) (fun _ => False) ?_ ?_ ?_ ?_ ?_ ?_
  · intro y w4 w5 h4 hc
    exact hc.keep h4 (by simp; omega)
  · intro w4 w5 h4 _
    exact h4
  · rw [hb3, ← hg.rows]
    congr 5
    refine rowsOf_congr fun y hy => ?_
    rw [if_neg (by omega)]
  · intro y kn kr kx w4 hc4 _ hi hy1 hy2 hy3 hkn _
    obtain ⟨d, hd⟩ : ∃ d, g.h = y + 1 + d := ⟨g.h - (y + 1), by omega⟩
    obtain ⟨post, hp⟩ := rowsOf_split (fun k => if top ≤ (k : Int) ∧ (k : Int) < fin ∧ k < y then mend (f k) else g.row k) y d
    have hp1 := hp _ (fun _ _ => rfl)
    have hp2 := hp (fun k => if top ≤ (k : Int) ∧ (k : Int) < fin ∧ k < y + 1 then mend (f k) else g.row k) (fun k hk => by
      have : (top ≤ (k : Int) ∧ (k : Int) < fin ∧ k < y + 1) ↔ (top ≤ (k : Int) ∧ (k : Int) < fin ∧ k < y) := by omega
      simp only [this])
    rw [← hd] at hp1 hp2
    simp only [Nat.lt_irrefl, and_false, if_false] at hp1
    rw [if_pos (by omega)] at hp2
    have hpl := rowsOf_len (R := fun k => if top ≤ (k : Int) ∧ (k : Int) < fin ∧ k < y then mend (f k) else g.row k) (w := g.w) (h := y) (fun k hk => hRl y k (by omega))
    generalize rowsOf (fun k => if top ≤ (k : Int) ∧ (k : Int) < fin ∧ k < y then mend (f k) else g.row k) y = pre at hp1 hp2 hpl
    have hpc : (pre.flatMap Cel.cells).length = y * g.w * 4 := by rw [flat_len Cel.len, hpl]
    rw [hp1] at hi
    have hi' : w4.heap[nb]? = some (Obj.cells (pre.flatMap Cel.cells ++ (g.row y).flatMap Cel.cells ++ (post.flatMap Cel.cells ++ sp)).toArray 44) := by
      rw [hi]; simp
    have hd4 := hc4.keep hd3 (by simp; omega)
    have hw1 := hg.w1
    simp -dsimp (disch := first | omega | (simp only [go_sem, seval]; first | done | omega)) only [go_sem, seval, hd4]
    refine (hdo y w4 nb _ _ hy1 hy2 hy3 (hc3'.trans hc4 (by simp; omega)) (by omega) hi' hpc).use ?_
    rintro v w5 ⟨hc5, hb5⟩
    have hs5 : SxC w5 (some 44) (some ⟨nb, y * g.w * 4, none⟩) (f y) := ⟨fun _ => ⟨nb, _, _, _, _, _, _, rfl, hb5, by simp [tagOk], rfl, by omega⟩⟩
    have hmc := mend_c hs5 g.w (by rw [hf y hy3 hy1 hy2]; omega)
    rw [hf y hy3 hy1 hy2] at hmc
    simp -dsimp (disch := first | omega | (simp only [go_sem, seval]; first | done | omega)) only [go_sem, seval, rowV]
    refine OpX.call cell_Mend_b rfl (Calls.ret (hmc) ?_)
    rintro v w6 ⟨ho6, hc6⟩
    have hml : (mend (f y)).length = g.w := by rw [mend_len, hf y hy3 hy1 hy2]
    have hw0' := hg.w0
    obtain ⟨mb, cap6, sp6, rfl, hcap6, hmb, hblk6⟩ := ho6.blk (by intro h; rw [h] at hml; simp at hml; omega)
    rw [hml]
    have hb6 := hc6.keep hb5 (by simp)
    have hs6 : SxC w6 (some 44) (some ⟨mb, 0, none⟩) (mend (f y)) := ⟨fun _ => ⟨mb, 0, _, _, _, [], _, rfl, hblk6, by simp [tagOk], rfl, rfl⟩⟩
    refine copy_raw (new := (mend (f y)).flatMap Cel.cells) ty45sl hb6 (by omega) (by rw [flat_len Cel.len, flat_len Cel.len, hml, hf y hy3 hy1 hy2]) (by rw [flat_len Cel.len, hml]; simp) (okCells_flat Cel.ok _) hs6.cell ?_
    refine hkn _ [nb] (((hc5.trans0 hc6)).set _ _ (by simp)) (by simp) ?_
    rw [heap_set_same _ _ _ _ rfl (lt_of_heap hb6), hp2]
    simp
  · intro y w4 hc4 hd hi h2 h3 h4
    have hg4 := hc4.keep hg3 (by simp; omega)
    have hr4 := hc4.keep hr3 (by simp; omega)
    have hlt := lt_of_heap hr4
    simp -dsimp (disch := first | omega | (simp only [go_sem, seval]; first | done | omega)) only [go_sem, seval, hg4, hr4]
    refine close_by (by simp -dsimp (disch := first | omega | (simp only [go_sem, seval]; first | done | omega)) only [go_sem, seval, hd]) ?_
    simp -dsimp (disch := first | omega | (simp only [go_sem, seval]; first | done | omega)) only [go_sem, seval]
    refine hK _ _ ⟨⟨nb, cap', sp, ?_, ?_, by omega, ?_⟩, ?_⟩
    · show _ = Value.agg #[.int .i64 g.w, .int .i64 g.h, .slice _ (g.chg top fin f).cs.length cap']
      rw [Gr.chg_len hg hf]
    · rw [Gr.chg_len hg hf]; exact hcap
    · rw [heap_set_other _ _ _ _ (by omega), heap_set_other _ _ _ _ (by omega), hi]
      congr 5
      refine rowsOf_congr fun k hk => ?_
      have : (top ≤ (k : Int) ∧ (k : Int) < fin ∧ k < y) ↔ (top ≤ (k : Int) ∧ (k : Int) < fin) := by omega
      simp only [this]
    · exact ((hc3'.trans hc4 (by simp; omega)).set _ _ (.inr (by omega))).set _ _ (.inr (by omega))
  · intro w4 _ _ h4
    exact h4.elim
end Go.Proofs.Ytdjdeahmhenchaa
