/- Helpers of this claim, part 5: engine, translated functions, contracts, plain laws. -/
import Derived.Test.YtjfembffjjijaaaGreatB2
import Derived.Test.YtjfembffjjijaaaGreatB4
import Derived.Test.YtjfembffjjijaaaGreatB1
set_option linter.unusedSimpArgs false
set_option linter.unusedVariables false
namespace Lyc
open Go
structure Tape (S : Scr) (W H : Nat) (R : Nat → Nat → Cel) (a x g : Nat) (wt : Bool) : Prop where
  ok : S.ok
  w : S.w = W
  h : S.h = H
  alt : S.alt = false
  top : S.top = 0
  fin : S.fin = H
  wraps : S.wraps = true
  shown : S.shown = true
  pen : S.now.pen = Cel.none
  nx : S.now.x = x
  ny : S.now.y + (a + 1 - H) = a
  wt : S.waits = wt
  g0 : S.g0 = Gr.of W H fun y => lineOf W (R (a + 1 - H + y))
  gn : S.gone = (List.range' g (a + 1 - H - g)).map fun y => lineOf W (R y)
  gl : g ≤ a + 1 - H
  bl : ∀ i j, a < i → R i j = Cel.blank
  sg : ∀ i j, (R i j).single = true
theorem line_single {W : Nat} {f : Nat → Cel} (h : ∀ j, (f j).single = true) : mend (lineOf W f) = lineOf W f :=
  mend_id (right_single fun c hc => by
    unfold lineOf at hc
    obtain ⟨j, -, rfl⟩ := List.mem_map.1 hc
    exact h j)
theorem Gr.of_congr {w h : Nat} {R S : Nat → List Cel} (e : ∀ y, y < h → R y = S y) : Gr.of w h R = Gr.of w h S := by
  unfold Gr.of
  rw [rowsOf_congr e]
section
variable {S : Scr} {W H : Nat} {R : Nat → Nat → Cel} {a x g : Nat} {wt : Bool}
theorem Tape.new (W0 : 0 < W) (W1 : W ≤ 200) (H0 : 0 < H) (H1 : H ≤ 60) : Tape (Scr.new W H) W H (fun _ _ => Cel.blank) 0 0 0 false := by
  have e : 0 + 1 - H = 0 := by omega
  refine ⟨Scr.ok_new W0 W1 H0 H1, rfl, rfl, rfl, rfl, rfl, rfl, rfl, rfl, rfl, by rw [e]; rfl, rfl, ?_, by rw [e]; rfl, by omega, fun _ _ _ => rfl, fun _ _ => blank_single⟩
  have hP := Gr.plain_ok W0 W1 H0 H1 Cel.blank
  refine (Gr.of_rows hP fun y hy => ?_).symm
  rw [hP.row_line hy]
  refine lineOf_congr fun i hi => ?_
  exact (Gr.plain_at W0 W1 H0 H1 _ hi hy).symm
theorem Tape.yH (h : Tape S W H R a x g wt) : S.now.y < H := by have := h.ok.ny; rw [h.h] at this; exact this
theorem Tape.W0 (h : Tape S W H R a x g wt) : 0 < W := by have := h.ok.w0; rw [h.w] at this; exact this
theorem Tape.H0 (h : Tape S W H R a x g wt) : 0 < H := by have := h.ok.h0; rw [h.h] at this; exact this
theorem Tape.home (h : Tape S W H R a x g wt) : Tape (S.at 0 S.now.y) W H R a 0 g wt :=
  ⟨(h.ok.at h.ok.w0 h.ok.ny).ok, h.w, h.h, h.alt, h.top, h.fin, h.wraps, h.shown, h.pen, rfl, h.ny, h.wt, h.g0, h.gn, h.gl, h.bl, h.sg⟩
theorem Tape.calm (h : Tape S W H R a x g wt) : Tape S.calm W H R a x g false :=
  ⟨h.ok.calm.ok, h.w, h.h, h.alt, h.top, h.fin, h.wraps, h.shown, h.pen, h.nx, h.ny, rfl, h.g0, h.gn, h.gl, h.bl, h.sg⟩
theorem scroll_tape {f : Nat} (W0 : 0 < W) (W1 : W ≤ 200) (H0 : 0 < H) (H1 : H ≤ 60) (sg : ∀ i j, (R i j).single = true) (bl : ∀ j, R (f + H) j = Cel.blank) :
    (Gr.of W H fun y => lineOf W (R (f + y))).scroll 0 H 1 Cel.blank = Gr.of W H fun y => lineOf W (R (f + 1 + y)) := by
  have hR : ∀ y, y < H → (lineOf W (R (f + y))).length = W := fun _ _ => lineOf_len _ _
  unfold Gr.scroll Gr.chg
  show Gr.of W H _ = Gr.of W H _
  refine Gr.of_congr fun y hy => ?_
  have e1 : min (max (0 : Int) 0) ((Gr.of W H fun y => lineOf W (R (f + y))).h : Int) = 0 := by show min (max (0 : Int) 0) (H : Int) = 0; omega
  have e2 : min (max (H : Int) 0) ((Gr.of W H fun y => lineOf W (R (f + y))).h : Int) = H := by show min (max (H : Int) 0) (H : Int) = H; omega
  have e3 : min (max (1 : Int) (-((Gr.of W H fun y => lineOf W (R (f + y))).h : Int))) ((Gr.of W H fun y => lineOf W (R (f + y))).h : Int) = 1 := by show min (max (1 : Int) (-(H : Int))) (H : Int) = 1; omega
  rw [e1, e2, e3, if_pos ⟨by omega, by omega⟩]
  unfold Gr.scrollF
  by_cases h1 : y + 1 < H
  · rw [if_neg (by omega), show ((y : Int) + 1).toNat = y + 1 by omega, Gr.of_row hR h1, line_single fun j => sg _ j, show f + (y + 1) = f + 1 + y by omega]
  · rw [if_pos (.inr (by omega))]
    show mend (lineOf W fun _ => Cel.blank) = _
    rw [line_single fun _ => blank_single, show f + 1 + y = f + H by omega]
    exact lineOf_congr fun j _ => (bl j).symm
theorem Tape.below (h : Tape S W H R a x g wt) (hg : a + 2 - H - g ≤ 500) : Tape S.below W H R (a + 1) x g wt := by
  have ny := h.ny
  have yH := h.yH
  have H0 := h.H0
  unfold Scr.below
  rw [h.fin, h.h]
  by_cases hy : S.now.y + 1 = H
  · rw [if_pos hy]
    have n := h.ok.up (n := 1)
    have hk : S.keep 1 = { S with gone := latest (S.gone ++ [S.g0.row 0]) } := by
      unfold Scr.keep
      rw [if_pos ⟨h.top, h.alt⟩, h.fin, show (min (1 : Int) (H : Int)).toNat = 1 by omega]
      rfl
    have hu : S.up 1 = { S with gone := latest (S.gone ++ [S.g0.row 0]), g0 := S.g0.scroll 0 H 1 Cel.blank } := by
      unfold Scr.up
      rw [hk, h.top]
      unfold Scr.scroll Scr.setCur Scr.cur Scr.free
      simp only [h.alt, h.fin, h.pen, cond_false]
      rfl
    have hgone : (S.up 1).gone = latest (S.gone ++ [S.g0.row 0]) := by rw [hu]
    have hg0 : (S.up 1).g0 = S.g0.scroll 0 H 1 Cel.blank := by rw [hu]
    have e1 : a + 1 + 1 - H = a + 1 - H + 1 := by omega
    refine ⟨n.ok, n.w.trans h.w, n.h.trans h.h, by rw [hu]; exact h.alt, by rw [hu]; exact h.top, by rw [hu]; exact h.fin, by rw [hu]; exact h.wraps, by rw [hu]; exact h.shown, by rw [hu]; exact h.pen, by rw [hu]; exact h.nx, by rw [hu, e1]; show S.now.y + _ = _; omega, by rw [hu]; exact h.wt, ?_, ?_, by have := h.gl; omega, fun i j hi => h.bl i j (by omega), h.sg⟩
    · rw [hg0, h.g0, e1]
      have ok := h.ok
      rw [scroll_tape h.W0 (h.w ▸ ok.w1) H0 (h.h ▸ ok.h1) h.sg fun j => h.bl _ j (by omega)]
    · rw [hgone]
      have hr : S.g0.row 0 = lineOf W (R (a + 1 - H)) := by
        rw [h.g0, Gr.of_row (fun _ _ => lineOf_len _ _) H0]; rfl
      have hl := h.gl
      rw [hr, h.gn, e1, show a + 1 - H + 1 - g = (a + 1 - H - g) + 1 by omega, List.range'_concat, List.map_append]
      have e2 : g + 1 * (a + 1 - H - g) = a + 1 - H := by omega
      rw [e2]
      unfold latest
      have e3 : ((List.range' g (a + 1 - H - g)).map (fun y => lineOf W (R y)) ++ [lineOf W (R (a + 1 - H))]).length - 500 = 0 := by simp; omega
      rw [e3, List.drop_zero]
      rfl
  · rw [if_neg hy, if_pos (by omega)]
    have n := h.ok.at (x := S.now.x) (y := S.now.y + 1) h.ok.nx (by rw [h.h]; omega)
    have hH : a + 2 - H = a + 1 - H := by omega
    refine ⟨n.ok, h.w, h.h, h.alt, h.top, h.fin, h.wraps, h.shown, h.pen, h.nx, ?_, h.wt, ?_, ?_, ?_, fun i j hi => h.bl i j (by omega), h.sg⟩
    · show S.now.y + 1 + (a + 2 - H) = a + 1; omega
    · show S.g0 = _
      rw [h.g0, show a + 1 + 1 - H = a + 1 - H by omega]
    · show S.gone = _
      rw [h.gn, show a + 1 + 1 - H = a + 1 - H by omega]
    · have := h.gl; omega
theorem span_one {x n : Nat} (hx : x < n) (j : Nat) (hj : j < n) : ((spanG (x : Int) 1 n).1 ≤ (j : Int) ∧ (j : Int) < (spanG (x : Int) 1 n).2) ↔ j = x := by
  rw [spanG_mem (by omega) (by omega)]; omega
theorem put_one {f : Nat → Cel} {c : Cel} (hx : x < W) (hf : ∀ j, (f j).single = true) (hc : c.single = true) :
    ((⟨W, 1, lineOf W f⟩ : Gr).put x 0 [c]).cs = lineOf W fun j => if j = x then c else f j := by
  unfold Gr.put Gr.chg Gr.of
  show rowsOf _ 1 = _
  have e0 : (spanG (0 : Int) 1 ((1 : Nat) : Int)).1 ≤ ((0 : Nat) : Int) ∧ ((0 : Nat) : Int) < (spanG (0 : Int) 1 ((1 : Nat) : Int)).2 := (span_one (x := 0) (n := 1) (by omega) 0 (by omega)).2 rfl
  simp only [rowsOf, List.nil_append]
  rw [if_pos e0]
  have e : (lineOf W fun x' => if (spanG (x : Int) ([c].length : Nat) W).1 ≤ (x' : Int) ∧ (x' : Int) < (spanG (x : Int) ([c].length : Nat) W).2 then [c].getD ((x' : Int) - x).toNat Cel.none else (⟨W, 1, lineOf W f⟩ : Gr).at x' 0) = lineOf W fun j => if j = x then c else f j := by
    refine lineOf_congr fun j hj => ?_
    have e1 : ((spanG (x : Int) ([c].length : Nat) W).1 ≤ (j : Int) ∧ (j : Int) < (spanG (x : Int) ([c].length : Nat) W).2) ↔ j = x := span_one hx j hj
    by_cases hjx : j = x
    · rw [if_pos (e1.2 hjx), if_pos hjx, hjx]
      simp
    · rw [if_neg (fun h => hjx (e1.1 h)), if_neg hjx]
      unfold Gr.at
      show (lineOf W f).getD (0 * W + j) Cel.none = f j
      rw [List.getD_eq_getElem?_getD, Nat.zero_mul, Nat.zero_add, lineOf_get hj]
      rfl
  have h2 := line_single (W := W) (f := fun j => if j = x then c else f j) (fun j => by split <;> simp_all)
  show mend (lineOf W fun x' => if (spanG (x : Int) ([c].length : Nat) W).1 ≤ (x' : Int) ∧ (x' : Int) < (spanG (x : Int) ([c].length : Nat) W).2 then [c].getD ((x' : Int) - x).toNat Cel.none else (⟨W, 1, lineOf W f⟩ : Gr).at x' 0) = _
  rw [e, h2]
def upd (R : Nat → Nat → Cel) (a x : Nat) (c : Cel) : Nat → Nat → Cel := fun i j => if i = a ∧ j = x then c else R i j
def plainC (r : Int) : Cel := ⟨r, 0, 0, 0⟩
theorem Tape.lay (h : Tape S W H R a x g wt) {r : Int} (h0 : 32 ≤ r) (h1 : r < 127) (hx : x < W) : Tape (S.lay r 1) W H (upd R a x (plainC r)) a (if x + 1 = W then W - 1 else x + 1) g (decide (x + 1 = W)) := by
  have n := h.ok.lay (r := r) (n := 1) (by rw [h.nx, h.w]; omega)
  have hsg : (plainC r).single = true := by
    unfold Cel.single Cel.plain Cel.check Cel.tail Cel.wide plainC
    have : width r = 1 := by unfold width; rw [if_neg (by omega), if_pos h1]
    simp [this]
  have hmk : mkCel r S.now.pen = [plainC r] := by
    have : width r = 1 := by unfold width; rw [if_neg (by omega), if_pos h1]
    rw [h.pen]
    unfold mkCel
    rw [if_pos this]
    rfl
  have yH := h.yH
  have ny := h.ny
  have hline : S.line (fun g => g.put S.now.x 0 (mkCel r S.now.pen)) = { S with g0 := Gr.of W H fun y => lineOf W (upd R a x (plainC r) (a + 1 - H + y)) } := by
    unfold Scr.line Scr.setCur Scr.cur
    simp only [h.alt, cond_false, h.w, h.h, hmk, h.nx]
    congr 1
    refine Gr.of_congr fun y hy => ?_
    have hrow : ∀ y, y < H → S.g0.row y = lineOf W (R (a + 1 - H + y)) := fun y hy => by rw [h.g0, Gr.of_row (fun _ _ => lineOf_len _ _) hy]
    by_cases hya : y = S.now.y
    · rw [if_pos hya, hrow y hy, put_one hx (fun j => h.sg _ j) hsg]
      refine lineOf_congr fun j hj => ?_
      unfold upd
      by_cases hjx : j = x
      · rw [if_pos hjx, if_pos ⟨by omega, hjx⟩]
      · rw [if_neg hjx, if_neg fun h => hjx h.2]
    · rw [if_neg hya, hrow y hy]
      refine lineOf_congr fun j hj => ?_
      unfold upd
      rw [if_neg fun h => hya (by omega)]
  have sg' : ∀ i j, (upd R a x (plainC r) i j).single = true := fun i j => by unfold upd; split; exact hsg; exact h.sg _ _
  have bl' : ∀ i j, a < i → upd R a x (plainC r) i j = Cel.blank := fun i j hi => by unfold upd; rw [if_neg fun h => by omega]; exact h.bl i j hi
  have gn' : S.gone = (List.range' g (a + 1 - H - g)).map fun y => lineOf W (upd R a x (plainC r) y) := by
    rw [h.gn]
    refine List.map_congr_left fun y hy => lineOf_congr fun j hj => ?_
    have hy' := List.mem_range'_1.1 hy
    unfold upd
    rw [if_neg fun h => by omega]
  have hlay : S.lay r 1 = (if x + 1 = W then { ({ S with g0 := Gr.of W H fun y => lineOf W (upd R a x (plainC r) (a + 1 - H + y)) } : Scr).at (W - 1) S.now.y with waits := true } else { ({ S with g0 := Gr.of W H fun y => lineOf W (upd R a x (plainC r) (a + 1 - H + y)) } : Scr).at (x + 1) S.now.y with waits := false }) := by
    unfold Scr.lay
    dsimp only
    rw [hline, h.nx, h.w, h.wraps]
  by_cases hw : x + 1 = W
  · rw [if_pos hw] at hlay ⊢
    rw [hlay] at n ⊢
    rw [decide_eq_true hw]
    exact ⟨n.ok, h.w, h.h, h.alt, h.top, h.fin, h.wraps, h.shown, h.pen, rfl, h.ny, rfl, rfl, gn', h.gl, bl', sg'⟩
  · rw [if_neg hw] at hlay ⊢
    rw [hlay] at n ⊢
    rw [decide_eq_false hw]
    exact ⟨n.ok, h.w, h.h, h.alt, h.top, h.fin, h.wraps, h.shown, h.pen, rfl, h.ny, rfl, rfl, gn', h.gl, bl', sg'⟩
theorem Tape.print (h : Tape S W H R a x g false) {r : Int} (h0 : 32 ≤ r) (h1 : r < 127) (hx : x < W) : Tape (S.print r) W H (upd R a x (plainC r)) a (if x + 1 = W then W - 1 else x + 1) g (decide (x + 1 = W)) := by
  have hw : width r = 1 := by unfold width; rw [if_neg (by omega), if_pos h1]
  have e : S.print r = S.lay r 1 := by
    unfold Scr.print
    rw [hw, if_neg (by have := h.ok.w0; omega)]
    show ((S.wrapped).roomFor 1).lay r 1 = _
    have e1 : S.wrapped = S := by unfold Scr.wrapped; rw [h.wt]; rfl
    have e2 : S.roomFor 1 = S := by unfold Scr.roomFor; rw [h.w, h.nx, if_neg (by omega)]
    rw [e1, e2]
  rw [e]
  exact h.lay h0 h1 hx
theorem Tape.printW (h : Tape S W H R a x g true) (hg : a + 2 - H - g ≤ 500) {r : Int} (h0 : 32 ≤ r) (h1 : r < 127) : Tape (S.print r) W H (upd R (a + 1) 0 (plainC r)) (a + 1) (if 0 + 1 = W then W - 1 else 0 + 1) g (decide (0 + 1 = W)) := by
  have hw : width r = 1 := by unfold width; rw [if_neg (by omega), if_pos h1]
  have k := h.home.below hg
  have e : S.print r = (S.at 0 S.now.y).below.lay r 1 := by
    unfold Scr.print
    rw [hw, if_neg (by have := h.ok.w0; omega)]
    show ((S.wrapped).roomFor 1).lay r 1 = _
    have e1 : S.wrapped = (S.at 0 S.now.y).below := by unfold Scr.wrapped; rw [h.wt]; rfl
    have e2 : (S.at 0 S.now.y).below.roomFor 1 = (S.at 0 S.now.y).below := by unfold Scr.roomFor; rw [k.w, k.nx, if_neg (by have := h.W0; omega)]
    rw [e1, e2]
  rw [e]
  exact k.lay h0 h1 h.W0
end
end Lyc
namespace Lyc
open Go
theorem dec_asc : ∀ s : List UInt8, (∀ b ∈ s, b.toNat ≤ 127) → dec s = (s.map fun b => (b.toNat : Int), [])
  | [], _ => rfl
  | b :: l, h => by
    have hf : first (b :: l) = ((b.toNat : Int), 1, false) := by
      unfold first
      simp only [List.getElem?_cons_zero]
      rw [if_pos (h b (by simp))]
    rw [dec_step (by simp) (by rw [hf]), hf]
    show (_ :: (dec l).1, (dec l).2) = _
    rw [dec_asc l fun x hx => h x (by simp [hx])]
    rfl
def prn (r : Int) : Act' := actOf 1 r 0 0 0 zeros8
def ctlA (r : Int) : Act' := actOf 2 r 0 0 0 zeros8
theorem feed_letters {E : Esc} (h : E.inn = 0) : ∀ l : List Int, (∀ r ∈ l, 32 ≤ r ∧ r < 127) → E.feed l = (E, l.map prn)
  | [], _ => rfl
  | r :: l, hl => by
    have hr := hl r (by simp)
    have hs : E.step r = (E, some (prn r)) := by
      unfold Esc.step
      rw [if_neg (by omega), if_neg (by omega), if_neg (by omega), if_neg (by omega), if_neg (by omega), if_pos h]
      rfl
    unfold Esc.feed
    rw [hs]
    dsimp only
    rw [feed_letters h l fun x hx => hl x (by simp [hx])]
    rfl
theorem feed_crlf {E : Esc} (h : E.inn = 0) : E.feed [13, 10] = (E, [ctlA 13, ctlA 10]) := by
  have h1 : E.step 13 = (E, some (ctlA 13)) := by
    unfold Esc.step
    rw [if_neg (by omega), if_neg (by omega), if_neg (by omega), if_neg (by omega), if_pos (by omega)]
    rfl
  have h2 : E.step 10 = (E, some (ctlA 10)) := by
    unfold Esc.step
    rw [if_neg (by omega), if_neg (by omega), if_neg (by omega), if_neg (by omega), if_pos (by omega)]
    rfl
  unfold Esc.feed
  rw [h1]
  dsimp only
  unfold Esc.feed
  rw [h2]
  rfl
def updL (R : Nat → Nat → Cel) (a : Nat) : Nat → List Int → (Nat → Nat → Cel)
  | _, [] => R
  | x, r :: l => updL (upd R a x (plainC r)) a (x + 1) l
theorem updL_get (a : Nat) : ∀ (l : List Int) (R : Nat → Nat → Cel) (x i j : Nat), updL R a x l i j = if i = a ∧ x ≤ j ∧ j < x + l.length then plainC (l.getD (j - x) 0) else R i j
  | [], R, x, i, j => by
    unfold updL
    rw [if_neg (by rw [List.length_nil]; omega)]
  | r :: l, R, x, i, j => by
    unfold updL
    rw [updL_get a l]
    by_cases h1 : i = a ∧ x + 1 ≤ j ∧ j < x + 1 + l.length
    · rw [if_pos h1, if_pos ⟨h1.1, by omega, by rw [List.length_cons]; omega⟩]
      rw [show j - x = (j - (x + 1)) + 1 by omega]
      rfl
    · rw [if_neg h1]
      unfold upd
      by_cases h2 : i = a ∧ j = x
      · rw [if_pos h2, if_pos ⟨h2.1, by omega, by rw [List.length_cons]; omega⟩, h2.2, Nat.sub_self]
        rfl
      · rw [if_neg h2, if_neg (by rw [List.length_cons]; omega)]
section
variable {W H : Nat}
theorem Tape.prints : ∀ {l : List Int} {S : Scr} {R : Nat → Nat → Cel} {a x g : Nat}, Tape S W H R a x g false → (∀ r ∈ l, 32 ≤ r ∧ r < 127) → x + l.length < W → Tape (S.acts (l.map prn)) W H (updL R a x l) a (x + l.length) g false
  | [], S, R, a, x, g, h, _, _ => h
  | r :: l, S, R, a, x, g, h, hl, hx => by
    have hr := hl r (by simp)
    rw [List.length_cons] at hx
    have h1 := h.print hr.1 hr.2 (show x < W by omega)
    rw [if_neg (by omega), decide_eq_false (by omega)] at h1
    have h2 := Tape.prints (l := l) h1 (fun y hy => hl y (by simp [hy])) (by omega)
    rw [show x + 1 + l.length = x + (r :: l).length by rw [List.length_cons]; omega] at h2
    exact h2
theorem Tape.crlf {S : Scr} {R : Nat → Nat → Cel} {a x g : Nat} (h : Tape S W H R a x g false) (hg : a + 2 - H - g ≤ 500) : Tape (S.acts [ctlA 13, ctlA 10]) W H R (a + 1) 0 g false := by
  have h1 : Tape (S.ctl 13) W H R a 0 g false := h.home.calm
  exact (h1.below hg).calm
theorem Tape.flush {S : Scr} {R : Nat → Nat → Cel} {a x g : Nat} {wt : Bool} (h : Tape S W H R a x g wt) : Tape { S with gone := [] } W H R a x (a + 1 - H) wt :=
  ⟨⟨h.ok.w0, h.ok.w1, h.ok.h0, h.ok.h1, h.ok.g0, h.ok.g1, h.ok.nx, h.ok.ny, h.ok.s0x, h.ok.s0y, h.ok.s1x, h.ok.s1y, h.ok.tf, h.ok.fh, h.ok.tl, by simp, by simp⟩, h.w, h.h, h.alt, h.top, h.fin, h.wraps, h.shown, h.pen, h.nx, h.ny, h.wt, h.g0, by rw [Nat.sub_self]; rfl, Nat.le_refl _, h.bl, h.sg⟩
end
def RL (ls : List (List Int)) (i j : Nat) : Cel := match (ls.getD i [])[j]? with | some r => plainC r | none => Cel.blank
theorem RL_new (ls : List (List Int)) (l : List Int) : updL (RL ls) ls.length 0 l = RL (ls ++ [l]) := by
  funext i j
  rw [updL_get]
  by_cases hi : i = ls.length
  · subst hi
    have e1 : (ls ++ [l]).getD ls.length [] = l := by rw [List.getD_eq_getElem?_getD, List.getElem?_append_right (Nat.le_refl _)]; simp
    by_cases hj : j < l.length
    · rw [if_pos ⟨rfl, by omega, by omega⟩]
      unfold RL
      rw [e1, List.getElem?_eq_getElem hj, Nat.sub_zero, List.getD_eq_getElem?_getD, List.getElem?_eq_getElem hj]
      rfl
    · rw [if_neg (by omega)]
      unfold RL
      have e2 : ls.getD ls.length [] = [] := by rw [List.getD_eq_getElem?_getD, List.getElem?_eq_none (Nat.le_refl _)]; rfl
      rw [e1, e2, show l[j]? = none from List.getElem?_eq_none (by omega)]
      rfl
  · rw [if_neg (by omega)]
    unfold RL
    have : (ls ++ [l]).getD i [] = ls.getD i [] := by
      rw [List.getD_eq_getElem?_getD, List.getD_eq_getElem?_getD]
      by_cases h : i < ls.length
      · rw [List.getElem?_append_left h]
      · rw [show (ls ++ [l])[i]? = none from List.getElem?_eq_none (by rw [List.length_append, List.length_singleton]; omega), show ls[i]? = none from List.getElem?_eq_none (by omega)]
    rw [this]
theorem RL_line {ls : List (List Int)} {W i : Nat} (h : (ls.getD i []).length ≤ W) : lineOf W (RL ls i) = (ls.getD i []).map plainC ++ List.replicate (W - (ls.getD i []).length) Cel.blank := by
  symm
  refine lineOf_of (by rw [List.length_append, List.length_map, List.length_replicate]; omega) fun j hj => ?_
  unfold RL
  by_cases hl : j < (ls.getD i []).length
  · rw [List.getElem?_append_left (by simpa using hl), List.getElem?_map, List.getElem?_eq_getElem hl]
    rfl
  · rw [List.getElem?_append_right (by rw [List.length_map]; omega), show (ls.getD i [])[j]? = none from List.getElem?_eq_none (by omega), List.getElem?_replicate, if_pos (by rw [List.length_map]; omega)]
end Lyc
namespace Go.Proofs.YtjfembffjjijaaaGreat
open Lyc Go
def letter (v : Int) : Int := 97 + bitV .and .i64 v 15
theorem letter_bd (v : Int) : 97 ≤ letter v ∧ letter v ≤ 112 := by
  have := and_bd v 15 (by omega) (by omega)
  unfold letter
  omega
def lnB (l : List Int) : List UInt8 := l.map ascB
def lnF (l : List Int) : List Value := [.string (bstr (lnB l))]
theorem lnF_len (l : List Int) : (lnF l).length = 1 := rfl
theorem lnF_ok (l : List Int) : okCells (lnF l) = true := rfl
def lets (l : List Int) : Prop := ∀ r ∈ l, 97 ≤ r ∧ r ≤ 112
theorem lnB_nat {l : List Int} (h : lets l) : (lnB l).map (fun b => (b.toNat : Int)) = l := by
  unfold lnB
  rw [List.map_map]
  conv => rhs; rw [← List.map_id l]
  refine List.map_congr_left fun r hr => ?_
  have := h r hr
  exact ascB_nat ⟨by omega, by omega⟩
theorem plainC_check {r : Int} (h : 32 ≤ r ∧ r < 127) : (plainC r).check = true ∧ (plainC r).tail = false := by
  have hw : width r = 1 := by unfold width; rw [if_neg (by omega), if_pos h.2]
  unfold Cel.check Cel.tail Cel.wide plainC
  simp [hw]
theorem shown_blank : ∀ k : Nat, shown (List.replicate k Cel.blank) = List.replicate k 32
  | 0 => rfl
  | k + 1 => by
    have ih := shown_blank k
    unfold shown at ih ⊢
    rw [List.replicate_succ, List.filterMap_cons, ih, List.replicate_succ]
    rfl
theorem shown_line : ∀ {l : List Int}, lets l → ∀ k : Nat, shown (l.map plainC ++ List.replicate k Cel.blank) = l ++ List.replicate k 32
  | [], _, k => shown_blank k
  | r :: l, h, k => by
    have ih := shown_line (l := l) (fun x hx => h x (by simp [hx])) k
    have hr := h r (by simp)
    have hc := plainC_check (r := r) ⟨by omega, by omega⟩
    unfold shown at ih ⊢
    rw [List.map_cons, List.cons_append, List.filterMap_cons, hc.1, hc.2, ih]
    rfl
theorem trim_line {l : List Int} (h : lets l) : ∀ k : Nat, trimE (l ++ List.replicate k 32) = l
  | 0 => by
    rw [List.replicate_zero, List.append_nil]
    by_cases hl : l = []
    · subst hl; rfl
    · exact trimE_done l hl fun e => by have := h _ (List.getLast_mem hl); omega
  | k + 1 => by
    have hne : l ++ List.replicate (k + 1) 32 ≠ [] := by simp
    rw [trimE_step _ hne (by rw [List.getLast_append_of_ne_nil _ (by simp)]; simp)]
    have : (l ++ List.replicate (k + 1) 32).dropLast = l ++ List.replicate k 32 := by
      rw [List.replicate_succ', ← List.append_assoc, List.dropLast_concat]
    rw [this, trim_line h k]
structure TLn (X Y : Nat) (ls : List (List Int)) (T : Tm) (M : Scm) (G : Hs) : Prop where
  tape : Lyc.Tape M.S X Y (RL ls) ls.length 0 (ls.length + 1 - Y) false
  k : T.kept = []
  e : T.E.inn = 0
  list : G.list = (List.range (ls.length + 1 - Y)).map fun y => lineOf X (RL ls y)
  room : G.room = 500
  few : ls.length ≤ 100
  lt : ∀ l ∈ ls, lets l ∧ l.length ≤ X
theorem TLn.new {X Y s h : Nat} (X0 : 0 < X) (X1 : X ≤ 200) (Y0 : 0 < Y) (Y1 : Y ≤ 60) {M : Scm} {G : Hs} (hS : M.S = Scr.new X Y) (hl : G.list = []) (hr : G.room = 500) : TLn X Y [] ⟨s, h, [], Esc.new⟩ M G := by
  have e : ([] : List (List Int)).length + 1 - Y = 0 := by show 0 + 1 - Y = 0; omega
  refine ⟨?_, rfl, rfl, by rw [hl, e]; rfl, hr, by simp, by simp⟩
  rw [hS, e]
  exact Lyc.Tape.new X0 X1 Y0 Y1
theorem pushAll_app {room : Nat} : ∀ {xs L : List (List Cel)}, 0 < room → L.length + xs.length ≤ room → pushAll room L xs = L ++ xs.map mend
  | [], L, _, _ => by rw [List.map_nil, List.append_nil]; rfl
  | x :: xs, L, h0, h => by
    rw [List.length_cons] at h
    have e : pushAll room L (x :: xs) = pushAll room (pushed room L (mend x)) xs := by unfold pushAll; rw [List.foldl_cons]
    have e2 : pushed room L (mend x) = L ++ [mend x] := by unfold pushed; rw [if_neg (by omega), if_pos (by omega)]
    rw [e, e2, pushAll_app h0 (by rw [List.length_append, List.length_singleton]; omega), List.append_assoc]
    rfl
theorem RL_old (ls : List (List Int)) (l : List Int) {i : Nat} (h : i < ls.length) : RL (ls ++ [l]) i = RL ls i := by
  funext j
  unfold RL
  rw [List.getD_eq_getElem?_getD, List.getD_eq_getElem?_getD, List.getElem?_append_left h]
theorem TLn.write {X Y : Nat} {ls : List (List Int)} {T : Tm} {M : Scm} {G : Hs} (h : TLn X Y ls T M G) (hf : ls.length < 100) {l : List Int} (hl : lets l) (hlen : l.length < X) {k : List UInt8} {E : Esc} {M' : Scm} {G' : Hs}
    (h1 : (M'.S, k, E) = ({ (fedAll (M.S, T.kept, T.E) [lnB l, [13, 10]]).1 with gone := [] }, (fedAll (M.S, T.kept, T.E) [lnB l, [13, 10]]).2.1, (fedAll (M.S, T.kept, T.E) [lnB l, [13, 10]]).2.2)) (hr : G'.room = G.room) (hg : G'.list = pushAll G.room G.list (fedAll (M.S, T.kept, T.E) [lnB l, [13, 10]]).1.gone) :
    TLn X Y (ls ++ [l]) { T with kept := k, E := E } M' G' := by
  have Y0 := h.tape.H0
  have hd : dec (lnB l) = (l, []) := by
    rw [dec_asc]
    · rw [lnB_nat hl]
    · intro b hb
      obtain ⟨r, hrm, rfl⟩ := List.mem_map.1 hb
      have := hl r hrm
      have := ascB_nat (r := r) ⟨by omega, by omega⟩
      omega
  have hd2 : dec [13, 10] = ([13, 10], []) := dec_asc [13, 10] (by decide)
  have hlr : ∀ r ∈ l, 32 ≤ r ∧ r < 127 := fun r hr => by have := hl r hr; omega
  have e1 : fedT M.S T.kept T.E (lnB l) = (M.S.acts (l.map prn), [], T.E) := by
    unfold fedT
    rw [h.k, List.nil_append, hd]
    dsimp only
    rw [feed_letters h.e l hlr]
  have e2 : fedAll (M.S, T.kept, T.E) [lnB l, [13, 10]] = ((M.S.acts (l.map prn)).acts [ctlA 13, ctlA 10], [], T.E) := by
    show fedT (fedT M.S T.kept T.E (lnB l)).1 (fedT M.S T.kept T.E (lnB l)).2.1 (fedT M.S T.kept T.E (lnB l)).2.2 [13, 10] = _
    rw [e1]
    unfold fedT
    rw [List.nil_append, hd2]
    dsimp only
    rw [feed_crlf h.e]
  have t1 := h.tape.prints hlr (by omega)
  have t2 := t1.crlf (by omega)
  rw [RL_new] at t2
  have e3 : (ls ++ [l]).length = ls.length + 1 := by simp
  rw [e2] at h1 hg
  have g1 : M'.S = { ((M.S.acts (l.map prn)).acts [ctlA 13, ctlA 10]) with gone := [] } := congrArg Prod.fst h1
  have g2 : k = [] := congrArg (fun q => q.2.1) h1
  have g3 : E = T.E := congrArg (fun q => q.2.2) h1
  have few := h.few
  refine ⟨?_, g2, by rw [g3]; exact h.e, ?_, hr.trans h.room, by rw [e3]; omega, ?_⟩
  · rw [g1, e3]; exact t2.flush
  · rw [hg, h.room, e3]
    dsimp only
    rw [t2.gn, h.list, pushAll_app (by omega) (by simp; omega), List.map_map]
    have hm : (fun y => lineOf X (RL (ls ++ [l]) y)) = (mend ∘ fun y => lineOf X (RL (ls ++ [l]) y)) := by
      funext y
      exact (line_single fun j => t2.sg y j).symm
    rw [← hm]
    have hc : (List.range (ls.length + 1 - Y)).map (fun y => lineOf X (RL ls y)) = (List.range (ls.length + 1 - Y)).map (fun y => lineOf X (RL (ls ++ [l]) y)) := by
      refine List.map_congr_left fun y hy => ?_
      have := List.mem_range.1 hy
      rw [RL_old _ _ (by omega)]
    rw [hc, ← List.map_append]
    congr 1
    have hn : ls.length + 1 + 1 - Y = (ls.length + 1 - Y) + (ls.length + 1 + 1 - Y - (ls.length + 1 - Y)) := by omega
    conv => rhs; rw [hn, List.range_eq_range', ← List.range'_append_1, Nat.zero_add]
    rw [List.range_eq_range']
  · intro x hx
    rcases List.mem_append.1 hx with hx | hx
    · exact h.lt x hx
    · simp at hx; subst hx; exact ⟨hl, by omega⟩
theorem TLn.lt' {X Y : Nat} {ls : List (List Int)} {T : Tm} {M : Scm} {G : Hs} (h : TLn X Y ls T M G) (i : Nat) : lets (ls.getD i []) ∧ (ls.getD i []).length ≤ X := by
  rw [List.getD_eq_getElem?_getD]
  cases hg : ls[i]? with
  | none => exact ⟨fun r hr => by simp at hr, by simp⟩
  | some l => exact h.lt l (List.mem_of_getElem? hg)
theorem TLn.text {X Y : Nat} {ls : List (List Int)} {T : Tm} {M : Scm} {G : Hs} (h : TLn X Y ls T M G) (i : Nat) : trimE (shown (lineOf X (RL ls i))) = ls.getD i [] ∧ rowText (lineOf X (RL ls i)) = bstr (lnB (ls.getD i [])) := by
  have hl := h.lt' i
  have e : trimE (shown (lineOf X (RL ls i))) = ls.getD i [] := by
    rw [RL_line hl.2, shown_line hl.1, trim_line hl.1]
  exact ⟨e, by unfold rowText; rw [e]; rfl⟩
theorem TLn.view {X Y : Nat} {ls : List (List Int)} {T : Tm} {M : Scm} {G : Hs} (h : TLn X Y ls T M G) (back : Int) {y : Nat} (hy : y < Y) : (viewOf M.S G.list back).row y = lineOf X (RL ls (ls.length + 1 - Y - min back.toNat (ls.length + 1 - Y) + y)) := by
  have t := h.tape
  obtain ⟨n, hn⟩ : ∃ n, n = ls.length + 1 - Y := ⟨_, rfl⟩
  have hl : G.list.length = n := by rw [h.list, List.length_map, List.length_range, hn]
  have hcur : M.S.cur = Gr.of X Y fun y => lineOf X (RL ls (n + y)) := by
    unfold Scr.cur
    rw [t.alt, t.g0, hn]
    rfl
  rw [← hn]
  have hrow : ∀ y, y < Y → (viewRow M.S.cur G.list (n - min back.toNat n) y) = lineOf X (RL ls (n - min back.toNat n + y)) := by
    intro y hy
    unfold viewRow
    rw [hl]
    split
    · rename_i h1
      rw [List.getD_eq_getElem?_getD, h.list, List.getElem?_map, List.getElem?_range (by omega)]
      exact line_single fun j => t.sg _ j
    · rename_i h1
      rw [hcur, Gr.of_row (fun _ _ => lineOf_len _ _) (by omega)]
      congr 2
      omega
  have hw : M.S.cur.w = X := by rw [hcur]; rfl
  have hh : M.S.cur.h = Y := by rw [hcur]; rfl
  unfold viewOf
  rw [hw, hh, hl, Gr.of_row (fun y hy => by rw [hrow y hy]; exact lineOf_len _ _) hy, hrow y hy]
theorem TmAt.town_tag {base : Nat} {w : World} {t W H : Nat} {T : Tm} {M : Scm} {G : Hs} (h : TmAt base w t W H T M G) {x : Nat} (hx : Town t T M G x) : ∃ c e fr, w.heap[x]? = some (.cells c e fr) ∧ Nat.beq e 9 = false := by
  obtain ⟨⟨c1, f1, a1⟩, ⟨c2, f2, a2⟩, ⟨c3, f3, a3⟩, a4⟩ := h.scr.at_.tags
  obtain ⟨⟨c5, f5, a5⟩, a6⟩ := h.his.tag2
  have hb := h.hb
  unfold Tm.obj at hb
  rcases hx with rfl | rfl | hx | rfl | hx | ⟨r, hr, hne, o, ha⟩
  · exact ⟨_, _, _, hb, rfl⟩
  · exact ⟨_, _, _, a1, rfl⟩
  · simp only [Scm.blk, List.mem_cons] at hx
    rcases hx with rfl | rfl | hx
    · exact ⟨_, _, _, a2, rfl⟩
    · exact ⟨_, _, _, a3, rfl⟩
    · obtain ⟨c, f, b⟩ := a4 _ hx
      exact ⟨_, _, _, b, rfl⟩
  · exact ⟨_, _, _, a5, rfl⟩
  · obtain ⟨c, f, b⟩ := a6 _ hx
    exact ⟨_, _, _, b, rfl⟩
  · obtain ⟨b2, o2, c2, e2, fr2, pre, post, h1, h2, h3, _⟩ := (h.his.rows r hr).at_ hne
    rw [ha] at h1; cases h1
    refine ⟨_, _, _, h2, ?_⟩
    rw [tagOk_some h3]
    rfl
theorem TmAt.no_text {base base' : Nat} {w : World} {t W H : Nat} {T : Tm} {M : Scm} {G : Hs} (h : TmAt base w t W H T M G) {α : Type} {m : Nat} {f : α → List Value} {v : Value} {l : List α} (ho : Ox base' w 9 m f v l) {x : Nat} (hx : Town t T M G x) : v.ownBlock ≠ some x := by
  obtain ⟨c, e, fr, h1, h2⟩ := h.town_tag hx
  exact ho.off h1 h2
theorem lets_map (zs : List Int) : lets (zs.map letter) := fun r hr => by
  obtain ⟨v, -, rfl⟩ := List.mem_map.1 hr
  exact letter_bd v
set_option maxHeartbeats 2000000 in
theorem tlines_c {w : World} {a : Option Addr} {l : List IRow} (hs : Sx w none IRow.f a l) (cap : Nat) (hll : l.length ≤ maxLen) (hr : ∀ r ∈ l, Sx w none intF r.a r.zs ∧ r.zs.length ≤ maxLen) (W H : Int) :
    Calls Tryz.prog 4 #[.agg #[.int .i64 W, .int .i64 H], .slice a l.length cap] w (retK fun v w' => v = .bool true ∧ Chg [] w w') := by
  simp only [maxLen] at hll hr
  obtain ⟨-, u0, u1⟩ := szN_eq (n := W) (m := 14) (by omega)
  obtain ⟨-, v0, v1⟩ := szN_eq (n := H) (m := 8) (by omega)
  apply lyceumlaw11_TermLines_link
  intro K hK
  unfold lyceumlaw11_TermLines
  simp -dsimp (disch := first | omega | (simp only [go_sem, seval]; first | done | omega)) only [go_sem, seval]
  refine OpX.gen fun w0 hw0 => ?_
  have hc0 : Chg [] w w0 := by rw [hw0]; exact chg_a1 _ _
  have hz0 : w0.heap[w.heap.size]? = some (.cells #[.int .i64 W, .int .i64 H] 47) := by rw [hw0]; simp -dsimp (disch := first | omega | (simp only [go_sem, seval]; first | done | omega)) only [go_sem, seval]
  clear hw0
  refine OpX.call lyceumlaw11_awake_b rfl (Calls.ret (awake11_c _) ?_)
  rintro v w1 ⟨rfl, hc1⟩
  have hz1 := hc1.keep hz0 (by simp)
  simp -dsimp (disch := first | omega | (simp only [go_sem, seval]; first | done | omega)) only [go_sem, seval, hz1]
  refine OpX.call lyceumlaw11_Size_size_b rfl (Calls.ret (size11_c _ W H) ?_)
  rintro v w2 ⟨rfl, hc2⟩
  generalize szN W 14 = X at *
  generalize szN H 8 = Y at *
  have hc02 := (hc0.trans0 hc1).trans0 hc2
  simp -dsimp (disch := first | omega | (simp only [go_sem, seval]; first | done | omega)) only [go_sem, seval]
  refine OpX.call term_New_b rfl (Calls.ret (tnew_c w2 X Y (by omega) (by omega) (by omega) (by omega) 500) ?_)
  rintro v w3 ⟨t, s, h, M, G, rfl, hA, hS, hgl, hgr, hc3, -, hrows⟩
  have hT0 : TLn X Y [] ⟨s, h, [], Esc.new⟩ M G := TLn.new (by omega) (by omega) (by omega) (by omega) hS hgl (by rw [hgr]; rfl)
  obtain ⟨B, hB⟩ : ∃ B, B = w2.heap.size := ⟨_, rfl⟩
  rw [← hB] at hA
  simp -dsimp (disch := first | omega | (simp only [go_sem, seval]; first | done | omega)) only [go_sem, seval]
  refine Loop2.st (fun q : Nat × Value × List (List Int) × Tm × Scm × Hs => q.2.1) (fun q => .int .i64 (q.1 : Int)) (fun q w' => q.1 ≤ l.length ∧ q.1 ≤ 20 ∧ q.2.2.1.length = q.1 ∧ Ox B w' 9 1 lnF q.2.1 q.2.2.1 ∧ TmAt B w' t X Y q.2.2.2.1 q.2.2.2.2.1 q.2.2.2.2.2 ∧ TLn X Y q.2.2.1 q.2.2.2.1 q.2.2.2.2.1 q.2.2.2.2.2 ∧ q.2.2.2.2.1.rows = [] ∧ Chg [] w2 w') (fun q => l.length - q.1) (0, .slice none 0 0, [], ⟨s, h, [], Esc.new⟩, M, G) rfl rfl ⟨by simp, by simp, rfl, Ox.nil _ _ _ _ _, hA, hT0, hrows, hc3⟩ ?_
  clear hA hT0 hrows
  rintro next ⟨i, lv, ls, T, M, G⟩ w4 hn ⟨hi, hi20, hli, hL, hA, hT, hrows, hc4⟩
  dsimp only at hi hi20 hli hL hA hT hrows ⊢
  have hz4 := hc4.size
  refine Join1.cut (fun v w' => v = .bool (decide (i < l.length ∧ i < 20)) ∧ w' = w4) ?_ ?_
  · simp -dsimp (disch := first | omega | (simp only [go_sem, seval]; first | done | omega)) only [go_sem, seval]
    refine BrW.dec (fun h1 => ?_) (fun h1 => ⟨congrArg Value.bool (decide_eq_false (fun h => by omega)).symm, rfl⟩)
    simp -dsimp (disch := first | omega | (simp only [go_sem, seval]; first | done | omega)) only [go_sem, seval]
    exact congrArg Value.bool (decide_eq_decide.2 ⟨fun h => ⟨by omega, by omega⟩, fun h => by omega⟩)
  rintro v w5 ⟨rfl, rfl⟩
  refine BrW.dec (fun h1 => ?_) (fun h1 => ?_)
  · obtain ⟨zr, hzr⟩ : ∃ zr, zr = l[i] := ⟨_, rfl⟩
    obtain ⟨hrs, hrl⟩ := hr _ (List.getElem_mem h1.1)
    have hgi : l[i]? = some zr := by rw [hzr]; exact List.getElem?_eq_getElem h1.1
    rw [← hzr] at hrs hrl
    refine Loop2.st (fun q : Nat => .string (bstr (lnB ((zr.zs.take q).map letter)))) (fun q => .int .i64 (q : Int)) (fun q w' => q ≤ zr.zs.length ∧ q + 1 ≤ X ∧ Chg [] w5 w') (fun q => zr.zs.length - q) 0 rfl rfl ⟨by simp, by omega, Chg.refl _ _⟩ ?_
    rintro next2 k w6 hn2 ⟨hk, hkX, hc6⟩
    (try dsimp only at hk hkX ⊢)
    have hcw6 := (hc02.trans0 hc4).trans0 hc6
    obtain ⟨b, o, hab, hbl, hcell⟩ := (hs.chg0 hcw6).get1 (g := fun r => .slice r.a r.zs.length r.cap) (fun _ => rfl) hgi
    refine Join1.cut (fun v w' => v = .bool (decide (k < zr.zs.length ∧ k + 1 < X)) ∧ w' = w6) ?_ ?_
    · rw [hab]
      simp -dsimp (disch := first | omega | (simp only [go_sem, seval]; first | done | omega)) only [go_sem, seval, hcell]
      refine BrW.dec (fun h1 => ?_) (fun h1 => ⟨congrArg Value.bool (decide_eq_false (fun h => by omega)).symm, rfl⟩)
      simp -dsimp (disch := first | omega | (simp only [go_sem, seval]; first | done | omega)) only [go_sem, seval]
      exact congrArg Value.bool (decide_eq_decide.2 ⟨fun h => ⟨by omega, by omega⟩, fun h => by omega⟩)
    rintro v w7 ⟨rfl, rfl⟩
    refine BrW.dec (fun h2 => ?_) (fun h2 => ?_)
    · obtain ⟨b2, o2, hab2, hbl2, hcell2⟩ := (hrs.chg0 hcw6).get1 (g := fun z => .int .i64 z) (fun _ => rfl) (List.getElem?_eq_getElem h2.1)
      have hbd := letter_bd zr.zs[k]
      have hlt : 97 + bitV .and .i64 zr.zs[k] 15 = letter zr.zs[k] := rfl
      rw [hab]
      simp -dsimp (disch := first | omega | (simp only [go_sem, seval]; first | done | omega)) only [go_sem, seval, hcell, hab2, hcell2, hlt]
      obtain ⟨r, hrr⟩ : ∃ r, r = letter zr.zs[k] := ⟨_, rfl⟩
      rw [← hrr] at hbd ⊢
      have hnat := ascB_nat (r := r) ⟨by omega, by omega⟩
      obtain ⟨w8, hw8⟩ : ∃ w8, w8 = w7.alloc (.cells #[.int .u8 r] 5) := ⟨_, rfl⟩
      have hc8 : Chg [] w7 w8 := by rw [hw8]; (repeat (first | exact Chg.refl _ _ | apply Chg.drew | apply Chg.alloc | (refine Chg.set ?_ _ _ (by first | (left; simp; done) | (right; omega)))))
      have hb8 : w8.heap[w7.heap.size]? = some (.cells #[.int .u8 r] 5) := by rw [hw8]; simp -dsimp (disch := first | omega | (simp only [go_sem, seval]; first | done | omega)) only [go_sem, seval]
      rw [← hw8]
      have hs8 : Sx w8 (some 5) byteF (some ⟨w7.heap.size, 0, none⟩) [ascB r] := Sx.built (c := [.int .u8 r]) hb8 (by show _ = [Value.int .u8 ((ascB r).toNat : Int)]; rw [hnat])
      refine Eq.mpr (bytes_str (l := [ascB r]) (by kernel_rfl) (by kernel_rfl) hs8) ?_
      have e1 : (k : Int) + 1 = ((k + 1 : Nat) : Int) := by omega
      have e2 : lnB ((zr.zs.take (k + 1)).map letter) = lnB ((zr.zs.take k).map letter) ++ [ascB r] := by
        rw [take_next h2.1, List.map_append]
        unfold lnB
        rw [List.map_append, hrr]
        rfl
      have hsz : (bstr (lnB ((zr.zs.take k).map letter))).size ≤ 100000 := by show ((lnB ((zr.zs.take k).map letter)).toArray).size ≤ 100000; unfold lnB; simp; omega
      have hsz1 : (bstr [ascB r]).size = 1 := rfl
      simp -dsimp (disch := first | omega | (simp only [go_sem, seval]; first | done | omega)) only [go_sem, seval, e1]
      rw [← e2]
      exact hn2 (k + 1) _ ⟨by omega, by omega, hc6.trans0 hc8⟩ (by omega)
    · clear hn2
      obtain ⟨li, hli2⟩ : ∃ li, li = (zr.zs.take k).map letter := ⟨_, rfl⟩
      rw [← hli2]
      have hlets : lets li := by rw [hli2]; exact lets_map _
      have hlen : li.length < X := by rw [hli2, List.length_map, List.length_take]; omega
      have hlb : (lnB li).length = li.length := by unfold lnB; rw [List.length_map]
      have hz6 := hc6.size
      simp -dsimp (disch := first | omega | (simp only [go_sem, seval]; first | done | omega)) only [go_sem, seval]
      refine OpX.gen fun w8 hw8 => ?_
      have hc8 : Chg [] w7 w8 := by rw [hw8]; exact chg_a1 _ _
      have hb8 : w8.heap[w7.heap.size]? = some (.cells #[.string (bstr (lnB li))] 9) := by rw [hw8]; simp -dsimp (disch := first | omega | (simp only [go_sem, seval]; first | done | omega)) only [go_sem, seval]
      clear hw8
      have hz8 := hc8.size
      have hs8 : Sx w8 (some 9) lnF (some ⟨w7.heap.size, 0, none⟩) [li] := Sx.built (c := [.string (bstr (lnB li))]) hb8 rfl
      have hc68 := hc6.trans0 hc8
      have hA8 := hA.chg0 hc68
      refine app_x (f := lnF) (l2 := [li]) ty51ap lnF_len lnF_ok (hL.chg0 hc68) hs8 rfl (by simp; omega) (by omega) (by omega) ?_
      intro lv' w9 hL9 hc9 hown
      have hF9 : ∀ x ∈ lv.ownBlock.toList, ¬Town t T M G x := fun x hx hT => by
        have := hA8.no_text (hL.chg0 hc68) hT
        cases hv : lv.ownBlock <;> simp_all
      have hA9 := hA8.frame hrows hc9 hF9
      have hz9 := hc9.size
      simp -dsimp (disch := first | omega | (simp only [go_sem, seval]; first | done | omega)) only [go_sem, seval]
      refine OpX.gen fun w10 hw10 => ?_
      have hc10 : Chg [] w9 w10 := by rw [hw10]; exact chg_a1 _ _
      have hb10 : w10.heap[w9.heap.size]? = some (.cells #[.string (bstr (lnB li)), .string (bstr [13, 10])] 9) := by rw [hw10]; first | rfl | (simp -dsimp (disch := first | omega | (simp only [go_sem, seval]; first | done | omega)) only [go_sem, seval]; rfl)
      clear hw10
      have hz10 := hc10.size
      have hs10 : Sx w10 (some 9) bsF (some ⟨w9.heap.size, 0, none⟩) [lnB li, [13, 10]] := Sx.built (c := [.string (bstr (lnB li)), .string (bstr [13, 10])]) hb10 rfl
      have hA10 := hA9.chg0 hc10
      have hL10 := hL9.chg0 hc10
      have hfar : ∀ b o, some (⟨w9.heap.size, 0, none⟩ : Addr) = some ⟨b, o, none⟩ → [lnB li, [13, 10]] ≠ [] → b ∉ t :: T.s :: M.blk := by
        intro b o hb _ hm
        cases hb
        rcases List.mem_cons.1 hm with e | hm
        · have := lt_of_heap hA9.hb; omega
        · have := hA9.scr.at_.lt _ hm; omega
      have hp10 : ∀ p ∈ [lnB li, [13, 10]], p.length ≤ 1000000 := fun p hp => by
        rcases List.mem_cons.1 hp with rfl | hp
        · omega
        · simp at hp; rw [hp]; decide
      refine OpX.call term_Term_Write_b rfl (Calls.ret (twrite_c hA10 (by omega) hs10 hp10 hfar 2 (by simp)) ?_)
      rintro v w11 ⟨M8, G8, k8, E8, hA11, hst, hroom, hlist, hc11, hrows11, -⟩
      have hF11 : ∀ x ∈ t :: T.s :: M.blk ++ T.h :: G.blk, Town t T M G x ∧ B ≤ x := by
        intro x hx
        simp only [List.cons_append, List.mem_cons, List.mem_append] at hx
        rcases hx with rfl | rfl | hx | rfl | hx
        · exact ⟨.inl rfl, hA10.lo _ (by simp)⟩
        · exact ⟨.inr (.inl rfl), hA10.scr.lo _ (by simp)⟩
        · exact ⟨.inr (.inr (.inl hx)), hA10.scr.lo _ (by simp [hx])⟩
        · exact ⟨.inr (.inr (.inr (.inl rfl))), hA10.lo _ (by simp)⟩
        · exact ⟨.inr (.inr (.inr (.inr (.inl hx)))), hA10.lo _ (by simp [hx])⟩
      have hL11 := hL10.chg hc11 (fun b hb hm => hA10.no_text hL10 (hF11 b hm).1 hb.symm)
      have e1 : (i : Int) + 1 = ((i + 1 : Nat) : Int) := by omega
      simp -dsimp (disch := first | omega | (simp only [go_sem, seval]; first | done | omega)) only [go_sem, seval, e1]
      refine hn (i + 1, lv', ls ++ [li], _, M8, G8) _ ⟨by dsimp only; omega, by dsimp only; omega, by dsimp only; rw [List.length_append, hli]; rfl, hL11, hA11, hT.write (by omega) hlets hlen hst hroom hlist, hrows11, ?_⟩ (by dsimp only; omega)
      refine (((hc4.trans0 hc68).trans hc9 fun x hx => ?_).trans0 hc10).trans hc11 fun x hx => .inr (by have := (hF11 x hx).2; omega)
      have := hL.own_ge x hx
      exact .inr (by omega)
  · clear hn
    obtain ⟨la, lcap, rfl, -, hsl, -, -⟩ := hL.form
    obtain ⟨N, hN⟩ : ∃ N, N = ls.length + 1 - Y := ⟨_, rfl⟩
    have hGl : G.list.length = N := by rw [hT.list, List.length_map, List.length_range, hN]
    have hvt : ∀ (back : Int) (y : Nat), y < Y → trimE (shown ((viewOf M.S G.list back).row y)) = ls.getD (N - min back.toNat N + y) [] ∧ rowText ((viewOf M.S G.list back).row y) = bstr (lnB (ls.getD (N - min back.toNat N + y) [])) := by
      intro back y hy
      rw [hT.view back hy, ← hN]
      exact hT.text _
    have hvf : ∀ back, (viewOf M.S G.list back).fit M.S.w M.S.h := viewOf_ok hA.scr.ok (fun l hl => (hA.rw l hl).trans hA.scr.w.symm)
    rw [hA.scr.w, hA.scr.h] at hvf
    have hLn : ∀ (back : Int) (w' : World), Chg [] w5 w' → ∀ (K : Value → World → Prop), (∀ lv2 w2, Ox w'.heap.size w2 9 1 strF lv2 ((List.range Y).map fun y => bstr (lnB (ls.getD (N - min back.toNat N + y) []))) → Chg [] w' w2 → K lv2 w2) → xC 24 [.const (.pointer (some ⟨t, 0, none⟩)), .const (.int .i64 back)] [49, 3] 38 (fun t104 => xC 23 [.const t104] [38] 51 K) w' := by
      intro back w' hc' K hK
      refine OpX.call term_Term_View_b rfl (Calls.ret (tview_c (hA.chg0 hc') back) ?_)
      rintro v w6 ⟨⟨nb, cp, sp, rfl, p1, p2, p3⟩, hc6⟩
      have hf := hvf back
      have hs6 : SxC w6 (some 70) (some ⟨nb, 0, none⟩) (viewOf M.S G.list back).cs := ⟨fun _ => ⟨nb, 0, _, _, _, [], sp, rfl, p3, by simp [tagOk], by simp, rfl⟩⟩
      have ha6 : ∀ y, y < (viewOf M.S G.list back).h → ∀ r ∈ trimE (shown ((viewOf M.S G.list back).row y)), asc r := by
        intro y hy r hr
        rw [hf.h] at hy
        rw [(hvt back y hy).1] at hr
        have := (hT.lt' _).1 r hr
        exact ⟨by omega, by omega⟩
      refine OpX.call grid_Lines_b rfl (Calls.ret (glines_c hf.ok hs6 cp p1 ha6) ?_)
      rintro v w7 ⟨ho7, hc7⟩
      refine hK _ _ ?_ (hc6.trans0 hc7)
      have e : ((List.range (viewOf M.S G.list back).h).map fun y => rowText ((viewOf M.S G.list back).row y)) = (List.range Y).map fun y => bstr (lnB (ls.getD (N - min back.toNat N + y) [])) := by
        rw [hf.h]
        exact List.map_congr_left fun y hy => (hvt back y (List.mem_range.1 hy)).2
      rw [e] at ho7
      exact ho7.base_le hc6.size
    refine OpX.call term_Term_Rows_b rfl (Calls.ret (trows_c hA) ?_)
    rintro v w6 ⟨rfl, hc6⟩
    rw [hGl]
    simp -dsimp (disch := first | omega | (simp only [go_sem, seval]; first | done | omega)) only [go_sem, seval]
    refine BrW.dec (fun h => absurd h (by omega)) (fun _ => ?_)
    refine Loop1.st (fun q : Nat => .int .i64 (q : Int)) (fun q w' => q ≤ ls.length ∧ Chg [] w5 w') (fun q => ls.length - q) 0 rfl ⟨by simp, hc6⟩ ?_
    rintro next j w7 hn ⟨hj, hc7⟩
    simp -dsimp (disch := first | omega | (simp only [go_sem, seval]; first | done | omega)) only [go_sem, seval]
    refine BrW.dec (fun h2 => ?_) (fun h2 => ?_)
    · refine hLn _ _ hc7 _ ?_
      intro lv8 w8 ho8 hc8
      have hc58 := hc7.trans0 hc8
      refine Join2.cut (fun a b w' => ∃ (y : Nat) (L : List ByteArray) (B' : Nat), b = .int .i64 (y : Int) ∧ Ox B' w' 9 1 strF a L ∧ L.length = Y ∧ L[y]? = some (bstr (lnB (ls.getD j []))) ∧ Chg [] w5 w') ?_ ?_
      · simp -dsimp (disch := first | omega | (simp only [go_sem, seval]; first | done | omega)) only [go_sem, seval]
        refine BrW.dec (fun h3 => ?_) (fun h3 => ?_)
        · simp -dsimp (disch := first | omega | (simp only [go_sem, seval]; first | done | omega)) only [go_sem, seval]
          refine hLn _ _ hc58 _ ?_
          intro lv9 w9 ho9 hc9
          simp -dsimp (disch := first | omega | (simp only [go_sem, seval]; first | done | omega)) only [go_sem, seval]
          refine ⟨j - N, _, _, congrArg (Value.int .i64) (by omega), ho9, by simp, ?_, hc58.trans0 hc9⟩
          rw [List.getElem?_map, List.getElem?_range (by omega)]
          dsimp only [Option.map]
          rw [show N - min (max ((N : Int) - j) 0).toNat N + (j - N) = j by omega]
        · refine ⟨j, _, _, rfl, ho8, by simp, ?_, hc58⟩
          rw [List.getElem?_map, List.getElem?_range (by omega)]
          dsimp only [Option.map]
          rw [show N - min (N : Int).toNat N + j = j by omega]
      rintro a9 b9 w9 ⟨y, L, B', rfl, ho9, hLl, hLy, hc9⟩
      have hyY : y < L.length := by
        rcases Nat.lt_or_ge y L.length with h | h
        · exact h
        · rw [List.getElem?_eq_none h] at hLy; cases hLy
      obtain ⟨a9', cap9, rfl, -, hs9, -, -⟩ := ho9.form
      obtain ⟨b9, o9, rfl, hb9, hcell9⟩ := hs9.get1 (g := fun s => .string s) (fun _ => rfl) hLy
      obtain ⟨b10, o10, rfl, hb10, hcell10⟩ := (hsl.chg0 hc9).get1 (g := fun l => .string (bstr (lnB l))) (fun _ => rfl) (List.getElem?_eq_getElem (show j < ls.length by omega))
      have hjj : ls.getD j [] = ls[j] := by rw [List.getD_eq_getElem?_getD, List.getElem?_eq_getElem (show j < ls.length by omega)]; rfl
      rw [hjj] at hcell9
      simp -dsimp (disch := first | omega | (simp only [go_sem, seval]; first | done | omega)) only [go_sem, seval]
      refine Join1.cut (fun v w' => v = .bool false ∧ Chg [] w5 w') ?_ ?_
      · simp -dsimp (disch := first | omega | (simp only [go_sem, seval]; first | done | omega)) only [go_sem, seval, hcell9, hcell10]
        refine BrW.dec (fun h => absurd h (by omega)) (fun _ => ?_)
        simp -dsimp (disch := first | omega | (simp only [go_sem, seval]; first | done | omega)) only [go_sem, seval]
        refine BrW.dec (fun h => absurd h (by omega)) (fun _ => ?_)
        simp -dsimp (disch := first | omega | (simp only [go_sem, seval]; first | done | omega)) only [go_sem, seval, hcell9, hcell10]
        exact hc9.drew
      rintro v w10 ⟨rfl, hc10⟩
      have e1 : (j : Int) + 1 = ((j + 1 : Nat) : Int) := by omega
      simp -dsimp (disch := first | omega | (simp only [go_sem, seval]; first | done | omega)) only [go_sem, seval, e1]
      exact hn (j + 1) _ ⟨by omega, hc10⟩ (by omega)
    · exact hK _ _ ⟨rfl, hc02.trans0 (hc4.trans0 hc7)⟩
end Go.Proofs.YtjfembffjjijaaaGreat
