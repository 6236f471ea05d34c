/- Helpers of this claim, part 5: engine, translated functions, contracts, plain laws. -/
import Derived.Test.YtjfembffjjijaaaGreatB2
import Derived.Test.YtjfembffjjijaaaGreatB1
import Derived.Test.YtjfembffjjijaaaGreatB3
import Derived.Test.YtjfembffjjijaaaGreatB4
set_option linter.unusedSimpArgs false
set_option linter.unusedVariables false
namespace Lyc
open Go
def grow (g : List (List Cel)) (rs : List (List (List Cel))) : List (List Cel) := rs.foldl (fun g r => latest (g ++ r)) g
theorem grow_append (g : List (List Cel)) (rs qs : List (List (List Cel))) : grow g (rs ++ qs) = grow (grow g rs) qs := by unfold grow; rw [List.foldl_append]
theorem grow_one (g : List (List Cel)) (r : List (List Cel)) : grow g [r] = latest (g ++ r) := by unfold grow; rw [List.foldl_cons, List.foldl_nil]
def Scr.gn (S : Scr) (g : List (List Cel)) : Scr := { S with gone := g }
def Gp (f : Scr → Scr) : Prop := ∀ X : Scr, ∃ (Y : Scr) (rs : List (List (List Cel))), ∀ g, f (X.gn g) = Y.gn (grow g rs)
theorem Gp.comp {f h : Scr → Scr} (hf : Gp f) (hh : Gp h) : Gp fun S => h (f S) := fun X => by
  obtain ⟨Y, rs, h1⟩ := hf X
  obtain ⟨Z, qs, h2⟩ := hh Y
  exact ⟨Z, rs ++ qs, fun g => by dsimp only; rw [h1, h2, grow_append]⟩
theorem Gp.id : Gp fun S => S := fun X => ⟨X, [], fun _ => rfl⟩
theorem Gp.blind {f : Scr → Scr} (h : ∀ X g, f (X.gn g) = (f X).gn g) : Gp f := fun X => ⟨f X, [], fun g => h X g⟩
theorem Gp.ite {c : Scr → Prop} [hd : ∀ S, Decidable (c S)] {f h : Scr → Scr} (hc : ∀ X g, c (X.gn g) ↔ c X) (hf : Gp f) (hh : Gp h) : Gp fun S => if c S then f S else h S := fun X => by
  by_cases hx : c X
  · obtain ⟨Y, rs, h1⟩ := hf X
    exact ⟨Y, rs, fun g => by dsimp only; rw [if_pos ((hc X g).2 hx)]; exact h1 g⟩
  · obtain ⟨Y, rs, h1⟩ := hh X
    exact ⟨Y, rs, fun g => by dsimp only; rw [if_neg (fun h => hx ((hc X g).1 h))]; exact h1 g⟩
theorem gp_at (x y : Scr → Nat) (hx : ∀ X g, x (X.gn g) = x X) (hy : ∀ X g, y (X.gn g) = y X) : Gp fun S => S.at (x S) (y S) := .blind fun X g => by
  show (X.gn g).at (x (X.gn g)) (y (X.gn g)) = _
  rw [hx, hy]; rfl
theorem setCur_gn (X : Scr) (g : List (List Cel)) (G : Gr) : (X.gn g).setCur G = (X.setCur G).gn g := by unfold Scr.setCur Scr.gn; cases X.alt <;> rfl
theorem gp_setCur (G : Scr → Gr) (h : ∀ X g, G (X.gn g) = G X) : Gp fun S => S.setCur (G S) := .blind fun X g => by
  show (X.gn g).setCur (G (X.gn g)) = _
  rw [h, setCur_gn]
theorem gp_calm : Gp Scr.calm := .blind fun _ _ => rfl
theorem gp_restore : Gp Scr.restore := .blind fun _ _ => rfl
theorem gp_save : Gp Scr.save := .blind fun X g => by unfold Scr.save Scr.gn; cases X.alt <;> rfl
theorem gp_scroll (t : Scr → Int) (n : Int) (ht : ∀ X g, t (X.gn g) = t X) : Gp fun S => S.scroll (t S) n := by
  unfold Scr.scroll
  exact gp_setCur (fun S => S.cur.scroll (t S) S.fin n S.free) fun X g => by rw [ht]; rfl
theorem gp_clear (y n : Scr → Int) (hy : ∀ X g, y (X.gn g) = y X) (hn : ∀ X g, n (X.gn g) = n X) : Gp fun S => S.clear (y S) (n S) := by
  unfold Scr.clear
  exact gp_setCur (fun S => S.cur.fill 0 (y S) S.w (n S) S.free) fun X g => by rw [hy, hn]; rfl
theorem gp_line (f : Scr → Gr → Gr) (hf : ∀ X g, f (X.gn g) = f X) : Gp fun S => S.line (f S) := by
  unfold Scr.line
  exact gp_setCur (fun S => Gr.of S.w S.h fun y => if y = S.now.y then (f S ⟨S.w, 1, S.cur.row y⟩).cs else S.cur.row y) fun X g => by rw [hf]; rfl
theorem gp_erase (x n : Scr → Int) (hx : ∀ X g, x (X.gn g) = x X) (hn : ∀ X g, n (X.gn g) = n X) : Gp fun S => S.erase (x S) (n S) := by
  unfold Scr.erase
  exact gp_line (fun S g => g.fill (x S) 0 (n S) 1 S.free) fun X g => by rw [hx, hn]; rfl
theorem gp_keep (n : Int) : Gp fun S => S.keep n := fun X => by
  by_cases h : X.top = 0 ∧ X.alt = false
  · refine ⟨X, [(List.range (min n X.fin).toNat).map X.g0.row], fun g => ?_⟩
    unfold Scr.keep
    dsimp only
    rw [if_pos (show (X.gn g).top = 0 ∧ (X.gn g).alt = false from h)]
    rw [grow_one]
    rfl
  · refine ⟨X, [], fun g => ?_⟩
    unfold Scr.keep
    dsimp only
    rw [if_neg (show ¬((X.gn g).top = 0 ∧ (X.gn g).alt = false) from h)]
    rfl
theorem gp_up (n : Int) : Gp fun S => S.up n := by
  have h : Gp fun S => (S.keep n).scroll (S.keep n).top n := (gp_keep n).comp (gp_scroll (fun S => (S.top : Int)) n fun _ _ => rfl)
  have e : (fun S : Scr => S.up n) = fun S => (S.keep n).scroll (S.keep n).top n := by
    funext S
    unfold Scr.up Scr.keep
    split <;> rfl
  rw [e]; exact h
theorem gp_below : Gp Scr.below := by
  unfold Scr.below
  exact Gp.ite (fun _ _ => Iff.rfl) (gp_up 1) (Gp.ite (fun _ _ => Iff.rfl) (gp_at _ _ (fun _ _ => rfl) fun _ _ => rfl) .id)
theorem gp_above : Gp Scr.above := by
  unfold Scr.above
  exact Gp.ite (fun _ _ => Iff.rfl) (gp_scroll (fun S => (S.top : Int)) (-1) fun _ _ => rfl) (Gp.ite (fun _ _ => Iff.rfl) (gp_at _ _ (fun _ _ => rfl) fun _ _ => rfl) .id)
theorem gp_home : Gp fun S => S.at 0 S.now.y := gp_at _ _ (fun _ _ => rfl) fun _ _ => rfl
theorem gp_wrapped : Gp Scr.wrapped := by
  unfold Scr.wrapped
  exact Gp.ite (c := fun S => S.waits = true) (fun _ _ => Iff.rfl) (gp_home.comp gp_below) .id
theorem gp_roomFor (n : Nat) : Gp fun S => S.roomFor n := by
  unfold Scr.roomFor
  exact Gp.ite (fun _ _ => Iff.rfl) (Gp.ite (c := fun S => S.wraps = true) (fun _ _ => Iff.rfl) (gp_home.comp gp_below) (gp_at _ _ (fun _ _ => rfl) fun _ _ => rfl)) .id
theorem gp_lay (r : Int) (n : Nat) : Gp fun S => S.lay r n := by
  have hl : ∀ X : Scr, ∀ g, ((X.gn g).line fun q => q.put (X.gn g).now.x 0 (mkCel r (X.gn g).now.pen)) = (X.line fun q => q.put X.now.x 0 (mkCel r X.now.pen)).gn g := fun X g => setCur_gn X g _
  refine .blind fun X g => ?_
  unfold Scr.lay
  dsimp only
  rw [hl]
  by_cases h : X.now.x + n = X.w
  · rw [if_pos (show (X.gn g).now.x + n = (X.gn g).w from h), if_pos h]; rfl
  · rw [if_neg (show ¬(X.gn g).now.x + n = (X.gn g).w from h), if_neg h]; rfl
theorem gp_print (r : Int) : Gp fun S => S.print r := by
  unfold Scr.print
  exact Gp.ite (c := fun S => width r = 0 ∨ (S.w : Int) < width r) (fun _ _ => Iff.rfl) .id ((gp_wrapped.comp (gp_roomFor _)).comp (gp_lay r _))
theorem gp_tab : Gp Scr.tab := .blind fun _ _ => rfl
theorem gp_ctl (r : Int) : Gp fun S => S.ctl r := by
  unfold Scr.ctl
  refine Gp.ite (c := fun _ => r = 8) (fun _ _ => Iff.rfl) ((gp_at _ _ (fun _ _ => rfl) fun _ _ => rfl).comp gp_calm) ?_
  refine Gp.ite (c := fun _ => r = 9) (fun _ _ => Iff.rfl) (gp_tab.comp gp_calm) ?_
  refine Gp.ite (c := fun _ => r = 10 ∨ r = 11 ∨ r = 12) (fun _ _ => Iff.rfl) (gp_below.comp gp_calm) ?_
  exact Gp.ite (c := fun _ => r = 13) (fun _ _ => Iff.rfl) (gp_home.comp gp_calm) .id
theorem gp_esc (r : Int) : Gp fun S => S.esc r := by
  unfold Scr.esc
  refine Gp.ite (c := fun _ => r = 55) (fun _ _ => Iff.rfl) gp_save ?_
  refine Gp.ite (c := fun _ => r = 72) (fun _ _ => Iff.rfl) (.blind fun _ _ => rfl) ?_
  refine Gp.ite (c := fun _ => r = 69) (fun _ _ => Iff.rfl) ((gp_home.comp gp_below).comp gp_calm) ?_
  refine Gp.ite (c := fun _ => r = 68) (fun _ _ => Iff.rfl) (gp_below.comp gp_calm) ?_
  refine Gp.ite (c := fun _ => r = 77) (fun _ _ => Iff.rfl) (gp_above.comp gp_calm) ?_
  refine Gp.ite (c := fun _ => r = 56) (fun _ _ => Iff.rfl) (gp_restore.comp gp_calm) ?_
  exact Gp.ite (c := fun _ => r = 99) (fun _ _ => Iff.rfl) (.blind fun _ _ => rfl) .id
theorem gp_mode (n : Int) (on : Bool) : Gp fun S => S.mode n on := by
  unfold Scr.mode
  refine Gp.ite (c := fun _ => n = 7) (fun _ _ => Iff.rfl) (.blind fun _ _ => rfl) ?_
  refine Gp.ite (c := fun _ => n = 25) (fun _ _ => Iff.rfl) (.blind fun _ _ => rfl) ?_
  refine Gp.ite (c := fun _ => n = 47 ∨ n = 1047 ∨ n = 1049) (fun _ _ => Iff.rfl) ?_ .id
  refine Gp.ite (c := fun S => on = true ∧ S.alt = false) (fun _ _ => Iff.rfl) ?_ ?_
  · refine .blind fun X g => ?_
    unfold Scr.save Scr.gn
    cases X.alt <;> rfl
  · exact Gp.ite (c := fun S => on = false ∧ S.alt = true) (fun _ _ => Iff.rfl) (.blind fun _ _ => rfl) .id
theorem gp_modes (on : Bool) : ∀ l : List Int, Gp fun S => S.modes l on
  | [] => .id
  | n :: l => by
    have h := (gp_mode n on).comp (gp_modes on l)
    exact h
def Go? (f : Scr → Option Scr) : Prop := ∀ X : Scr, (∀ g, f (X.gn g) = none) ∨ ∃ (Y : Scr) (rs : List (List (List Cel))), ∀ g, f (X.gn g) = some (Y.gn (grow g rs))
theorem Go?.some {f : Scr → Scr} (h : Gp f) : Go? fun S => Option.some (f S) := fun X => by
  obtain ⟨Y, rs, h1⟩ := h X
  exact .inr ⟨Y, rs, fun g => by dsimp only; rw [h1]⟩
theorem Go?.none : Go? fun _ => Option.none := fun _ => .inl fun _ => rfl
theorem Go?.ite (c : Prop) [Decidable c] {f h : Scr → Option Scr} (hf : Go? f) (hh : Go? h) : Go? fun S => if c then f S else h S := by
  by_cases hc : c
  · simp only [if_pos hc]; exact hf
  · simp only [if_neg hc]; exact hh
theorem gp_move (x y : Scr → Int) (hx : ∀ X g, x (X.gn g) = x X) (hy : ∀ X g, y (X.gn g) = y X) : Gp fun S => S.move (x S) (y S) := .blind fun X g => by
  show (X.gn g).move (x (X.gn g)) (y (X.gn g)) = _
  rw [hx, hy]; rfl
theorem go_moved (a : Act') : Go? fun S => S.moved a := by
  unfold Scr.moved
  dsimp only
  have up : Gp fun S => S.at S.now.x (max ((S.now.y : Int) - min (a.num 0 1) 9999) (if S.top ≤ S.now.y then S.top else 0)).toNat := gp_at _ _ (fun _ _ => rfl) fun _ _ => rfl
  have dn : Gp fun S => S.at S.now.x (min ((S.now.y : Int) + min (a.num 0 1) 9999) (if S.now.y + 1 ≤ S.fin then S.fin - 1 else S.h - 1)).toNat := gp_at _ _ (fun _ _ => rfl) fun _ _ => rfl
  refine Go?.ite _ (.some (gp_home.comp up)) ?_
  refine Go?.ite _ (.some up) ?_
  refine Go?.ite _ (.some (gp_home.comp dn)) ?_
  refine Go?.ite _ (.some dn) ?_
  refine Go?.ite _ (.some (gp_move _ _ (fun _ _ => rfl) fun _ _ => rfl)) ?_
  refine Go?.ite _ (.some (gp_move _ _ (fun _ _ => rfl) fun _ _ => rfl)) ?_
  refine Go?.ite _ (.some (gp_move _ _ (fun _ _ => rfl) fun _ _ => rfl)) ?_
  refine Go?.ite _ (.some (gp_move _ _ (fun _ _ => rfl) fun _ _ => rfl)) ?_
  refine Go?.ite _ (.some (gp_move _ _ (fun _ _ => rfl) fun _ _ => rfl)) ?_
  exact Go?.ite _ (.some gp_restore) .none
theorem gp_region (t f : Int) : Gp fun S => S.region t f := .blind fun X g => by
  unfold Scr.region
  dsimp only
  have e : (X.gn g).h = X.h := rfl
  rw [e]
  generalize (if f = 0 ∨ (X.h : Int) < f then (X.h : Int) else f) = q
  by_cases h : t < q - 1
  · rw [if_pos h, if_pos h]; rfl
  · rw [if_neg h, if_neg h]
theorem gp_wipeRows (k : Int) : Gp fun S => S.wipeRows k := by
  unfold Scr.wipeRows
  refine Gp.ite (c := fun _ => k = 0) (fun _ _ => Iff.rfl) (gp_clear _ _ (fun _ _ => rfl) fun _ _ => rfl) ?_
  refine Gp.ite (c := fun _ => k = 1) (fun _ _ => Iff.rfl) (gp_clear _ _ (fun _ _ => rfl) fun _ _ => rfl) ?_
  exact Gp.ite (c := fun _ => k = 2) (fun _ _ => Iff.rfl) (gp_clear _ _ (fun _ _ => rfl) fun _ _ => rfl) .id
theorem gp_wipeLine (k : Int) : Gp fun S => S.wipeLine k := by
  unfold Scr.wipeLine
  refine Gp.ite (c := fun _ => k = 0) (fun _ _ => Iff.rfl) (gp_erase _ _ (fun _ _ => rfl) fun _ _ => rfl) ?_
  refine Gp.ite (c := fun _ => k = 1) (fun _ _ => Iff.rfl) (gp_erase _ _ (fun _ _ => rfl) fun _ _ => rfl) ?_
  exact Gp.ite (c := fun _ => k = 2) (fun _ _ => Iff.rfl) (gp_erase _ _ (fun _ _ => rfl) fun _ _ => rfl) .id
theorem gp_shiftRows (n : Int) : Gp fun S => S.shiftRows n := by
  unfold Scr.shiftRows
  refine Gp.ite (c := fun S => S.top ≤ S.now.y ∧ S.now.y < S.fin) (fun _ _ => Iff.rfl) (.blind fun X g => ?_) .id
  show ((X.gn g).setCur _).at 0 X.now.y = _
  rw [setCur_gn]
  rfl
theorem go_changed (a : Act') : Go? fun S => S.changed a := by
  unfold Scr.changed
  dsimp only
  refine Go?.ite _ (.some ((gp_wipeRows _).comp (gp_wipeLine _))) ?_
  refine Go?.ite _ (.some (gp_wipeLine _)) ?_
  refine Go?.ite _ (.some (gp_shiftRows _)) ?_
  refine Go?.ite _ (.some (gp_shiftRows _)) ?_
  refine Go?.ite _ (.some (gp_line (fun S g => g.shift S.now.x 0 (-min (a.num 0 1) 9999) S.free) fun _ _ => rfl)) ?_
  refine Go?.ite _ (.some (gp_line (fun S g => g.shift S.now.x 0 (min (a.num 0 1) 9999) S.free) fun _ _ => rfl)) ?_
  refine Go?.ite _ (.some (gp_erase _ _ (fun _ _ => rfl) fun _ _ => rfl)) ?_
  refine Go?.ite _ (.some (gp_up _)) ?_
  refine Go?.ite _ (.some (gp_scroll _ _ fun _ _ => rfl)) ?_
  exact Go?.ite _ (.some (gp_region _ _)) .none
theorem go_set (a : Act') : Go? fun S => S.set a := by
  unfold Scr.set
  refine Go?.ite _ (.some (.blind fun _ _ => rfl)) ?_
  refine Go?.ite _ (.some ?_) ?_
  · refine Gp.ite (c := fun _ => a.num 0 0 = 0) (fun _ _ => Iff.rfl) (.blind fun _ _ => rfl) ?_
    exact Gp.ite (c := fun _ => a.num 0 0 = 3) (fun _ _ => Iff.rfl) (.blind fun _ _ => rfl) .id
  exact Go?.ite _ (.some gp_save) .none
theorem Go?.or {f : Scr → Option Scr} {h k : Scr → Scr} (hf : Go? f) (hk : Gp k) (hh : Gp h) : Gp fun S => match f S with | Option.some T => k T | Option.none => h S := fun X => by
  rcases hf X with h1 | ⟨Y, rs, h1⟩
  · obtain ⟨Z, qs, h2⟩ := hh X
    exact ⟨Z, qs, fun g => by dsimp only; rw [h1]; exact h2 g⟩
  · obtain ⟨Z, qs, h2⟩ := hk Y
    exact ⟨Z, rs ++ qs, fun g => by dsimp only; rw [h1, grow_append]; exact h2 _⟩
theorem gp_csi (a : Act') : Gp fun S => S.csi a := by
  unfold Scr.csi
  refine Gp.ite (c := fun _ => a.priv = 63 ∧ a.mid = 0 ∧ (a.r = 104 ∨ a.r = 108)) (fun _ _ => Iff.rfl) (gp_modes _ _) ?_
  refine Gp.ite (c := fun _ => a.priv ≠ 0 ∨ a.mid ≠ 0) (fun _ _ => Iff.rfl) .id ?_
  exact Go?.or (go_set a) .id (Go?.or (go_moved a) gp_calm (Go?.or (go_changed a) gp_calm .id))
theorem gp_act (a : Act') : Gp fun S => S.act a := by
  unfold Scr.act
  refine Gp.ite (c := fun _ => a.kind = 1) (fun _ _ => Iff.rfl) (gp_print _) ?_
  refine Gp.ite (c := fun _ => a.kind = 2) (fun _ _ => Iff.rfl) (gp_ctl _) ?_
  refine Gp.ite (c := fun _ => a.kind = 3) (fun _ _ => Iff.rfl) (Gp.ite (c := fun _ => a.mid = 0) (fun _ _ => Iff.rfl) (gp_esc _) .id) ?_
  exact Gp.ite (c := fun _ => a.kind = 4) (fun _ _ => Iff.rfl) (gp_csi a) .id
theorem gp_acts : ∀ l : List Act', Gp fun S => S.acts l
  | [] => .id
  | a :: l => (gp_act a).comp (gp_acts l)
def lastN {α : Type} (n : Nat) (l : List α) : List α := l.drop (l.length - n)
theorem lastN_le {α : Type} {n : Nat} {l : List α} (h : l.length ≤ n) : lastN n l = l := by unfold lastN; rw [show l.length - n = 0 by omega, List.drop_zero]
theorem lastN_rev {α : Type} (n : Nat) (l : List α) : (lastN n l).reverse = l.reverse.take n := by unfold lastN; rw [List.take_reverse]
theorem lastN_append {α : Type} (n : Nat) (l m : List α) : lastN n (l ++ m) = lastN n (lastN n l ++ m) := by
  apply List.reverse_inj.1
  rw [lastN_rev, lastN_rev, List.reverse_append, List.reverse_append, lastN_rev, List.take_append, List.take_append, List.take_take]
  congr 2
  omega
theorem lastN_last {α : Type} {n m : Nat} (h : n ≤ m) (l k : List α) : lastN n (k ++ lastN m l) = lastN n (k ++ l) := by
  apply List.reverse_inj.1
  rw [lastN_rev, lastN_rev, List.reverse_append, List.reverse_append, lastN_rev, List.take_append, List.take_append, List.take_take, List.length_take]
  rw [Nat.min_eq_left h]
  congr 2
  rw [List.length_reverse]
  omega
end Lyc
namespace Go.Proofs.YtjfembffjjijaaaGreat
open Lyc Go
set_option maxRecDepth 100000
def lyceumref06_Check (p0 : Value) (K : Value → World → Prop) : World → Prop :=
  xB 38 p0 fun t1 =>
  xF 38 t1 0 fun t6 =>
  xL 3 t6 fun t7 =>
  xF 38 t1 1 fun t8 =>
  xL 3 t8 fun t9 =>
  xC 42 [.const t7, .const t9] [3, 3] 4 fun t10 =>
  Join1 (fun k1 =>
  xN 4 t10 fun t12 =>
  xW t12
  (k1 (.bool true)) <|
  xF 38 t1 2 fun t14 =>
  xL 36 t14 fun t15 =>
  xU t15 36 fun t16 =>
  xF 38 t1 0 fun t17 =>
  xL 3 t17 fun t18 =>
  xF 38 t1 1 fun t19 =>
  xL 3 t19 fun t20 =>
  xO .mul 3 t18 t20 fun t21 =>
  xO .neq 3 t16 t21 fun t22 =>
  k1 t22) fun t23 =>
  xW t23
  (K (.bool false)) <|
  Loop1 (.int .i64 0) fun t4 next2 =>
  xF 38 t1 1 fun t25 =>
  xL 3 t25 fun t26 =>
  xO .lss 3 t4 t26 fun t27 =>
  xW t27
  (xL 38 t1 fun t30 =>
  xC 43 [.const t30, .const t4] [38, 3] 36 fun t32 =>
  xC 17 [.const t32] [36] 4 fun t33 =>
  xN 4 t33 fun t35 =>
  xW t35
  (K (.bool false)) <|
  xO .add 3 t4 (.int .i64 1) fun t29 =>
  next2 t29) <|
  K (.bool true)
theorem lyceumref06_Check_link (p0 : Value) : Lk 15 #[p0] (lyceumref06_Check p0) := lk [p0] [(6, [23]), (16, [4])] Tryz.func15 (by kernel_rfl) fun _ _ => by kernel_rfl
theorem lyceumref06_Check_b : Bodied Tryz.prog 15 := bd Tryz.func15 (by kernel_rfl)
def lyceumref06_Same (p0 p1 : Value) (K : Value → World → Prop) : World → Prop :=
  xB 38 p0 fun t2 =>
  xB 38 p1 fun t3 =>
  xF 38 t2 2 fun t6 =>
  xL 36 t6 fun t7 =>
  xF 38 t3 2 fun t8 =>
  xL 36 t8 fun t9 =>
  xC 57 [.const t7, .const t9] [36, 36] 4 fun t10 =>
  Join1 (fun k1 =>
  xW t10
  (xF 38 t2 0 fun t13 =>
  xL 3 t13 fun t14 =>
  xF 38 t3 0 fun t15 =>
  xL 3 t15 fun t16 =>
  xO .eql 3 t14 t16 fun t17 =>
  xW t17
  (xF 38 t2 1 fun t20 =>
  xL 3 t20 fun t21 =>
  xF 38 t3 1 fun t22 =>
  xL 3 t22 fun t23 =>
  xO .eql 3 t21 t23 fun t24 =>
  k1 t24) <|
  k1 (.bool false)) <|
  k1 (.bool false)) fun t4 =>
  K t4
theorem lyceumref06_Same_link (p0 p1 : Value) : Lk 28 #[p0, p1] (lyceumref06_Same p0 p1) := lk [p0, p1] [(5, [4])] Tryz.func28 (by kernel_rfl) fun _ _ => by kernel_rfl
theorem lyceumref06_Same_b : Bodied Tryz.prog 28 := bd Tryz.func28 (by kernel_rfl)
def lyceumref06_size (p0 p1 : Value) (K : Value → World → Prop) : World → Prop :=
  Join1 (fun k1 =>
  xO .geq 3 p0 (.int .i64 1) fun t6 =>
  xW t6
  (xO .leq 3 p0 (.int .i64 200) fun t9 =>
  xW t9
  (xO .geq 3 p1 (.int .i64 1) fun t13 =>
  xW t13
  (xO .leq 3 p1 (.int .i64 60) fun t17 =>
  k1 t17) <|
  k1 (.bool false)) <|
  k1 (.bool false)) <|
  k1 (.bool false)) fun t4 =>
  K t4
theorem lyceumref06_size_link (p0 p1 : Value) : Lk 42 #[p0, p1] (lyceumref06_size p0 p1) := lk [p0, p1] [(3, [4])] Tryz.func42 (by kernel_rfl) fun _ _ => by kernel_rfl
theorem lyceumref06_size_b : Bodied Tryz.prog 42 := bd Tryz.func42 (by kernel_rfl)
def lyceumref06_Row (p0 p1 : Value) (K : Value → World → Prop) : World → Prop :=
  xB 38 p0 fun t2 =>
  DrewW <|
  Join1 (fun k1 =>
  qP .lss 3 p1 (.int .i64 0) fun t6 =>
  xW t6
  (k1 (.bool true)) <|
  qF 38 t2 1 fun t9 =>
  qL 3 t9 fun t10 =>
  qP .geq 3 p1 t10 fun t11 =>
  xW t11
  (k1 (.bool true)) <|
  qF 38 t2 0 fun t14 =>
  qL 3 t14 fun t15 =>
  qP .lss 3 t15 (.int .i64 1) fun t16 =>
  xW t16
  (k1 (.bool true)) <|
  qF 38 t2 1 fun t19 =>
  qL 3 t19 fun t20 =>
  qF 38 t2 2 fun t21 =>
  qL 36 t21 fun t22 =>
  xR (.call { callee := .builtin .len, args := #[.const t22], argTypes := #[36] }) 3 fun t23 =>
  qF 38 t2 0 fun t24 =>
  qL 3 t24 fun t25 =>
  qP .quo 3 t23 t25 fun t26 =>
  qP .gtr 3 t20 t26 fun t27 =>
  k1 t27) fun t28 =>
  xW t28
  (K (.slice none 0 0)) <|
  OpX Tryz.prog (.buildSlice 36 0 #[]) 36 fun t29 =>
  xF 38 t2 2 fun t30 =>
  xL 36 t30 fun t31 =>
  xF 38 t2 0 fun t33 =>
  xL 3 t33 fun t34 =>
  xO .mul 3 p1 t34 fun t35 =>
  xF 38 t2 0 fun t37 =>
  xL 3 t37 fun t38 =>
  xO .mul 3 p1 t38 fun t39 =>
  xF 38 t2 0 fun t40 =>
  xL 3 t40 fun t41 =>
  xO .add 3 t39 t41 fun t42 =>
  OpX Tryz.prog (.slice 36 (.const t31) (some (.const t35)) (some (.const t42)) none) 36 fun t43 =>
  OpX Tryz.prog (.call { callee := .builtin .append, args := #[.const t29, .const t43], argTypes := #[36, 36] }) 36 fun t44 =>
  K t44
theorem lyceumref06_Row_link (p0 p1 : Value) : Lk 43 #[p0, p1] (lyceumref06_Row p0 p1) := lk [p0, p1] [(4, [28])] Tryz.func43 (by kernel_rfl) fun _ _ => by kernel_rfl
theorem lyceumref06_Row_b : Bodied Tryz.prog 43 := bd Tryz.func43 (by kernel_rfl)
end Go.Proofs.YtjfembffjjijaaaGreat
namespace Go.Proofs.YtjfembffjjijaaaGreat
open Lyc Go
theorem rem64 (x : BitVec 8) : (x.toNat : Int).tmod 64 = ((x &&& 63#8).toNat : Int) := by
  have h : ∀ x : BitVec 8, x.toNat % 64 = (x &&& 63#8).toNat := by decide +kernel
  rw [show (64 : Int) = ((64 : Nat) : Int) from rfl, ← Int.ofNat_tmod, h]
theorem low_lt (x : BitVec 8) : (x &&& 63#8).toNat < 64 := by
  have h : ∀ x : BitVec 8, (x &&& 63#8).toNat < 64 := by decide +kernel
  exact h x
theorem low64 (x : BitVec 8) : ((x &&& 63#8).toNat : Int) + 64 = (((x &&& 63#8) ||| 64#8).toNat : Int) := by
  have h : ∀ x : BitVec 8, (x &&& 63#8).toNat + 64 = ((x &&& 63#8) ||| 64#8).toNat := by decide +kernel
  have := h x; omega
theorem low128 (x : BitVec 8) : ((x &&& 63#8).toNat : Int) + 128 = (((x &&& 63#8) ||| 128#8).toNat : Int) := by
  have h : ∀ x : BitVec 8, (x &&& 63#8).toNat + 128 = ((x &&& 63#8) ||| 128#8).toNat := by decide +kernel
  have := h x; omega
theorem low_low (x : BitVec 8) : ((x &&& 63#8) ||| 64#8) &&& 63#8 = x &&& 63#8 := by
  have h : ∀ x : BitVec 8, ((x &&& 63#8) ||| 64#8) &&& 63#8 = x &&& 63#8 := by decide +kernel
  exact h x
theorem tail_low (x : BitVec 8) : (((x &&& 63#8) ||| 64#8) &&& ~~~64#8) ||| 128#8 = (x &&& 63#8) ||| 128#8 := by
  have h : ∀ x : BitVec 8, (((x &&& 63#8) ||| 64#8) &&& ~~~64#8) ||| 128#8 = (x &&& 63#8) ||| 128#8 := by decide +kernel
  exact h x
theorem none_c (w : World) (r : Int) : Calls Tryz.prog 118 #[.int .i32 r] w (retK fun v w' => v = .bool (decide (r < 0 ∨ 1114111 < r ∨ (55296 ≤ r ∧ r ≤ 57343))) ∧ w' = w) := by
  apply lyceumref04_none_link
  intro K hK
  unfold lyceumref04_none
  refine Join1.inl ?_
  simp -dsimp (disch := first | omega | (simp only [go_sem, seval]; first | done | omega)) only [go_sem, seval]
  refine BrW.dec (fun h1 => ?_) (fun h1 => ?_)
  · exact hK _ _ ⟨by simp [h1], rfl⟩
  · simp -dsimp (disch := first | omega | (simp only [go_sem, seval]; first | done | omega)) only [go_sem, seval]
    refine BrW.dec (fun h2 => ?_) (fun h2 => ?_)
    · exact hK _ _ ⟨by simp [h2], rfl⟩
    · simp -dsimp (disch := first | omega | (simp only [go_sem, seval]; first | done | omega)) only [go_sem, seval]
      refine BrW.dec (fun h3 => ?_) (fun h3 => ?_)
      · simp -dsimp (disch := first | omega | (simp only [go_sem, seval]; first | done | omega)) only [go_sem, seval]
        refine hK _ _ ⟨?_, rfl⟩
        congr 1
        simp [h1, h2, h3]
      · simp -dsimp (disch := first | omega | (simp only [go_sem, seval]; first | done | omega)) only [go_sem, seval]
        refine hK _ _ ⟨?_, rfl⟩
        congr 1
        simp [h1, h2, h3]
theorem within_c (w : World) (r a b : Int) (h1 : -2147483648 ≤ r) (h2 : r ≤ 2147483647) : Calls Tryz.prog 119 #[.int .i32 r, .int .i64 a, .int .i64 b] w (retK fun v w' => v = .bool (decide (a ≤ r ∧ r ≤ b)) ∧ w' = w) := by
  apply lyceumref04_within_link
  intro K hK
  unfold lyceumref04_within
  refine Join1.inl ?_
  simp -dsimp (disch := first | omega | (simp only [go_sem, seval]; first | done | omega)) only [go_sem, seval]
  refine BrW.dec (fun h3 => ?_) (fun h3 => ?_)
  · simp -dsimp (disch := first | omega | (simp only [go_sem, seval]; first | done | omega)) only [go_sem, seval]
    exact hK _ _ ⟨by simp [h3], rfl⟩
  · simp -dsimp (disch := first | omega | (simp only [go_sem, seval]; first | done | omega)) only [go_sem, seval]
    exact hK _ _ ⟨by simp [h3], rfl⟩
def w0 (r : Int) : Prop := (r < 0 ∨ 1114111 < r ∨ (55296 ≤ r ∧ r ≤ 57343)) ∨ r < 32 ∨ (127 ≤ r ∧ r ≤ 159) ∨ (768 ≤ r ∧ r ≤ 879) ∨ (8203 ≤ r ∧ r ≤ 8207) ∨ (65024 ≤ r ∧ r ≤ 65039)
def w2 (r : Int) : Prop := (4352 ≤ r ∧ r ≤ 4447) ∨ (11904 ≤ r ∧ r ≤ 12350) ∨ (12353 ≤ r ∧ r ≤ 42191) ∨ (44032 ≤ r ∧ r ≤ 55203) ∨ (63744 ≤ r ∧ r ≤ 64255) ∨ (65072 ≤ r ∧ r ≤ 65135) ∨ (65281 ≤ r ∧ r ≤ 65376) ∨ (65504 ≤ r ∧ r ≤ 65510) ∨ (127744 ≤ r ∧ r ≤ 128591) ∨ (129280 ≤ r ∧ r ≤ 129535) ∨ (131072 ≤ r ∧ r ≤ 262141)
instance (r : Int) : Decidable (w0 r) := by unfold w0; infer_instance
instance (r : Int) : Decidable (w2 r) := by unfold w2; infer_instance
theorem width_w0 {r : Int} (h : w0 r) : width r = 0 := by
  unfold w0 at h
  simp only [width, spans, spanW]
  repeat' split
  all_goals first | rfl | omega
theorem width_w2 {r : Int} (h0 : ¬ w0 r) (h : w2 r) : width r = 2 := by
  unfold w0 at h0
  unfold w2 at h
  simp only [width, spans, spanW]
  repeat' split
  all_goals first | rfl | omega
theorem width_w1 {r : Int} (h0 : ¬ w0 r) (h : ¬ w2 r) : width r = 1 := by
  unfold w0 at h0
  unfold w2 at h
  simp only [width, spans, spanW]
  repeat' split
  all_goals first | rfl | omega
theorem or_step {w w' : World} {p q : Prop} [Decidable p] [Decidable q] {k : Value → World → Prop} {M : Prop} (ht : p → k (.bool true) w') (hf : ¬ p → M) : BrW (.bool (decide p)) (k (.bool true) w') M () := BrW.dec ht hf
theorem rwidth_c (w : World) (r : Int) (h1 : -2147483648 ≤ r) (h2 : r ≤ 2147483647) : Calls Tryz.prog 80 #[.int .i32 r] w (retK fun v w' => v = .int .i64 (width r) ∧ w' = w) := by
  apply lyceumref04_Width_link
  intro K hK
  unfold lyceumref04_Width
  refine Join1.cut (fun v w' => v = .bool (decide (w0 r)) ∧ w' = w) ?_ ?_
  · refine OpX.call lyceumref04_none_b rfl (Calls.ret (none_c w r) ?_)
    rintro v w1 ⟨rfl, rfl⟩
    refine BrW.dec (fun h => ⟨by simp [w0, h], rfl⟩) (fun h3 => ?_)
    simp -dsimp (disch := first | omega | (simp only [go_sem, seval]; first | done | omega)) only [go_sem, seval]
    refine BrW.dec (fun h => ⟨by simp [w0, h], rfl⟩) (fun h4 => ?_)
    refine OpX.call lyceumref04_within_b rfl (Calls.ret (within_c _ r 127 159 h1 h2) ?_)
    rintro v w1 ⟨rfl, rfl⟩
    refine BrW.dec (fun h => ⟨by simp [w0, h], rfl⟩) (fun h5 => ?_)
    refine OpX.call lyceumref04_within_b rfl (Calls.ret (within_c _ r 768 879 h1 h2) ?_)
    rintro v w1 ⟨rfl, rfl⟩
    refine BrW.dec (fun h => ⟨by simp [w0, h], rfl⟩) (fun h6 => ?_)
    refine OpX.call lyceumref04_within_b rfl (Calls.ret (within_c _ r 8203 8207 h1 h2) ?_)
    rintro v w1 ⟨rfl, rfl⟩
    refine BrW.dec (fun h => ⟨by simp [w0, h], rfl⟩) (fun h7 => ?_)
    refine OpX.call lyceumref04_within_b rfl (Calls.ret (within_c _ r 65024 65039 h1 h2) ?_)
    rintro v w1 ⟨rfl, rfl⟩
    refine ⟨?_, rfl⟩
    congr 1
    unfold w0
    simp only [h3, h4, h5, h6, h7, false_or]
  · rintro v w1 ⟨rfl, rfl⟩
    refine BrW.dec (fun h => hK _ _ ⟨by rw [width_w0 h], rfl⟩) (fun h0 => ?_)
    refine Join1.cut (fun v w' => v = .bool (decide (w2 r)) ∧ w' = w1) ?_ ?_
    · refine OpX.call lyceumref04_within_b rfl (Calls.ret (within_c _ r 4352 4447 h1 h2) ?_)
      rintro v w1 ⟨rfl, rfl⟩
      refine BrW.dec (fun h => ⟨by simp [w2, h], rfl⟩) (fun h3 => ?_)
      refine OpX.call lyceumref04_within_b rfl (Calls.ret (within_c _ r 11904 12350 h1 h2) ?_)
      rintro v w1 ⟨rfl, rfl⟩
      refine BrW.dec (fun h => ⟨by simp [w2, h], rfl⟩) (fun h4 => ?_)
      refine OpX.call lyceumref04_within_b rfl (Calls.ret (within_c _ r 12353 42191 h1 h2) ?_)
      rintro v w1 ⟨rfl, rfl⟩
      refine BrW.dec (fun h => ⟨by simp [w2, h], rfl⟩) (fun h5 => ?_)
      refine OpX.call lyceumref04_within_b rfl (Calls.ret (within_c _ r 44032 55203 h1 h2) ?_)
      rintro v w1 ⟨rfl, rfl⟩
      refine BrW.dec (fun h => ⟨by simp [w2, h], rfl⟩) (fun h6 => ?_)
      refine OpX.call lyceumref04_within_b rfl (Calls.ret (within_c _ r 63744 64255 h1 h2) ?_)
      rintro v w1 ⟨rfl, rfl⟩
      refine BrW.dec (fun h => ⟨by simp [w2, h], rfl⟩) (fun h7 => ?_)
      refine OpX.call lyceumref04_within_b rfl (Calls.ret (within_c _ r 65072 65135 h1 h2) ?_)
      rintro v w1 ⟨rfl, rfl⟩
      refine BrW.dec (fun h => ⟨by simp [w2, h], rfl⟩) (fun h8 => ?_)
      refine OpX.call lyceumref04_within_b rfl (Calls.ret (within_c _ r 65281 65376 h1 h2) ?_)
      rintro v w1 ⟨rfl, rfl⟩
      refine BrW.dec (fun h => ⟨by simp [w2, h], rfl⟩) (fun h9 => ?_)
      refine OpX.call lyceumref04_within_b rfl (Calls.ret (within_c _ r 65504 65510 h1 h2) ?_)
      rintro v w1 ⟨rfl, rfl⟩
      refine BrW.dec (fun h => ⟨by simp [w2, h], rfl⟩) (fun h10 => ?_)
      refine OpX.call lyceumref04_within_b rfl (Calls.ret (within_c _ r 127744 128591 h1 h2) ?_)
      rintro v w1 ⟨rfl, rfl⟩
      refine BrW.dec (fun h => ⟨by simp [w2, h], rfl⟩) (fun h11 => ?_)
      refine OpX.call lyceumref04_within_b rfl (Calls.ret (within_c _ r 129280 129535 h1 h2) ?_)
      rintro v w1 ⟨rfl, rfl⟩
      refine BrW.dec (fun h => ⟨by simp [w2, h], rfl⟩) (fun h12 => ?_)
      refine OpX.call lyceumref04_within_b rfl (Calls.ret (within_c _ r 131072 262141 h1 h2) ?_)
      rintro v w1 ⟨rfl, rfl⟩
      refine ⟨?_, rfl⟩
      congr 1
      unfold w2
      simp only [h3, h4, h5, h6, h7, h8, h9, h10, h11, h12, false_or]
    · rintro v w1 ⟨rfl, rfl⟩
      refine BrW.dec (fun h => hK _ _ ⟨by rw [width_w2 h0 h], rfl⟩) (fun h => hK _ _ ⟨by rw [width_w1 h0 h], rfl⟩)
theorem rtail_c (w : World) (c : Cel) : Calls Tryz.prog 81 #[c.val] w (retK fun v w' => v = (⟨0, c.fg, c.bg, (c.a &&& 63#8) ||| 128#8⟩ : Cel).val ∧ Chg [] w w') := by
  have := low_lt c.a
  apply lyceumref05_Tail_link
  intro K hK
  unfold lyceumref05_Tail
  simp -dsimp (disch := first | omega | (simp only [go_sem, seval]; first | done | omega)) only [go_sem, seval, rem64, low128]
  exact hK _ _ ⟨rfl, ((Chg.refl [] w).alloc _).alloc _⟩
theorem rsame_c {w : World} {e e' : Option TypeId} {a a' : Option Addr} {l l' : List Cel} (hs : SxC w e a l) (hs' : SxC w e' a' l') (cap cap' : Nat) (hl : l.length ≤ 1000000000) : Calls Tryz.prog 57 #[.slice a l.length cap, .slice a' l'.length cap'] w (retK fun v w' => v = .bool (decide (l = l')) ∧ Chg [] w w') := by
  apply lyceumref05_Same_link
  intro K hK
  unfold lyceumref05_Same
  simp -dsimp (disch := first | omega | (simp only [go_sem, seval]; first | done | omega)) only [go_sem, seval]
  refine BrW.dec (fun h1 => ?_) (fun h1 => ?_)
  · refine hK _ _ ⟨?_, Chg.refl _ _⟩
    have : l ≠ l' := by rintro rfl; exact h1 rfl
    simp [this]
  · have hlen : l.length = l'.length := by omega
    refine Loop1.st (fun k : Nat => .int .i64 k) (fun k w' => Chg [] w w' ∧ k ≤ l.length ∧ l.take k = l'.take k) (fun k => l.length - k) 0 rfl ⟨Chg.refl _ _, by omega, rfl⟩ ?_
    rintro next k w' hn ⟨hc, hk, he⟩
    simp -dsimp (disch := first | omega | (simp only [go_sem, seval]; first | done | omega)) only [go_sem, seval]
    refine BrW.dec (fun h2 => ?_) (fun h2 => ?_)
    · have hk1 : k < l.length := by omega
      have hk2 : k < l'.length := by omega
      obtain ⟨b, o, rfl, hb, h3, -⟩ := SxC.cel (hs.chg0 hc) (List.getElem?_eq_getElem hk1)
      obtain ⟨b', o', rfl, hb', h3', -⟩ := SxC.cel (hs'.chg0 hc) (List.getElem?_eq_getElem hk2)
      simp -dsimp (disch := first | omega | (simp only [go_sem, seval]; first | done | omega)) only [go_sem, seval, h3, h3']
      refine BrW.dec (fun h4 => ?_) (fun h4 => ?_)
      · refine hK _ _ ⟨?_, hc.drew⟩
        have : l ≠ l' := by rintro rfl; exact h4 rfl
        simp [this]
      · simp -dsimp (disch := first | omega | (simp only [go_sem, seval]; first | done | omega)) only [go_sem, seval]
        refine hn (k + 1) _ ⟨hc.drew, by omega, ?_⟩ (by omega)
        rw [take_next hk1, take_next hk2, he]
        rw [Decidable.not_not.1 h4]
    · have hk1 : k = l.length := by omega
      subst hk1
      refine hK _ _ ⟨?_, hc⟩
      rw [List.take_length, hlen, List.take_length] at he
      simp [he]
end Go.Proofs.YtjfembffjjijaaaGreat
namespace Go.Proofs.YtjfembffjjijaaaGreat
open Lyc Go
theorem tail_eq (c : Cel) : (⟨0, c.fg, c.bg, (c.a &&& 63#8) ||| 128#8⟩ : Cel) = c.tailOf := by
  have h : ∀ a : BitVec 8, (a &&& 63#8) ||| 128#8 = (a &&& ~~~64#8) ||| 128#8 := by decide
  simp only [Cel.tailOf, h]
theorem rwide_c (w : World) (c : Cel) : Calls Tryz.prog 45 #[c.val] w (retK fun v w' => v = .bool c.wide ∧ Chg [] w w') := by
  have h : ∀ a : BitVec 8, decide (a.toNat / 64 % 2 = 1) = decide (¬ a &&& 64#8 = 0#8) := by decide
  have hb := c.a.isLt
  apply lyceumref05_wide_link
  intro K hK
  unfold lyceumref05_wide
  simp -dsimp (disch := first | omega | (simp only [go_sem, seval]; first | done | omega)) only [go_sem, seval]
  refine hK _ _ ⟨?_, chg_a1 _ _⟩
  unfold Cel.wide
  rw [← h c.a]
  congr 1
  apply decide_eq_decide.2
  have e1 : (c.a.toNat : Int).tdiv 64 = ((c.a.toNat / 64 : Nat) : Int) := by rw [Int.tdiv_eq_ediv_of_nonneg (by omega)]; rfl
  rw [e1, wrap_u8 _ (by omega) (by omega)]
  have e2 : ((c.a.toNat / 64 : Nat) : Int).tmod 2 = ((c.a.toNat / 64 % 2 : Nat) : Int) := by rw [Int.tmod_eq_emod_of_nonneg (by omega)]; rfl
  rw [e2]
  omega
theorem rtailq_c (w : World) (c : Cel) : Calls Tryz.prog 47 #[c.val] w (retK fun v w' => v = .bool c.tail ∧ Chg [] w w') := by
  have h : ∀ a : BitVec 8, decide (a.toNat / 128 = 1) = decide (¬ a &&& 128#8 = 0#8) := by decide
  have hb := c.a.isLt
  apply lyceumref05_tail_link
  intro K hK
  unfold lyceumref05_tail
  simp -dsimp (disch := first | omega | (simp only [go_sem, seval]; first | done | omega)) only [go_sem, seval]
  refine hK _ _ ⟨?_, chg_a1 _ _⟩
  unfold Cel.tail
  rw [← h c.a]
  congr 1
  apply decide_eq_decide.2
  have e1 : (c.a.toNat : Int).tdiv 128 = ((c.a.toNat / 128 : Nat) : Int) := by rw [Int.tdiv_eq_ediv_of_nonneg (by omega)]; rfl
  rw [e1, wrap_u8 _ (by omega) (by omega)]
  omega
theorem rcheck_c (w : World) (c : Cel) (hc : c.fits) : Calls Tryz.prog 44 #[c.val] w (retK fun v w' => v = .bool c.check ∧ Chg [] w w') := by
  apply lyceumref05_Check_link
  intro K hK
  unfold lyceumref05_Check
  simp -dsimp (disch := first | omega | (simp only [go_sem, seval]; first | done | omega)) only [go_sem, seval]
  have hc0 := chg_a1 w (.cells c.cells.toArray 70)
  have hb0 : (w.alloc (.cells c.cells.toArray 70)).heap[w.heap.size]? = some (.cells c.cells.toArray 70) := by simp -dsimp (disch := first | omega | (simp only [go_sem, seval]; first | done | omega)) only [go_sem, seval]
  refine OpX.call lyceumref04_Width_b rfl (Calls.ret (rwidth_c _ c.r hc.1 hc.2) ?_)
  rintro v w1 ⟨rfl, rfl⟩
  simp -dsimp (disch := first | omega | (simp only [go_sem, seval]; first | done | omega)) only [go_sem, seval]
  refine OpX.call lyceumref05_tail_b rfl (Calls.ret (rtailq_c _ c) ?_)
  rintro v w2 ⟨rfl, hc2⟩
  have hb2 := hc2.keep hb0 (by simp)
  have hc02 := hc0.trans0 hc2
  unfold Cel.check at hK
  refine BrW.by (fun h => ?_) (fun h => ?_)
  · rw [if_pos h] at hK
    refine Join1.inl ?_
    simp -dsimp (disch := first | omega | (simp only [go_sem, seval]; first | done | omega)) only [go_sem, seval, hb2]
    refine OpX.call lyceumref05_wide_b rfl (Calls.ret (rwide_c _ c) ?_)
    rintro v w3 ⟨rfl, hc3⟩
    have hb3 := hc3.keep hb2 (by simp)
    simp -dsimp (disch := first | omega | (simp only [go_sem, seval]; first | done | omega)) only [go_sem, seval]
    refine BrW.by (fun h => ?_) (fun h => ?_)
    · simp -dsimp (disch := first | omega | (simp only [go_sem, seval]; first | done | omega)) only [go_sem, seval, hb3]
      refine hK _ _ ⟨?_, hc02.trans0 hc3⟩
      simp at h; simp [h]
    · refine hK _ _ ⟨?_, hc02.trans0 hc3⟩
      simp at h; simp [h]
  · rw [if_neg (by simp [h])] at hK
    refine Join1.inl ?_
    simp -dsimp (disch := first | omega | (simp only [go_sem, seval]; first | done | omega)) only [go_sem, seval]
    refine BrW.dec (fun h1 => ?_) (fun h1 => ?_)
    · simp -dsimp (disch := first | omega | (simp only [go_sem, seval]; first | done | omega)) only [go_sem, seval, hb2]
      refine OpX.call lyceumref05_wide_b rfl (Calls.ret (rwide_c _ c) ?_)
      rintro v w3 ⟨rfl, hc3⟩
      have hb3 := hc3.keep hb2 (by simp)
      simp -dsimp (disch := first | omega | (simp only [go_sem, seval]; first | done | omega)) only [go_sem, seval]
      refine BrW.by (fun h2 => ?_) (fun h2 => ?_)
      · simp at h2
        refine hK _ _ ⟨?_, hc02.trans0 hc3⟩
        simp [h2, h1]
      · simp at h2
        simp -dsimp (disch := first | omega | (simp only [go_sem, seval]; first | done | omega)) only [go_sem, seval]
        have h3 : ¬ width c.r = 2 := by omega
        refine BrW.dec (fun h4 => absurd h4 h3) (fun h4 => ?_)
        refine hK _ _ ⟨?_, hc02.trans0 hc3⟩
        simp [h2, h3]
    · simp -dsimp (disch := first | omega | (simp only [go_sem, seval]; first | done | omega)) only [go_sem, seval]
      refine BrW.dec (fun h4 => ?_) (fun h4 => ?_)
      · simp -dsimp (disch := first | omega | (simp only [go_sem, seval]; first | done | omega)) only [go_sem, seval, hb2]
        refine OpX.call lyceumref05_wide_b rfl (Calls.ret (rwide_c _ c) ?_)
        rintro v w3 ⟨rfl, hc3⟩
        refine hK _ _ ⟨?_, hc02.trans0 hc3⟩
        cases hw : c.wide <;> simp [h1, h4]
      · refine hK _ _ ⟨?_, hc02⟩
        cases hw : c.wide <;> simp [h1, h4]
theorem rpair_c {w : World} {e : Option TypeId} {a : Option Addr} {l : List Cel} (hs : SxC w e a l) (cap : Nat) (i : Int) (h1 : -1 ≤ i) (h2 : i ≤ l.length) (hl : l.length ≤ 1000000) (hf : ∀ c ∈ l, c.fits) : Calls Tryz.prog 46 #[.slice a l.length cap, .int .i64 i] w
    (retK fun v w' => v = .bool (decide (0 ≤ i) && pairAt l i.toNat) ∧ Chg [] w w') := by
  apply lyceumref05_pair_link
  intro K hK
  unfold lyceumref05_pair
  refine Join1.cut (fun v w' => v = .bool (decide (0 ≤ i) && pairAt l i.toNat) ∧ Chg [] w w') ?_ ?_
  · simp -dsimp (disch := first | omega | (simp only [go_sem, seval]; first | done | omega)) only [go_sem, seval]
    refine BrW.dec (fun h3 => ?_) (fun h3 => ⟨by simp [h3], (Chg.refl _ _).drew⟩)
    obtain ⟨k, rfl⟩ := Int.eq_ofNat_of_zero_le h3
    simp -dsimp (disch := first | omega | (simp only [go_sem, seval]; first | done | omega)) only [go_sem, seval]
    refine BrW.dec (fun h4 => ?_) (fun h4 => ⟨by have := @pairAt_lt l k; simp; cases hp : pairAt l k <;> simp_all; omega, (Chg.refl _ _).drew⟩)
    have hk : k < l.length := by omega
    have hk1 : k + 1 < l.length := by omega
    have hpa : pairAt l k = pairOK l[k] l[k + 1] := by
      unfold pairAt; rw [List.getElem?_eq_getElem hk, List.getElem?_eq_getElem hk1]
    have hgo : (decide (0 ≤ (k : Int)) && pairAt l (k : Int).toNat) = pairOK l[k] l[k + 1] := by simp [hpa]
    rw [hgo]
    obtain ⟨b, o, rfl, hb, m1, -⟩ := SxC.cel hs (List.getElem?_eq_getElem hk)
    simp -dsimp (disch := first | omega | (simp only [go_sem, seval]; first | done | omega)) only [go_sem, seval, m1]
    refine OpX.call lyceumref05_Check_b rfl (Calls.ret (rcheck_c _ l[k] (hf _ (List.getElem_mem hk))) ?_)
    rintro v w1 ⟨rfl, hc1⟩
    refine BrW.by (fun h5 => ?_) (fun h5 => ⟨by simp [pairOK, h5], hc1.low_drew⟩)
    obtain ⟨b', o', hbo, hb', m1, -⟩ := SxC.cel ((hs.chg0 (Chg.refl _ _).drew).chg0 hc1) (List.getElem?_eq_getElem hk)
    cases hbo
    simp -dsimp (disch := first | omega | (simp only [go_sem, seval]; first | done | omega)) only [go_sem, seval, m1]
    refine OpX.call lyceumref05_wide_b rfl (Calls.ret (rwide_c _ l[k]) ?_)
    rintro v w2 ⟨rfl, hc2⟩
    have hc12 := hc1.trans0 hc2
    refine BrW.by (fun h6 => ?_) (fun h6 => ⟨by simp [pairOK, h6], hc12.low_drew⟩)
    obtain ⟨b', o', hbo, hb', m1, -⟩ := SxC.cel ((hs.chg0 (Chg.refl _ _).drew).chg0 hc12) (List.getElem?_eq_getElem hk)
    cases hbo
    obtain ⟨b', o', hbo, hb', m2, -⟩ := SxC.cel ((hs.chg0 (Chg.refl _ _).drew).chg0 hc12) (List.getElem?_eq_getElem hk1)
    cases hbo
    have ek : (k : Int) + 1 = ((k + 1 : Nat) : Int) := by simp
    simp -dsimp (disch := first | omega | (simp only [go_sem, seval]; first | done | omega)) only [go_sem, seval, m1, m2, ek]
    refine OpX.call lyceumref05_Tail_b rfl (Calls.ret (rtail_c _ l[k]) ?_)
    rintro v w3 ⟨rfl, hc3⟩
    rw [tail_eq]
    obtain ⟨b', o', hbo, hb', m2, -⟩ := SxC.cel (((hs.chg0 (Chg.refl _ _).drew).chg0 hc12).chg0 hc3) (List.getElem?_eq_getElem hk1)
    cases hbo
    simp -dsimp (disch := first | omega | (simp only [go_sem, seval]; first | done | omega)) only [go_sem, seval, m2]
    refine ⟨by simp [pairOK, h5, h6], (hc12.trans0 hc3).low_drew⟩
  · rintro v w1 ⟨rfl, hc⟩
    exact hK _ _ ⟨rfl, hc⟩
theorem near_eq (l : List Cel) (i : Nat) : near l i = (pairAt l i || (decide (0 ≤ (i : Int) - 1) && pairAt l ((i : Int) - 1).toNat)) := by
  cases i with
  | zero => simp [near]
  | succ i =>
    have e1 : (((i + 1 : Nat) : Int) - 1).toNat = i := by omega
    have e2 : decide (0 ≤ ((i + 1 : Nat) : Int) - 1) = true := by apply decide_eq_true; omega
    rw [e1, e2]; simp [near]
theorem single_eq (c : Cel) : c.single = (c.check && (!c.wide && !c.tail)) := by
  have h : ∀ a : BitVec 8, decide (a &&& 192#8 = 0#8) = (!decide (¬ a &&& 64#8 = 0#8) && !decide (¬ a &&& 128#8 = 0#8)) := by decide
  unfold Cel.single Cel.plain Cel.wide Cel.tail
  rw [h, Bool.and_comm]
theorem prev_eq (l : List Cel) (i : Nat) : (decide (0 ≤ (i : Int) - 1) && pairAt l ((i : Int) - 1).toNat) = prev l i := by
  cases i with
  | zero => simp [prev]
  | succ i =>
    have e1 : (((i + 1 : Nat) : Int) - 1).toNat = i := by omega
    have e2 : decide (0 ≤ ((i + 1 : Nat) : Int) - 1) = true := by apply decide_eq_true; omega
    rw [e1, e2]; simp [prev]
theorem rright_c {w : World} {e : Option TypeId} {a : Option Addr} {l : List Cel} (hs : SxC w e a l) (cap : Nat) (hl : l.length ≤ 100000) (hf : ∀ c ∈ l, c.fits) : Calls Tryz.prog 17 #[.slice a l.length cap] w
    (retK fun v w' => v = .bool (right l) ∧ Chg [] w w') := by
  apply lyceumref05_Right_link
  intro K hK
  unfold lyceumref05_Right
  refine Loop1.st (fun k : Nat => .int .i64 k) (fun k w' => Chg [] w w' ∧ k ≤ l.length ∧ ∀ i c, i < k → l[i]? = some c → near l i = true ∨ c.single = true) (fun k => l.length - k) 0 rfl ⟨Chg.refl _ _, by omega, by simp⟩ ?_
  rintro next k w1 hn ⟨hc1, hk1, hi1⟩
  simp -dsimp (disch := first | omega | (simp only [go_sem, seval]; first | done | omega)) only [go_sem, seval]
  refine BrW.dec (fun h1 => ?_) (fun h1 => ?_)
  · have hk : k < l.length := by omega
    have hs1 := hs.chg0 hc1
    have hgk := List.getElem?_eq_getElem hk
    have hiff := ok_iff hgk
    refine Join1.cut (fun v w' => v = .bool (!decide (near l k = true ∨ l[k].single = true)) ∧ Chg [] w1 w') ?_ ?_
    · obtain ⟨b, o, rfl, hb, m1, -⟩ := SxC.cel hs1 hgk
      simp -dsimp (disch := first | omega | (simp only [go_sem, seval]; first | done | omega)) only [go_sem, seval, m1]
      refine OpX.call lyceumref05_Check_b rfl (Calls.ret (rcheck_c _ l[k] (hf _ (List.getElem_mem hk))) ?_)
      rintro v2 w2 ⟨rfl, hc2⟩
      simp -dsimp (disch := first | omega | (simp only [go_sem, seval]; first | done | omega)) only [go_sem, seval]
      refine BrW.by (fun h2 => ⟨?_, hc2⟩) (fun h2 => ?_)
      · simp at h2; simp [hiff, h2]
      · simp at h2
        obtain ⟨b', o', hbo, hb', m2, -⟩ := SxC.cel (hs1.chg0 hc2) hgk
        cases hbo
        simp -dsimp (disch := first | omega | (simp only [go_sem, seval]; first | done | omega)) only [go_sem, seval, m2]
        refine OpX.call lyceumref05_wide_b rfl (Calls.ret (rwide_c _ l[k]) ?_)
        rintro v3 w3 ⟨rfl, hc3⟩
        have hc13 := hc2.trans0 hc3
        obtain ⟨b', o', hbo, hb', m3, -⟩ := SxC.cel (hs1.chg0 hc13) hgk
        cases hbo
        refine BrW.by (fun h3 => ?_) (fun h3 => ?_)
        · refine OpX.call lyceumref05_pair_b rfl (Calls.ret (rpair_c (hs1.chg0 hc13) cap (k : Int) (by omega) (by omega) (by omega) hf) ?_)
          rintro v4 w4 ⟨rfl, hc4⟩
          have hc14 := hc13.trans0 hc4
          have hp0 : (decide (0 ≤ (k : Int)) && pairAt l (k : Int).toNat) = pairAt l k := by simp
          rw [hp0]
          simp -dsimp (disch := first | omega | (simp only [go_sem, seval]; first | done | omega)) only [go_sem, seval]
          refine BrW.by (fun h4 => ⟨?_, hc14⟩) (fun h4 => ?_)
          · simp at h4; simp [hiff, h3, h4]
          · simp at h4
            obtain ⟨b', o', hbo, hb', m4, -⟩ := SxC.cel (hs1.chg0 hc14) hgk
            cases hbo
            simp -dsimp (disch := first | omega | (simp only [go_sem, seval]; first | done | omega)) only [go_sem, seval, m4]
            refine OpX.call lyceumref05_tail_b rfl (Calls.ret (rtailq_c _ l[k]) ?_)
            rintro v5 w5 ⟨rfl, hc5⟩
            have hc15 := hc14.trans0 hc5
            refine BrW.by (fun h5 => ?_) (fun h5 => ?_)
            · simp -dsimp (disch := first | omega | (simp only [go_sem, seval]; first | done | omega)) only [go_sem, seval]
              refine OpX.call lyceumref05_pair_b rfl (Calls.ret (rpair_c (hs1.chg0 hc15) cap ((k : Int) - 1) (by omega) (by omega) (by omega) hf) ?_)
              rintro v6 w6 ⟨rfl, hc6⟩
              rw [prev_eq]
              simp -dsimp (disch := first | omega | (simp only [go_sem, seval]; first | done | omega)) only [go_sem, seval]
              refine ⟨?_, hc15.trans0 hc6⟩
              simp [hiff, h2, h4, h5]
            · refine ⟨?_, hc15⟩
              simp [hiff, h2, h4, h5]
        · simp -dsimp (disch := first | omega | (simp only [go_sem, seval]; first | done | omega)) only [go_sem, seval, m3]
          refine OpX.call lyceumref05_tail_b rfl (Calls.ret (rtailq_c _ l[k]) ?_)
          rintro v5 w5 ⟨rfl, hc5⟩
          have hc15 := hc13.trans0 hc5
          refine BrW.by (fun h5 => ?_) (fun h5 => ?_)
          · simp -dsimp (disch := first | omega | (simp only [go_sem, seval]; first | done | omega)) only [go_sem, seval]
            refine OpX.call lyceumref05_pair_b rfl (Calls.ret (rpair_c (hs1.chg0 hc15) cap ((k : Int) - 1) (by omega) (by omega) (by omega) hf) ?_)
            rintro v6 w6 ⟨rfl, hc6⟩
            rw [prev_eq]
            simp -dsimp (disch := first | omega | (simp only [go_sem, seval]; first | done | omega)) only [go_sem, seval]
            refine ⟨?_, hc15.trans0 hc6⟩
            simp [hiff, h2, h3, h5]
          · refine ⟨?_, hc15⟩
            simp [hiff, h2, h3, h5]
    · rintro v w2 ⟨rfl, hc2⟩
      refine BrW.by (fun h2 => ?_) (fun h2 => ?_)
      · have hnr : right l = false := by
          cases hr : right l
          · rfl
          · simp at h2
            rcases right_get l hr k _ hgk with h | h
            · rw [h] at h2; simp at h2
            · rw [h] at h2; simp at h2
        exact hK _ _ ⟨by rw [hnr], hc1.trans0 hc2⟩
      · simp -dsimp (disch := first | omega | (simp only [go_sem, seval]; first | done | omega)) only [go_sem, seval]
        refine hn (k + 1) _ ⟨hc1.trans0 hc2, by omega, ?_⟩ (by omega)
        intro i c hi hic
        by_cases he : i = k
        · subst he
          rw [hgk] at hic; cases hic
          rw [Bool.not_eq_false'] at h2
          exact of_decide_eq_true h2
        · exact hi1 i c (by omega) hic
  · have hk : k = l.length := by omega
    refine hK _ _ ⟨?_, hc1⟩
    rw [right_of_get l fun i c hic => hi1 i c (by rw [hk]; exact (List.getElem?_eq_some_iff.1 hic).1) hic]
end Go.Proofs.YtjfembffjjijaaaGreat
namespace Go.Proofs.YtjfembffjjijaaaGreat
open Lyc Go
theorem rsize_c (w : World) (x y : Int) : Calls Tryz.prog 42 #[.int .i64 x, .int .i64 y] w (retK fun v w' => v = .bool (fitsG x y) ∧ w' = w) := by
  apply lyceumref06_size_link
  intro K hK
  unfold lyceumref06_size
  refine Join1.inl ?_
  simp -dsimp (disch := first | omega | (simp only [go_sem, seval]; first | done | omega)) only [go_sem, seval]
  refine BrW.dec (fun h1 => ?_) (fun h1 => ?_)
  · simp -dsimp (disch := first | omega | (simp only [go_sem, seval]; first | done | omega)) only [go_sem, seval]
    refine BrW.dec (fun h2 => ?_) (fun h2 => ?_)
    · simp -dsimp (disch := first | omega | (simp only [go_sem, seval]; first | done | omega)) only [go_sem, seval]
      refine BrW.dec (fun h3 => ?_) (fun h3 => ?_)
      · simp -dsimp (disch := first | omega | (simp only [go_sem, seval]; first | done | omega)) only [go_sem, seval]
        refine hK _ _ ⟨?_, rfl⟩
        simp [fitsG, h1, h2, h3]
      · refine hK _ _ ⟨?_, rfl⟩
        simp [fitsG, h3]
    · refine hK _ _ ⟨?_, rfl⟩
      simp [fitsG, h2]
  · refine hK _ _ ⟨?_, rfl⟩
    simp [fitsG, h1]
theorem GAt.of_ox {base : Nat} {w : World} {v : Value} {W H : Nat} {cs : List Cel} (h : Ox base w 70 4 Cel.cells v cs) (hn : cs ≠ []) : GAt base w (.agg #[.int .i64 W, .int .i64 H, v]) ⟨W, H, cs⟩ := by
  obtain ⟨nb, cap, sp, rfl, h1, h2, h3⟩ := h.blk hn
  exact ⟨nb, cap, sp, rfl, h1, h2, h3⟩
theorem div_h {g : Gr} (hg : g.ok) : (g.cs.length : Int).tdiv g.w = g.h := by
  rw [hg.len]
  have h0 := hg.w0
  have : ((g.w * g.h : Nat) : Int) = (g.w : Int) * g.h := by simp
  rw [this, Int.mul_tdiv_cancel_left _ (by omega)]
theorem rrow_c {w : World} {g : Gr} (hg : g.ok) {e : Option TypeId} {a : Option Addr} (hs : SxC w e a g.cs) (cap : Nat) (hcap : g.cs.length ≤ cap) (y : Nat) (hy : y < g.h) : Calls Tryz.prog 43 #[g.val a cap, .int .i64 y] w
    (retK fun v w' => Ox w.heap.size w' 70 4 Cel.cells v (g.row y) ∧ Chg [] w w') := by
  have h1 := hg.row_lt hy
  have h2 := hg.le
  have h3 := hg.w0
  have h4 := hg.w1
  have h5 := hg.h1
  have hd := div_h hg
  obtain ⟨b, o, _, _, _, _, _, rfl, hb0, _⟩ := hs.at_ hg.ne
  clear hb0
  apply lyceumref06_Row_link
  intro K hK
  unfold lyceumref06_Row
  simp -dsimp (disch := first | omega | (simp only [go_sem, seval]; first | done | omega)) only [go_sem, seval, Gr.val]
  have hc0 := chg_a1 w (.cells #[.int .i64 g.w, .int .i64 g.h, .slice (some ⟨b, o, none⟩) g.cs.length cap] 38)
  have hg0 : (w.alloc (.cells #[.int .i64 g.w, .int .i64 g.h, .slice (some ⟨b, o, none⟩) g.cs.length cap] 38)).heap[w.heap.size]? = some (.cells #[.int .i64 g.w, .int .i64 g.h, .slice (some ⟨b, o, none⟩) g.cs.length cap] 38) := by simp -dsimp (disch := first | omega | (simp only [go_sem, seval]; first | done | omega)) only [go_sem, seval]
  refine Join1.cut (fun v w' => v = .bool false ∧ w' = (w.alloc (.cells #[.int .i64 g.w, .int .i64 g.h, .slice (some ⟨b, o, none⟩) g.cs.length cap] 38)).drew) ?_ ?_
  · simp -dsimp (disch := first | omega | (simp only [go_sem, seval]; first | done | omega)) only [go_sem, seval]
    refine BrW.dec (fun h => by omega) (fun _ => ?_)
    simp -dsimp (disch := first | omega | (simp only [go_sem, seval]; first | done | omega)) only [go_sem, seval]
    refine BrW.dec (fun h => by omega) (fun _ => ?_)
    simp -dsimp (disch := first | omega | (simp only [go_sem, seval]; first | done | omega)) only [go_sem, seval]
    refine BrW.dec (fun h => by omega) (fun _ => ?_)
    simp -dsimp (disch := first | omega | (simp only [go_sem, seval]; first | done | omega)) only [go_sem, seval, hd]
    simp
  · rintro v w1 ⟨rfl, rfl⟩
    have e1 : (y : Int) * (g.w : Int) = ((y * g.w : Nat) : Int) := by simp
    have e2 : ((y * g.w : Nat) : Int) + (g.w : Int) = ((y * g.w + g.w : Nat) : Int) := by simp
    simp -dsimp (disch := first | omega | (simp only [go_sem, seval]; first | done | omega)) only [go_sem, seval, e1, e2]
    have e3 : slo o cap (y * g.w) 4 = o + y * g.w * 4 := by unfold slo; rw [if_neg (by omega)]
    have e4 : y * g.w + g.w - y * g.w = g.w := by omega
    rw [e3, e4]
    have hrl := hg.row_len hy
    have hs1 : SxC (((w.alloc (.cells #[.int .i64 g.w, .int .i64 g.h, .slice (some ⟨b, o, none⟩) g.cs.length cap] 38)).alloc (.cells #[] 70)).drew) e (some ⟨b, o + y * g.w * 4, none⟩) (g.row y) := Sx.sub (hs.chg0 (chg_a2 _ _ _).drew) Cel.len (y * g.w) g.w _ (.inr (.inr rfl))
    have ho : Ox w.heap.size (((w.alloc (.cells #[.int .i64 g.w, .int .i64 g.h, .slice (some ⟨b, o, none⟩) g.cs.length cap] 38)).alloc (.cells #[] 70)).drew) 70 4 Cel.cells (.slice (some ⟨w.heap.size + 1, 0, none⟩) 0 0) [] := Ox.built (c := []) (by simp -dsimp (disch := first | omega | (simp only [go_sem, seval]; first | done | omega)) only [go_sem, seval]) Cel.len (by omega) rfl rfl (by omega) rfl
    refine app_x (l := []) (l2 := g.row y) ty36ap Cel.len Cel.ok ho hs1 (by rw [hrl]) (by simp; omega) (by omega) (by simp -dsimp (disch := first | omega | (simp only [go_sem, seval]; first | done | omega)) only [go_sem, seval]; omega) ?_
    intro v' w' ho' hc' _
    exact hK _ _ ⟨by simpa using ho', own_chg ho (chg_a2 _ _ _).drew hc'⟩
theorem row_sub {g : Gr} {y : Nat} {c : Cel} (h : c ∈ g.row y) : c ∈ g.cs := List.mem_of_mem_drop (List.mem_of_mem_take h)
theorem rgcheck_c {w : World} {g : Gr} (hg : g.ok) (hr : g.right = true) {e : Option TypeId} {a : Option Addr} (hs : SxC w e a g.cs) (cap : Nat) (hcap : g.cs.length ≤ cap) : Calls Tryz.prog 15 #[g.val a cap] w
    (retK fun v w' => v = .bool true ∧ Chg [] w w') := by
  have hle := hg.le
  have hm : (g.w : Int) * (g.h : Int) = (g.cs.length : Int) := by rw [hg.len]; simp
  have h4 := hg.w1
  have h5 := hg.h1
  apply lyceumref06_Check_link
  intro K hK
  unfold lyceumref06_Check
  simp -dsimp (disch := first | omega | (simp only [go_sem, seval]; first | done | omega)) only [go_sem, seval, Gr.val]
  have hc0 := chg_a1 w (.cells #[.int .i64 g.w, .int .i64 g.h, .slice a g.cs.length cap] 38)
  have hg0 : (w.alloc (.cells #[.int .i64 g.w, .int .i64 g.h, .slice a g.cs.length cap] 38)).heap[w.heap.size]? = some (.cells #[.int .i64 g.w, .int .i64 g.h, .slice a g.cs.length cap] 38) := by simp -dsimp (disch := first | omega | (simp only [go_sem, seval]; first | done | omega)) only [go_sem, seval]
  refine OpX.call lyceumref06_size_b rfl (Calls.ret (rsize_c _ g.w g.h) ?_)
  rintro v w1 ⟨rfl, rfl⟩
  refine Join1.inl ?_
  simp -dsimp (disch := first | omega | (simp only [go_sem, seval]; first | done | omega)) only [go_sem, seval, hg.fits, hm]
  refine Loop1.st (fun k : Nat => .int .i64 k) (fun k w' => Chg [] w w' ∧ k ≤ g.h ∧ w'.heap[w.heap.size]? = some (.cells #[.int .i64 g.w, .int .i64 g.h, .slice a g.cs.length cap] 38)) (fun k => g.h - k) 0 rfl ⟨hc0, by omega, hg0⟩ ?_
  rintro next k w2 hn ⟨hc2, hk, hg2⟩
  simp -dsimp (disch := first | omega | (simp only [go_sem, seval]; first | done | omega)) only [go_sem, seval, hg2]
  refine BrW.dec (fun h1 => ?_) (fun h1 => hK _ _ ⟨rfl, hc2⟩)
  have hky : k < g.h := by omega
  simp -dsimp (disch := first | omega | (simp only [go_sem, seval]; first | done | omega)) only [go_sem, seval, hg2]
  refine OpX.call lyceumref06_Row_b rfl (Calls.ret (rrow_c hg (hs.chg0 hc2) cap hcap k hky) ?_)
  rintro v3 w3 ⟨ho3, hc3⟩
  obtain ⟨a3, cap3, rfl, hcap3, hs3, -⟩ := ho3.form
  have hrl := hg.row_len hky
  have hrr := Gr.right.at hr hky
  refine OpX.call lyceumref05_Right_b rfl (Calls.ret (rright_c hs3 cap3 (by omega) (right_fits hrr)) ?_)
  rintro v4 w4 ⟨rfl, hc4⟩
  rw [hrr]
  simp -dsimp (disch := first | omega | (simp only [go_sem, seval]; first | done | omega)) only [go_sem, seval]
  exact hn (k + 1) _ ⟨(hc2.trans0 hc3).trans0 hc4, by omega, (hc3.trans0 hc4).keep hg2 (by simp)⟩ (by omega)
end Go.Proofs.YtjfembffjjijaaaGreat
namespace Go.Proofs.YtjfembffjjijaaaGreat
open Lyc Go
theorem rsame6_c {w : World} {f g : Gr} {e e' : Option TypeId} {a a' : Option Addr} (hs : SxC w e a f.cs) (hs' : SxC w e' a' g.cs) (cap cap' : Nat) (hl : f.cs.length ≤ 1000000000) : Calls Tryz.prog 28 #[f.val a cap, g.val a' cap'] w (retK fun v w' => v = .bool (decide (f = g)) ∧ Chg [] w w') := by
  have hiff : f = g ↔ (f.w = g.w ∧ f.h = g.h ∧ f.cs = g.cs) := by
    cases f; cases g; simp
  apply lyceumref06_Same_link
  intro K hK
  unfold lyceumref06_Same
  simp -dsimp (disch := first | omega | (simp only [go_sem, seval]; first | done | omega)) only [go_sem, seval, Gr.val]
  have hc0 := chg_a2 w (.cells #[.int .i64 f.w, .int .i64 f.h, .slice a f.cs.length cap] 38) (.cells #[.int .i64 g.w, .int .i64 g.h, .slice a' g.cs.length cap'] 38)
  have hf0 : ((w.alloc (.cells #[.int .i64 f.w, .int .i64 f.h, .slice a f.cs.length cap] 38)).alloc (.cells #[.int .i64 g.w, .int .i64 g.h, .slice a' g.cs.length cap'] 38)).heap[w.heap.size]? = some (.cells #[.int .i64 f.w, .int .i64 f.h, .slice a f.cs.length cap] 38) := by simp -dsimp (disch := first | omega | (simp only [go_sem, seval]; first | done | omega)) only [go_sem, seval]
  have hg0 : ((w.alloc (.cells #[.int .i64 f.w, .int .i64 f.h, .slice a f.cs.length cap] 38)).alloc (.cells #[.int .i64 g.w, .int .i64 g.h, .slice a' g.cs.length cap'] 38)).heap[w.heap.size + 1]? = some (.cells #[.int .i64 g.w, .int .i64 g.h, .slice a' g.cs.length cap'] 38) := by simp -dsimp (disch := first | omega | (simp only [go_sem, seval]; first | done | omega)) only [go_sem, seval]
  refine OpX.call lyceumref05_Same_b rfl (Calls.ret (rsame_c (hs.chg0 hc0) (hs'.chg0 hc0) cap cap' hl) ?_)
  rintro v w1 ⟨rfl, hc1⟩
  have hf1 := hc1.keep hf0 (by simp)
  have hg1 := hc1.keep hg0 (by simp)
  refine Join1.cut (fun v w' => v = .bool (decide (f = g)) ∧ w' = w1) ?_ ?_
  · simp -dsimp (disch := first | omega | (simp only [go_sem, seval]; first | done | omega)) only [go_sem, seval]
    refine BrW.dec (fun h1 => ?_) (fun h1 => ?_)
    · simp -dsimp (disch := first | omega | (simp only [go_sem, seval]; first | done | omega)) only [go_sem, seval, hf1, hg1]
      refine BrW.dec (fun h2 => ?_) (fun h2 => ?_)
      · simp -dsimp (disch := first | omega | (simp only [go_sem, seval]; first | done | omega)) only [go_sem, seval, hf1, hg1]
        exact congrArg Value.bool <| decide_eq_decide.2 (by rw [hiff]; exact ⟨fun h => ⟨by omega, by omega, h1⟩, fun h => by omega⟩)
      · refine ⟨?_, rfl⟩
        congr 1
        exact (decide_eq_false (by rw [hiff]; intro h; exact h2 (by omega))).symm
    · refine ⟨?_, rfl⟩
      congr 1
      exact (decide_eq_false (by rw [hiff]; intro h; exact h1 h.2.2)).symm
  · rintro v w2 ⟨rfl, rfl⟩
    exact hK _ _ ⟨rfl, hc0.trans0 hc1⟩
theorem rrow_none {w : World} (g : Gr) (a : Option Addr) (cap : Nat) (y : Int) (hy : y < 0) : Calls Tryz.prog 43 #[g.val a cap, .int .i64 y] w
    (retK fun v w' => v = .slice none 0 0 ∧ Chg [] w w') := by
  apply lyceumref06_Row_link
  intro K hK
  unfold lyceumref06_Row
  simp -dsimp (disch := first | omega | (simp only [go_sem, seval]; first | done | omega)) only [go_sem, seval, Gr.val]
  refine Join1.inl ?_
  simp -dsimp (disch := first | omega | (simp only [go_sem, seval]; first | done | omega)) only [go_sem, seval]
  refine BrW.dec (fun _ => ?_) (fun h => absurd hy h)
  simp -dsimp (disch := first | omega | (simp only [go_sem, seval]; first | done | omega)) only [go_sem, seval]
  exact hK _ _ ⟨rfl, (chg_a1 _ _).drew⟩
end Go.Proofs.YtjfembffjjijaaaGreat
namespace Go.Proofs.YtjfembffjjijaaaGreat
open Lyc Go
def Zr (L g : List (List Cel)) : List (List Cel) := lastN 50 (L ++ g.map mend)
theorem map_latest (l : List (List Cel)) : (latest l).map mend = lastN 500 (l.map mend) := by
  unfold latest lastN
  rw [List.map_drop, List.length_map]
theorem Zr_grow (L : List (List Cel)) : ∀ (rs : List (List (List Cel))) (g : List (List Cel)), Zr L (grow g rs) = lastN 50 (Zr L g ++ rs.flatten.map mend)
  | [], g => by
    show Zr L g = _
    rw [List.flatten_nil, List.map_nil, List.append_nil]
    unfold Zr
    have := lastN_append 50 (L ++ g.map mend) []
    rw [List.append_nil, List.append_nil] at this
    exact this
  | r :: rs, g => by
    have e : grow g (r :: rs) = grow (latest (g ++ r)) rs := by unfold grow; rw [List.foldl_cons]
    rw [e, Zr_grow L rs]
    have e2 : Zr L (latest (g ++ r)) = lastN 50 (Zr L g ++ r.map mend) := by
      unfold Zr
      rw [map_latest, lastN_last (by omega), List.map_append, ← List.append_assoc, lastN_append]
    rw [e2, List.flatten_cons, List.map_append, ← List.append_assoc, lastN_append 50 (Zr L g ++ r.map mend)]
theorem pushed_last {L : List (List Cel)} (h : L.length ≤ 50) (x : List Cel) : pushed 50 L x = lastN 50 (L ++ [x]) := by
  unfold pushed
  rw [if_neg (by omega)]
  split
  · rw [lastN_le (by simp; omega)]
  · have hl : L.length = 50 := by omega
    unfold lastN
    rw [List.length_append, hl]
    cases L with
    | nil => simp at hl
    | cons y L => rfl
theorem lastN_len {α : Type} (n : Nat) (l : List α) : (lastN n l).length ≤ n := by unfold lastN; rw [List.length_drop]; omega
theorem pushAll_last : ∀ {xs L : List (List Cel)}, L.length ≤ 50 → pushAll 50 L xs = lastN 50 (L ++ xs.map mend)
  | [], L, h => by rw [List.map_nil, List.append_nil, lastN_le h]; rfl
  | x :: xs, L, h => by
    have e : pushAll 50 L (x :: xs) = pushAll 50 (pushed 50 L (mend x)) xs := by unfold pushAll; rw [List.foldl_cons]
    rw [e, pushed_last h, pushAll_last (lastN_len _ _), List.map_cons, ← lastN_append]
    rw [List.append_assoc]
    rfl
structure Can (X Y : Nat) (all : List UInt8) (T : Tm) (M : Scm) (G : Hs) : Prop where
  s : M.S = (fedT (Scr.new X Y) [] Esc.new all).1.gn []
  k : T.kept = (fedT (Scr.new X Y) [] Esc.new all).2.1
  e : T.E = (fedT (Scr.new X Y) [] Esc.new all).2.2
  l : G.list = Zr [] (fedT (Scr.new X Y) [] Esc.new all).1.gone
  room : G.room = 50
theorem Can.write {X Y : Nat} {all p : List UInt8} {T : Tm} {M : Scm} {G : Hs} (h : Can X Y all T M G) {k : List UInt8} {E : Esc} {M' : Scm} {G' : Hs}
    (h1 : (M'.S, k, E) = ({ (fedAll (M.S, T.kept, T.E) [p]).1 with gone := [] }, (fedAll (M.S, T.kept, T.E) [p]).2.1, (fedAll (M.S, T.kept, T.E) [p]).2.2)) (hr : G'.room = G.room) (hl : G'.list = pushAll G.room G.list (fedAll (M.S, T.kept, T.E) [p]).1.gone) :
    Can X Y (all ++ p) { T with kept := k, E := E } M' G' := by
  have hf : fedAll (M.S, T.kept, T.E) [p] = fedT M.S T.kept T.E p := rfl
  rw [hf] at h1 hl
  have hA := fedT_append (Scr.new X Y) [] Esc.new all p
  obtain ⟨C, hC⟩ : ∃ C, C = fedT (Scr.new X Y) [] Esc.new all := ⟨_, rfl⟩
  have hs := h.s
  have hk := h.k
  have he := h.e
  have hg := h.l
  rw [← hC] at hA hs hk he hg
  rw [hs, hk, he] at h1 hl
  have e1 : (fedT (C.1.gn []) C.2.1 C.2.2 p).1 = (C.1.gn []).acts (C.2.2.feed (dec (C.2.1 ++ p)).1).2 := rfl
  have e2 : (fedT C.1 C.2.1 C.2.2 p).1 = C.1.acts (C.2.2.feed (dec (C.2.1 ++ p)).1).2 := rfl
  obtain ⟨Z, rs, hg1⟩ := gp_acts (C.2.2.feed (dec (C.2.1 ++ p)).1).2 C.1
  have f1 : (fedT (C.1.gn []) C.2.1 C.2.2 p).1 = Z.gn (grow [] rs) := by rw [e1]; exact hg1 []
  have f2 : (fedT C.1 C.2.1 C.2.2 p).1 = Z.gn (grow C.1.gone rs) := by rw [e2]; exact hg1 C.1.gone
  have g1 : M'.S = { (fedT (C.1.gn []) C.2.1 C.2.2 p).1 with gone := [] } := congrArg Prod.fst h1
  have g2 : k = (fedT (C.1.gn []) C.2.1 C.2.2 p).2.1 := congrArg (fun q => q.2.1) h1
  have g3 : E = (fedT (C.1.gn []) C.2.1 C.2.2 p).2.2 := congrArg (fun q => q.2.2) h1
  have hl50 : G.list.length ≤ 50 := by rw [hg]; exact lastN_len _ _
  refine ⟨?_, ?_, ?_, ?_, hr.trans h.room⟩
  · rw [g1, f1, hA, f2]; rfl
  · rw [hA]; exact g2
  · rw [hA]; exact g3
  · rw [hl, h.room, pushAll_last hl50, hA, f1, f2]
    show Zr G.list (grow [] rs) = Zr [] (grow C.1.gone rs)
    rw [Zr_grow, Zr_grow, hg]
    have : Zr (Zr [] C.1.gone) [] = Zr [] C.1.gone := by
      unfold Zr
      rw [List.map_nil, List.append_nil, lastN_le (lastN_len _ _)]
    rw [this]
theorem Can.same {X Y : Nat} {all : List UInt8} {T T' : Tm} {M M' : Scm} {G G' : Hs} (h : Can X Y all T M G) (h' : Can X Y all T' M' G') : M.S = M'.S ∧ T.kept = T'.kept ∧ T.E = T'.E ∧ G.list = G'.list :=
  ⟨h.s.trans h'.s.symm, h.k.trans h'.k.symm, h.e.trans h'.e.symm, h.l.trans h'.l.symm⟩
theorem Can.new {X Y : Nat} {s h : Nat} {M : Scm} {G : Hs} (hS : M.S = Scr.new X Y) (hl : G.list = []) (hr : G.room = 50) : Can X Y [] ⟨s, h, [], Esc.new⟩ M G := by
  refine ⟨?_, rfl, rfl, ?_, hr⟩
  · rw [hS, fedT_nil _ _ rfl]; rfl
  · rw [hl, fedT_nil _ _ rfl]; rfl
structure Tc (base : Nat) (w : World) (X Y : Nat) (all : List UInt8) (t : Nat) (T : Tm) (M : Scm) (G : Hs) : Prop where
  at_ : TmAt base w t X Y T M G
  can : Can X Y all T M G
  rows : M.rows = []
theorem Tc.chg0 {base : Nat} {w w' : World} {X Y : Nat} {all : List UInt8} {t : Nat} {T : Tm} {M : Scm} {G : Hs} (h : Tc base w X Y all t T M G) (hc : Chg [] w w') : Tc base w' X Y all t T M G := ⟨h.at_.chg0 hc, h.can, h.rows⟩
theorem tpart_c {base : Nat} {w : World} {X Y : Nat} {all : List UInt8} {t : Nat} {T : Tm} {M : Scm} {G : Hs} (h : Tc base w X Y all t T M G) (hbase : base ≤ w.heap.size) {b : Nat} {p : List UInt8} (hb : w.heap[b]? = some (.cells #[.string (bstr p)] 9)) (hp : p.length ≤ 1000000) :
    Calls Tryz.prog 21 #[.pointer (some ⟨t, 0, none⟩), .slice (some ⟨b, 0, none⟩) 1 1] w
    (retK fun _ w' => ∃ T' M' G' F, Tc base w' X Y (all ++ p) t T' M' G' ∧ Chg F w w' ∧ (∀ x ∈ F, Town t T M G x ∧ base ≤ x) ∧ ∀ x, Town t T' M' G' x → Town t T M G x ∨ w.heap.size ≤ x) := by
  have hs : Sx w (some 9) bsF (some ⟨b, 0, none⟩) [p] := Sx.built (c := [.string (bstr p)]) hb rfl
  have hA := h.at_
  have hfar : ∀ b' o, some (⟨b, 0, none⟩ : Addr) = some ⟨b', o, none⟩ → [p] ≠ [] → b' ∉ t :: T.s :: M.blk := by
    intro b' o e _ hm
    cases e
    obtain ⟨⟨c1, f1, a1⟩, ⟨c2, f2, a2⟩, ⟨c3, f3, a3⟩, a4⟩ := hA.scr.at_.tags
    have ht := hA.hb
    unfold Tm.obj at ht
    simp only [Scm.blk, List.mem_cons] at hm
    rcases hm with rfl | rfl | rfl | rfl | hm
    · exact tag_ne hb ht rfl rfl
    · exact tag_ne hb a1 rfl rfl
    · exact tag_ne hb a2 rfl rfl
    · exact tag_ne hb a3 rfl rfl
    · obtain ⟨c, f, a⟩ := a4 _ hm
      exact tag_ne hb a rfl rfl
  refine (twrite_c hA hbase hs (by simp; omega) hfar 1 (by simp)).mono fun e w' hh => ?_
  cases e with
  | returned v =>
    obtain ⟨M', G', k, E, hA', hst, hroom, hlist, hc, hrows, hown⟩ := hh
    refine ⟨_, M', G', _, ⟨hA', h.can.write hst hroom hlist, hrows⟩, hc, fun x hx => ?_, hown⟩
    simp only [List.cons_append, List.mem_cons, List.mem_append] at hx
    rcases hx with rfl | rfl | hx | rfl | hx
    · exact ⟨.inl rfl, hA.lo _ (by simp)⟩
    · exact ⟨.inr (.inl rfl), hA.scr.lo _ (by simp)⟩
    · exact ⟨.inr (.inr (.inl hx)), hA.scr.lo _ (by simp [hx])⟩
    · exact ⟨.inr (.inr (.inr (.inl rfl))), hA.lo _ (by simp)⟩
    · exact ⟨.inr (.inr (.inr (.inr (.inl hx)))), hA.lo _ (by simp [hx])⟩
  | _ => exact hh.elim
def Apart (t : Nat) (T : Tm) (M : Scm) (G : Hs) (u : Nat) (U : Tm) (N : Scm) (J : Hs) : Prop := ∀ x, Town t T M G x → ¬Town u U N J x
theorem Apart.symm {t u : Nat} {T U : Tm} {M N : Scm} {G J : Hs} (h : Apart t T M G u U N J) : Apart u U N J t T M G := fun x hx hy => h x hy hx
theorem Tc.frame {base base' : Nat} {w w' : World} {X Y : Nat} {all : List UInt8} {t u : Nat} {T U : Tm} {M N : Scm} {G J : Hs} (h : Tc base w X Y all t T M G) {F : List Nat} (hc : Chg F w w') (hF : ∀ x ∈ F, Town u U N J x ∧ base' ≤ x) (ha : Apart t T M G u U N J) : Tc base w' X Y all t T M G :=
  ⟨h.at_.frame h.rows hc fun x hx hy => ha x hy (hF x hx).1, h.can, h.rows⟩
theorem Apart.next {base : Nat} {w : World} {X Y : Nat} {all : List UInt8} {t u : Nat} {T U U' : Tm} {M N N' : Scm} {G J J' : Hs} (ha : Apart t T M G u U N J) (h : Tc base w X Y all t T M G) (hn : ∀ x, Town u U' N' J' x → Town u U N J x ∨ w.heap.size ≤ x) : Apart t T M G u U' N' J' := fun x hx hy => by
  rcases hn x hy with k | k
  · exact ha x hx k
  · have := h.at_.own_lt hx; omega
theorem TmAt.base_le {base base' : Nat} {w : World} {t W H : Nat} {T : Tm} {M : Scm} {G : Hs} (h : TmAt base w t W H T M G) (hb : base' ≤ base) : TmAt base' w t W H T M G :=
  ⟨h.hb, ⟨h.scr.at_, h.scr.ok, h.scr.w, h.scr.h, h.scr.gw, fun x hx => Nat.le_trans hb (h.scr.lo x hx)⟩, h.his, h.eok, h.kl, h.dk, fun x hx => Nat.le_trans hb (h.lo x hx), h.sep, h.far, h.rw⟩
theorem tcnew_c (base : Nat) (w : World) (hbase : base ≤ w.heap.size) (X Y : Nat) (X0 : 0 < X) (X1 : X ≤ 200) (Y0 : 0 < Y) (Y1 : Y ≤ 60) : Calls Tryz.prog 20 #[.int .i64 X, .int .i64 Y, .int .i64 50] w
    (retK fun v w' => ∃ t T M G, v = .pointer (some ⟨t, 0, none⟩) ∧ Tc base w' X Y [] t T M G ∧ Chg [] w w' ∧ ∀ x, Town t T M G x → w.heap.size ≤ x) := by
  refine (tnew_c w X Y X0 X1 Y0 Y1 50).mono fun e w' hh => ?_
  cases e with
  | returned v =>
    obtain ⟨t, s, h, M, G, rfl, hA, hS, hgl, hgr, hc, hown, hrows⟩ := hh
    exact ⟨t, _, M, G, rfl, ⟨hA.base_le hbase, Can.new hS hgl (by rw [hgr]; rfl), hrows⟩, hc, hown⟩
  | _ => exact hh.elim
set_option maxHeartbeats 2000000 in
theorem tparted_c {w : World} {e : Option TypeId} {a : Option Addr} {l : List (List UInt8)} (hs : Sx w e bsF a l) (cap : Nat) (hll : l.length ≤ maxLen) (W H : Int) :
    Calls Tryz.prog 6 #[.agg #[.int .i64 W, .int .i64 H], .slice a l.length cap] w (retK fun v w' => v = .bool true ∧ Chg [] w w') := by
  simp only [maxLen] at hll
  obtain ⟨-, u0, u1⟩ := szN_eq (n := W) (m := 14) (by omega)
  obtain ⟨-, v0, v1⟩ := szN_eq (n := H) (m := 8) (by omega)
  apply lyceumlaw11_TermParted_link
  intro K hK
  unfold lyceumlaw11_TermParted
  simp -dsimp (disch := first | omega | (simp only [go_sem, seval]; first | done | omega)) only [go_sem, seval]
  refine OpX.gen fun w0 hw0 => ?_
  have hc0 : Chg [] w w0 := by rw [hw0]; exact chg_a1 _ _
  have hz0 : w0.heap[w.heap.size]? = some (.cells #[.int .i64 W, .int .i64 H] 47) := by rw [hw0]; simp -dsimp (disch := first | omega | (simp only [go_sem, seval]; first | done | omega)) only [go_sem, seval]
  clear hw0
  refine OpX.call lyceumlaw11_awake_b rfl (Calls.ret (awake11_c _) ?_)
  rintro v w1 ⟨rfl, hc1⟩
  have hz1 := hc1.keep hz0 (by simp)
  simp -dsimp (disch := first | omega | (simp only [go_sem, seval]; first | done | omega)) only [go_sem, seval, hz1]
  refine OpX.call lyceumlaw11_Size_size_b rfl (Calls.ret (size11_c _ W H) ?_)
  rintro v w2 ⟨rfl, hc2⟩
  generalize szN W 14 = X at *
  generalize szN H 8 = Y at *
  have hc02 := (hc0.trans0 hc1).trans0 hc2
  obtain ⟨B, hB⟩ : ∃ B, B = w2.heap.size := ⟨_, rfl⟩
  simp -dsimp (disch := first | omega | (simp only [go_sem, seval]; first | done | omega)) only [go_sem, seval]
  refine OpX.call term_New_b rfl (Calls.ret (tcnew_c B w2 (by omega) X Y (by omega) (by omega) (by omega) (by omega)) ?_)
  rintro v w3 ⟨ta, Ta, Ma, Ga, rfl, hA3, hc3, -⟩
  have hz3 := hc3.size
  refine OpX.call term_New_b rfl (Calls.ret (tcnew_c B w3 (by omega) X Y (by omega) (by omega) (by omega) (by omega)) ?_)
  rintro v w4 ⟨tb, Tb, Mb, Gb, rfl, hB4, hc4, hob⟩
  have hz4 := hc4.size
  refine OpX.call term_New_b rfl (Calls.ret (tcnew_c B w4 (by omega) X Y (by omega) (by omega) (by omega) (by omega)) ?_)
  rintro v w5 ⟨tc, Tc', Mc, Gc, rfl, hC5, hc5, hoc⟩
  have hz5 := hc5.size
  have hA4 := hA3.chg0 hc4
  have hab : Apart ta Ta Ma Ga tb Tb Mb Gb := fun x hx hy => by have := hA3.at_.own_lt hx; have := hob x hy; omega
  have hac : Apart ta Ta Ma Ga tc Tc' Mc Gc := fun x hx hy => by have := hA4.at_.own_lt hx; have := hoc x hy; omega
  have hbc : Apart tb Tb Mb Gb tc Tc' Mc Gc := fun x hx hy => by have := hB4.at_.own_lt hx; have := hoc x hy; omega
  have hc25 := (hc3.trans0 hc4).trans0 hc5
  have hA5 := hA4.chg0 hc5
  have hB5 := hB4.chg0 hc5
  refine Join1.cut (fun v w' => v = .bool false ∧ w' = w5) ?_ ?_
  · simp -dsimp (disch := first | omega | (simp only [go_sem, seval]; first | done | omega)) only [go_sem, seval]
  rintro v w6 ⟨rfl, rfl⟩
  simp -dsimp (disch := first | omega | (simp only [go_sem, seval]; first | done | omega)) only [go_sem, seval]
  refine Loop2.st (fun q : Nat × List UInt8 × Tm × Scm × Hs => .string (bstr q.2.1)) (fun q => .int .i64 (q.1 : Int)) (fun q w' => q.1 ≤ l.length ∧ q.1 ≤ 20 ∧ q.2.1.length ≤ 20 * q.1 ∧ Tc B w' X Y q.2.1 ta q.2.2.1 q.2.2.2.1 q.2.2.2.2 ∧ Tc B w' X Y [] tb Tb Mb Gb ∧ Tc B w' X Y [] tc Tc' Mc Gc ∧ Apart ta q.2.2.1 q.2.2.2.1 q.2.2.2.2 tb Tb Mb Gb ∧ Apart ta q.2.2.1 q.2.2.2.1 q.2.2.2.2 tc Tc' Mc Gc ∧ Chg [] w2 w') (fun q => l.length - q.1) (0, [], Ta, Ma, Ga) rfl rfl ⟨by simp, by simp, by simp, hA5, hB5, hC5, hab, hac, hc25⟩ ?_
  clear hA3 hA4 hA5 hB4 hB5 hC5 hab hac hob hoc
  rintro next ⟨i, all, Ta, Ma, Ga⟩ w7 hn ⟨hi, hi20, hal, hA, hB7, hC, hab, hac, hc7⟩
  dsimp only at hi hi20 hal hA hab hac ⊢
  have hz7 := hc7.size
  refine Join1.cut (fun v w' => v = .bool (decide (i < l.length ∧ i < 20)) ∧ w' = w7) ?_ ?_
  · simp -dsimp (disch := first | omega | (simp only [go_sem, seval]; first | done | omega)) only [go_sem, seval]
    refine BrW.dec (fun h1 => ?_) (fun h1 => ⟨congrArg Value.bool (decide_eq_false (fun h => by omega)).symm, rfl⟩)
    simp -dsimp (disch := first | omega | (simp only [go_sem, seval]; first | done | omega)) only [go_sem, seval]
    exact congrArg Value.bool (decide_eq_decide.2 ⟨fun h => ⟨by omega, by omega⟩, fun h => by omega⟩)
  rintro v w8 ⟨rfl, rfl⟩
  refine BrW.dec (fun h1 => ?_) (fun h1 => ?_)
  · obtain ⟨b, o, rfl, hbl, hcell⟩ := ((hs.chg0 hc02).chg0 hc7).get1 (g := fun p => .string (bstr p)) (fun _ => rfl) (List.getElem?_eq_getElem h1.1)
    generalize l[i] = p at *
    simp -dsimp (disch := first | omega | (simp only [go_sem, seval]; first | done | omega)) only [go_sem, seval, hcell]
    refine OpX.call lyceumlaw11_short_b rfl (Calls.ret (short_c w8 p 20) ?_)
    rintro v w9 ⟨rfl, hc9⟩
    obtain ⟨s, hss⟩ : ∃ s, s = p.take 20 := ⟨_, rfl⟩
    have hsl : s.length ≤ 20 := by rw [hss, List.length_take]; omega
    rw [← hss]
    have hz9 := hc9.size
    simp -dsimp (disch := first | omega | (simp only [go_sem, seval]; first | done | omega)) only [go_sem, seval]
    refine OpX.gen fun w10 hw10 => ?_
    have hc10 : Chg [] w9 w10 := by rw [hw10]; exact chg_a1 _ _
    have hb10 : w10.heap[w9.heap.size]? = some (.cells #[.string (bstr s)] 9) := by rw [hw10]; simp -dsimp (disch := first | omega | (simp only [go_sem, seval]; first | done | omega)) only [go_sem, seval]
    clear hw10
    have hz10 := hc10.size
    have hc810 := hc9.trans0 hc10
    refine OpX.call term_Term_Write_b rfl (Calls.ret (tpart_c (hA.chg0 hc810) (by omega) hb10 (by omega)) ?_)
    rintro v w11 ⟨T', M', G', F, hA', hc11, hF, hown⟩
    have e1 : (i : Int) + 1 = ((i + 1 : Nat) : Int) := by omega
    simp -dsimp (disch := first | omega | (simp only [go_sem, seval]; first | done | omega)) only [go_sem, seval, e1]
    refine hn (i + 1, all ++ s, T', M', G') _ ⟨by dsimp only; omega, by dsimp only; omega, by dsimp only; rw [List.length_append]; omega, hA', (hB7.chg0 hc810).frame hc11 hF hab.symm, (hC.chg0 hc810).frame hc11 hF hac.symm, ?_, ?_, (hc7.trans0 hc810).trans hc11 (fun x hx => .inr (by have := (hF x hx).2; omega))⟩ (by dsimp only; omega)
    · exact (hab.symm.next (hB7.chg0 hc810) hown).symm
    · exact (hac.symm.next (hC.chg0 hc810) hown).symm
  have hall : all.length ≤ 400 := by omega
  simp -dsimp (disch := first | omega | (simp only [go_sem, seval]; first | done | omega)) only [go_sem, seval]
  refine OpX.gen fun w10 hw10 => ?_
  have hc10 : Chg [] w8 w10 := by rw [hw10]; exact chg_a1 _ _
  have hb10 : w10.heap[w8.heap.size]? = some (.cells #[.string (bstr all)] 9) := by rw [hw10]; simp -dsimp (disch := first | omega | (simp only [go_sem, seval]; first | done | omega)) only [go_sem, seval]
  clear hw10
  have hz10 := hc10.size
  refine OpX.call term_Term_Write_b rfl (Calls.ret (tpart_c (hB7.chg0 hc10) (by omega) hb10 (by omega)) ?_)
  rintro v w11 ⟨Tb2, Mb2, Gb2, F, hB11, hc11, hF, hown⟩
  rw [List.nil_append] at hB11
  have hA11 := (hA.chg0 hc10).frame hc11 hF hab
  have hC11 := (hC.chg0 hc10).frame hc11 hF hbc.symm
  have hbc2 := (hbc.symm.next (hC.chg0 hc10) hown).symm
  have hc211 : Chg [] w2 w11 := (hc7.trans0 hc10).trans hc11 (fun x hx => .inr (by have := (hF x hx).2; omega))
  refine Loop1.st (fun q : Nat × Tm × Scm × Hs => .int .i64 (q.1 : Int)) (fun q w' => q.1 ≤ all.length ∧ Tc B w' X Y all ta Ta Ma Ga ∧ Tc B w' X Y all tb Tb2 Mb2 Gb2 ∧ Tc B w' X Y (all.take q.1) tc q.2.1 q.2.2.1 q.2.2.2 ∧ Apart ta Ta Ma Ga tc q.2.1 q.2.2.1 q.2.2.2 ∧ Apart tb Tb2 Mb2 Gb2 tc q.2.1 q.2.2.1 q.2.2.2 ∧ Chg [] w2 w') (fun q => all.length - q.1) (0, Tc', Mc, Gc) rfl ⟨by simp, hA11, hB11, hC11, hac, hbc2, hc211⟩ ?_
  clear hA hB7 hC hac hbc hbc2 hA11 hB11 hC11 hF hown hc11 hb10 hc10 hz10 hab
  rintro next2 ⟨j, Tc2, Mc2, Gc2⟩ w12 hn2 ⟨hj, hA, hBb, hC, hac, hbc, hc12⟩
  dsimp only at hj hC hac hbc ⊢
  have hz12 := hc12.size
  simp -dsimp (disch := first | omega | (simp only [go_sem, seval]; first | done | omega)) only [go_sem, seval]
  refine BrW.dec (fun h2 => ?_) (fun h2 => ?_)
  · have hj' : j < all.length := by omega
    have e1 : (j : Int) + 1 = ((j + 1 : Nat) : Int) := by omega
    simp -dsimp (disch := first | omega | (simp only [go_sem, seval]; first | done | omega)) only [go_sem, seval, e1, bstr_extract]
    refine OpX.gen fun w13 hw13 => ?_
    have hc13 : Chg [] w12 w13 := by rw [hw13]; exact chg_a1 _ _
    have hb13 : w13.heap[w12.heap.size]? = some (.cells #[.string (bstr ((all.drop j).take 1))] 9) := by rw [hw13]; simp -dsimp (disch := first | omega | (simp only [go_sem, seval]; first | done | omega)) only [go_sem, seval, show j + 1 - j = 1 by omega]
    clear hw13
    have hz13 := hc13.size
    refine OpX.call term_Term_Write_b rfl (Calls.ret (tpart_c (hC.chg0 hc13) (by omega) hb13 (by rw [List.length_take]; omega)) ?_)
    rintro v w14 ⟨T', M', G', F, hC', hc14, hF, hown⟩
    simp -dsimp (disch := first | omega | (simp only [go_sem, seval]; first | done | omega)) only [go_sem, seval, e1]
    refine hn2 (j + 1, T', M', G') _ ⟨by dsimp only; omega, (hA.chg0 hc13).frame hc14 hF hac, (hBb.chg0 hc13).frame hc14 hF hbc, ?_, hac.next (hA.chg0 hc13) hown, hbc.next (hBb.chg0 hc13) hown, (hc12.trans0 hc13).trans hc14 (fun x hx => .inr (by have := (hF x hx).2; omega))⟩ (by dsimp only; omega)
    dsimp only
    rw [List.take_add]
    exact hC'
  have hja : j = all.length := by omega
  subst hja
  rw [List.take_length] at hC
  obtain ⟨sA, kA, eA, lA⟩ := hA.can.same hBb.can
  obtain ⟨sC, kC, eC, lC⟩ := hC.can.same hBb.can
  have hg0 := hBb.at_.scr.ok.cur
  have hv0 := fun w' (hc : Chg [] w12 w') => (hBb.chg0 hc)
  obtain ⟨G, hG⟩ : ∃ G, G = Mb2.S.cur := ⟨_, rfl⟩
  obtain ⟨V, hV⟩ : ∃ V, V = viewOf Mb2.S Gb2.list 1000 := ⟨_, rfl⟩
  have hlG : G.cs.length ≤ 1000000000 := by rw [hG]; have := hg0.ok.le; omega
  have hlV : V.cs.length ≤ 1000000000 := by rw [hV]; have := (viewOf_ok hBb.at_.scr.ok (fun l hl => (hBb.at_.rw l hl).trans hBb.at_.scr.w.symm) 1000).ok.le; omega
  have q0 : Chg [] w12 w12 := Chg.refl _ _
  refine OpX.call term_Term_Grid_b rfl (Calls.ret (tgrid_c (hA.chg0 q0).at_) ?_)
  rintro v w13 ⟨g13, d13⟩
  rw [sA, ← hG] at g13
  obtain ⟨nb13, cp13, rfl, -, -, -, s13⟩ := g13.sx
  have q1 := q0.trans0 d13
  refine OpX.call term_Term_Grid_b rfl (Calls.ret (tgrid_c (hBb.chg0 q1).at_) ?_)
  rintro v w14 ⟨g14, d14⟩
  rw [← hG] at g14
  obtain ⟨nb14, cp14, rfl, -, -, -, s14⟩ := g14.sx
  have q2 := q1.trans0 d14
  refine OpX.call lyceumref06_Same_b rfl (Calls.ret (rsame6_c (s13.chg0 d14) s14 cp13 cp14 hlG) ?_)
  rintro v w15 ⟨rfl, d15⟩
  have q3 := q2.trans0 d15
  refine OpX.call term_Term_Grid_b rfl (Calls.ret (tgrid_c (hC.chg0 q3).at_) ?_)
  rintro v w16 ⟨g16, d16⟩
  rw [sC, ← hG] at g16
  obtain ⟨nb16, cp16, rfl, -, -, -, s16⟩ := g16.sx
  have q4 := q3.trans0 d16
  refine OpX.call term_Term_Grid_b rfl (Calls.ret (tgrid_c (hBb.chg0 q4).at_) ?_)
  rintro v w17 ⟨g17, d17⟩
  rw [← hG] at g17
  obtain ⟨nb17, cp17, rfl, -, -, -, s17⟩ := g17.sx
  have q5 := q4.trans0 d17
  refine OpX.call lyceumref06_Same_b rfl (Calls.ret (rsame6_c (s16.chg0 d17) s17 cp16 cp17 hlG) ?_)
  rintro v w18 ⟨rfl, d18⟩
  have q6 := q5.trans0 d18
  refine OpX.call term_Term_Cursor_b rfl (Calls.ret (tcursor_c (hA.chg0 q6).at_) ?_)
  rintro v w19 ⟨rfl, d19⟩
  rw [sA]
  have q7 := q6.trans0 d19
  (try simp -dsimp (disch := first | omega | (simp only [go_sem, seval]; first | done | omega)) only [go_sem, seval])
  refine OpX.call term_Term_Cursor_b rfl (Calls.ret (tcursor_c (hBb.chg0 q7).at_) ?_)
  rintro v w20 ⟨rfl, d20⟩
  have q8 := q7.trans0 d20
  (try simp -dsimp (disch := first | omega | (simp only [go_sem, seval]; first | done | omega)) only [go_sem, seval])
  refine OpX.call term_Term_Cursor_b rfl (Calls.ret (tcursor_c (hC.chg0 q8).at_) ?_)
  rintro v w21 ⟨rfl, d21⟩
  rw [sC]
  have q9 := q8.trans0 d21
  (try simp -dsimp (disch := first | omega | (simp only [go_sem, seval]; first | done | omega)) only [go_sem, seval])
  refine OpX.call term_Term_View_b rfl (Calls.ret (tview_c (hA.chg0 q9).at_ 1000) ?_)
  rintro v w22 ⟨g22, d22⟩
  rw [sA, lA, ← hV] at g22
  obtain ⟨nb22, cp22, rfl, -, -, -, s22⟩ := g22.sx
  have q10 := q9.trans0 d22
  refine OpX.call term_Term_View_b rfl (Calls.ret (tview_c (hBb.chg0 q10).at_ 1000) ?_)
  rintro v w23 ⟨g23, d23⟩
  rw [← hV] at g23
  obtain ⟨nb23, cp23, rfl, -, -, -, s23⟩ := g23.sx
  have q11 := q10.trans0 d23
  refine OpX.call lyceumref06_Same_b rfl (Calls.ret (rsame6_c (s22.chg0 d23) s23 cp22 cp23 hlV) ?_)
  rintro v w24 ⟨rfl, d24⟩
  have q12 := q11.trans0 d24
  refine OpX.call term_Term_View_b rfl (Calls.ret (tview_c (hC.chg0 q12).at_ 1000) ?_)
  rintro v w25 ⟨g25, d25⟩
  rw [sC, lC, ← hV] at g25
  obtain ⟨nb25, cp25, rfl, -, -, -, s25⟩ := g25.sx
  have q13 := q12.trans0 d25
  refine OpX.call term_Term_View_b rfl (Calls.ret (tview_c (hBb.chg0 q13).at_ 1000) ?_)
  rintro v w26 ⟨g26, d26⟩
  rw [← hV] at g26
  obtain ⟨nb26, cp26, rfl, -, -, -, s26⟩ := g26.sx
  have q14 := q13.trans0 d26
  refine OpX.call lyceumref06_Same_b rfl (Calls.ret (rsame6_c (s25.chg0 d26) s26 cp25 cp26 hlV) ?_)
  rintro v w27 ⟨rfl, d27⟩
  have q15 := q14.trans0 d27
  refine Join1.cut (fun v w' => v = .bool true ∧ Chg [] w27 w') ?_ ?_
  · simp -dsimp (disch := first | omega | (simp only [go_sem, seval]; first | done | omega)) only [go_sem, seval]
    refine OpX.call term_Term_Rows_b rfl (Calls.ret (trows_c (hA.chg0 q15).at_) ?_)
    rintro v w28 ⟨rfl, d28⟩
    rw [lA]
    have q16 := q15.trans0 d28
    refine OpX.call term_Term_Rows_b rfl (Calls.ret (trows_c (hBb.chg0 q16).at_) ?_)
    rintro v w29 ⟨rfl, d29⟩
    have q17 := q16.trans0 d29
    simp -dsimp (disch := first | omega | (simp only [go_sem, seval]; first | done | omega)) only [go_sem, seval]
    refine OpX.call term_Term_Rows_b rfl (Calls.ret (trows_c (hC.chg0 q17).at_) ?_)
    rintro v w30 ⟨rfl, d30⟩
    rw [lC]
    have q18 := q17.trans0 d30
    refine OpX.call term_Term_Rows_b rfl (Calls.ret (trows_c (hBb.chg0 q18).at_) ?_)
    rintro v w31 ⟨rfl, d31⟩
    have q19 := q18.trans0 d31
    simp -dsimp (disch := first | omega | (simp only [go_sem, seval]; first | done | omega)) only [go_sem, seval]
    refine OpX.call term_Term_Waits_b rfl (Calls.ret (twaits_c (hA.chg0 q19).at_) ?_)
    rintro v w32 ⟨rfl, d32⟩
    rw [kA, eA]
    have q20 := q19.trans0 d32
    refine OpX.call term_Term_Waits_b rfl (Calls.ret (twaits_c (hBb.chg0 q20).at_) ?_)
    rintro v w33 ⟨rfl, d33⟩
    have q21 := q20.trans0 d33
    simp -dsimp (disch := first | omega | (simp only [go_sem, seval]; first | done | omega)) only [go_sem, seval]
    refine OpX.call term_Term_Waits_b rfl (Calls.ret (twaits_c (hC.chg0 q21).at_) ?_)
    rintro v w34 ⟨rfl, d34⟩
    rw [kC, eC]
    have q22 := q21.trans0 d34
    refine OpX.call term_Term_Waits_b rfl (Calls.ret (twaits_c (hBb.chg0 q22).at_) ?_)
    rintro v w35 ⟨rfl, d35⟩
    have q23 := q22.trans0 d35
    simp -dsimp (disch := first | omega | (simp only [go_sem, seval]; first | done | omega)) only [go_sem, seval]
    exact (((((((d28.trans0 d29).trans0 d30).trans0 d31).trans0 d32).trans0 d33).trans0 d34).trans0 d35)
  rintro v w' ⟨rfl, hc'⟩
  exact hK _ _ ⟨rfl, ((hc02.trans0 hc12).trans0 q15).trans0 hc'⟩
end Go.Proofs.YtjfembffjjijaaaGreat
