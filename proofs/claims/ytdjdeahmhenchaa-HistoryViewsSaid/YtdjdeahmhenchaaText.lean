/- The contracts of runes.Encode and cell.Text where the text is plain ASCII. -/
import Derived.Test.YtdjdeahmhenchaaCell
import Derived.Test.YtdjdeahmhenchaaStr
set_option linter.unusedSimpArgs false
set_option linter.unusedVariables false
namespace Go.Proofs.Ytdjdeahmhenchaa
open Lyc Go

def runeF (r : Int) : List Value := [.int .i32 r]
theorem runeF_len (r : Int) : (runeF r).length = 1 := rfl
theorem runeF_ok (r : Int) : okCells (runeF r) = true := rfl
def asc (r : Int) : Prop := 0 ≤ r ∧ r ≤ 127
instance (r : Int) : Decidable (asc r) := by unfold asc; infer_instance
def ascB (r : Int) : UInt8 := UInt8.ofNat r.toNat
theorem ascB_nat {r : Int} (h : asc r) : ((ascB r).toNat : Int) = r := by
  obtain ⟨h0, h1⟩ := h
  simp only [ascB, UInt8.toNat_ofNat']
  omega

theorem valid_asc (w : World) (r : Int) (h : asc r) : Calls Try.prog 115 #[.int .i32 r] w (retK fun v w' => v = .bool true ∧ w' = w) := by
  obtain ⟨h0, h1⟩ := h
  apply unicode_utf8_ValidRune_link
  intro K hK
  unfold unicode_utf8_ValidRune
  refine Join1.inl ?_
  simp -dsimp (disch := first | omega | (simp only [go_sem, seval]; first | done | omega)) only [go_sem, seval]
  refine BrW.dec (fun _ => ?_) (fun h => absurd h0 h)
  simp -dsimp (disch := first | omega | (simp only [go_sem, seval]; first | done | omega)) only [go_sem, seval]
  refine BrW.dec (fun _ => ?_) (fun h => absurd h1 (by omega))
  exact hK _ _ ⟨rfl, rfl⟩
theorem appendRune_asc {base : Nat} {w : World} {v : Value} {l : List UInt8} (ho : Ox base w 5 1 byteF v l) (hb : base ≤ w.heap.size) (hl : l.length ≤ 100000000) (r : Int) (h : asc r) : Calls Try.prog 116 #[v, .int .i32 r] w
    (retK fun v' w' => Ox base w' 5 1 byteF v' (l ++ [ascB r]) ∧ Chg v.ownBlock.toList w w') := by
  obtain ⟨h0, h1⟩ := h
  have h2 := ascB_nat ⟨h0, h1⟩
  obtain ⟨a, cap, rfl, -⟩ := ho.form
  apply unicode_utf8_AppendRune_link
  intro K hK
  unfold unicode_utf8_AppendRune
  simp -dsimp (disch := first | omega | (simp only [go_sem, seval]; first | done | omega)) only [go_sem, seval]
  refine BrW.dec (fun _ => ?_) (fun h => absurd h1 (by omega))
  simp -dsimp (disch := first | omega | (simp only [go_sem, seval]; first | done | omega)) only [go_sem, seval]
  have hc1 := (Chg.refl [] w).alloc (.cells #[.int .u8 r] 5)
  refine app_x (l2 := [ascB r]) (e' := some 5) ty140ap byteF_len byteF_ok (ho.chg0 hc1) (Sx.built (c := [.int .u8 r]) (by simp -dsimp (disch := first | omega | (simp only [go_sem, seval]; first | done | omega)) only [go_sem, seval]) (by simp [byteF, h2])) rfl (by simp; omega) (by omega) (by simp -dsimp (disch := first | omega | (simp only [go_sem, seval]; first | done | omega)) only [go_sem, seval]; omega) ?_
  intro v' w' ho' hc' _
  exact hK _ _ ⟨ho', (hc1.mono (by simp)).trans hc' (fun x hx => .inl hx)⟩
theorem encode_asc {w : World} {e : Option TypeId} {a : Option Addr} {l : List Int} (hs : Sx w e runeF a l) (cap : Nat) (hl : l.length ≤ 100000) (h : ∀ r ∈ l, asc r) : Calls Try.prog 99 #[.slice a l.length cap] w
    (retK fun v w' => v = .string (bstr (l.map ascB)) ∧ Chg [] w w') := by
  apply runes_Encode_link
  intro K hK
  unfold runes_Encode
  simp -dsimp (disch := first | omega | (simp only [go_sem, seval]; first | done | omega)) only [go_sem, seval]
  refine Loop2.st (fun s : Nat × Value => s.2) (fun s : Nat × Value => .int .i64 s.1) (fun s w' => s.1 ≤ l.length ∧ Ox w.heap.size w' 5 1 byteF s.2 ((l.take s.1).map ascB) ∧ Chg [] w w') (fun s => l.length - s.1) (0, .slice none 0 0) rfl rfl ⟨by simp, Ox.nil _ _ _ _ _, Chg.refl _ _⟩ ?_
  rintro next ⟨k, v⟩ w' hn ⟨hk, ho, hc⟩
  dsimp only at hk ho ⊢
  simp -dsimp (disch := first | omega | (simp only [go_sem, seval]; first | done | omega)) only [go_sem, seval]
  refine BrW.dec (fun h1 => ?_) (fun h1 => ?_)
  · have hk' : k < l.length := by omega
    obtain ⟨b, o, rfl, hb, hcell⟩ := (hs.chg0 hc).get1 (g := fun r => .int .i32 r) (fun _ => rfl) (List.getElem?_eq_getElem hk')
    have ha := h _ (List.getElem_mem hk')
    simp -dsimp (disch := first | omega | (simp only [go_sem, seval]; first | done | omega)) only [go_sem, seval, hcell]
    refine Join1.inl ?_
    refine OpX.call unicode_utf8_ValidRune_b rfl (Calls.ret (valid_asc _ _ ha) ?_)
    rintro v1 w1 ⟨rfl, rfl⟩
    simp -dsimp (disch := first | omega | (simp only [go_sem, seval]; first | done | omega)) only [go_sem, seval]
    refine OpX.call unicode_utf8_AppendRune_b rfl (Calls.ret (appendRune_asc ho hc.size (by simp; omega) _ ha) ?_)
    rintro v2 w2 ⟨ho2, hc2⟩
    simp -dsimp (disch := first | omega | (simp only [go_sem, seval]; first | done | omega)) only [go_sem, seval]
    refine hn (k + 1, v2) _ ⟨by dsimp only; omega, ?_, own_chg ho hc hc2⟩ (by dsimp only; omega)
    dsimp only
    rw [take_next hk', List.map_append]
    exact ho2
  · have hk' : k = l.length := by omega
    subst hk'
    rw [List.take_length] at ho
    obtain ⟨a', cap', rfl, -, hs', -⟩ := ho.form
    rw [bytes_str (by kernel_rfl) (by kernel_rfl) hs']
    exact hK _ _ ⟨rfl, hc⟩

/-- What a row shows. -/
def shown (l : List Cel) : List Int := l.filterMap fun c => if c.check then (if c.tail then none else some c.r) else some 63
def trimR : List Int → List Int
  | [] => []
  | r :: l => if r :: l = List.replicate (l.length + 1) 32 then [] else r :: trimR l
def trimE (l : List Int) : List Int := (l.reverse.dropWhile (· == 32)).reverse
theorem trimE_step (l : List Int) (h : l ≠ []) (hl : l.getLast h = 32) : trimE l = trimE l.dropLast := by
  have e : l = l.dropLast ++ [32] := by rw [← hl]; exact (List.dropLast_concat_getLast h).symm
  conv => lhs; rw [e]
  simp [trimE]
theorem trimE_done (l : List Int) (h : l ≠ []) (hl : l.getLast h ≠ 32) : trimE l = l := by
  have e : l = l.dropLast ++ [l.getLast h] := (List.dropLast_concat_getLast h).symm
  rw [e]
  simp [trimE, hl]
theorem text_asc {w : World} {e : Option TypeId} {a : Option Addr} {l : List Cel} (hs : SxC w e a l) (cap : Nat) (hl : l.length ≤ 100000) (h : ∀ r ∈ trimE (shown l), asc r) : Calls Try.prog 63 #[.slice a l.length cap] w
    (retK fun v w' => v = .string (bstr ((trimE (shown l)).map ascB)) ∧ Chg [] w w') := by
  apply cell_Text_link
  intro K hK
  unfold cell_Text
  simp -dsimp (disch := first | omega | (simp only [go_sem, seval]; first | done | omega)) only [go_sem, seval]
  refine Loop2.st (fun s : Nat × Value => s.2) (fun s : Nat × Value => .int .i64 s.1) (fun s w' => s.1 ≤ l.length ∧ Ox w.heap.size w' 21 1 runeF s.2 (shown (l.take s.1)) ∧ Chg [] w w') (fun s => l.length - s.1) (0, .slice none 0 0) rfl rfl ⟨by simp, Ox.nil _ _ _ _ _, Chg.refl _ _⟩ ?_
  rintro next ⟨k, v⟩ w' hn ⟨hk, ho, hc⟩
  dsimp only at hk ho ⊢
  simp -dsimp (disch := first | omega | (simp only [go_sem, seval]; first | done | omega)) only [go_sem, seval]
  refine BrW.dec (fun h1 => ?_) (fun h1 => ?_)
  · have hk' : k < l.length := by omega
    obtain ⟨b, o, rfl, hb, hcell, -⟩ := SxC.cel (hs.chg0 hc) (List.getElem?_eq_getElem hk')
    have hsh : shown (l.take (k + 1)) = shown (l.take k) ++ shown [l[k]] := by
      rw [take_next hk', shown, List.filterMap_append]; rfl
    have hlen : (shown (l.take k)).length ≤ 100000 := Nat.le_trans (List.length_filterMap_le _ _) (by simp; omega)
    simp -dsimp (disch := first | omega | (simp only [go_sem, seval]; first | done | omega)) only [go_sem, seval, hcell]
    have hc1 := hc.alloc (.cells l[k].cells.toArray 44)
    have hb1 : w'.heap.size < (w'.alloc (.cells l[k].cells.toArray 44)).heap.size := by simp -dsimp (disch := first | omega | (simp only [go_sem, seval]; first | done | omega)) only [go_sem, seval]; omega
    have hh1 : (w'.alloc (.cells l[k].cells.toArray 44)).heap[w'.heap.size]? = some (.cells l[k].cells.toArray 44) := by simp -dsimp (disch := first | omega | (simp only [go_sem, seval]; first | done | omega)) only [go_sem, seval]
    have ho1 := ho.chg0 ((Chg.refl [] w').alloc (.cells l[k].cells.toArray 44))
    refine OpX.call cell_Check_b rfl (Calls.ret (check_c _ l[k]) ?_)
    rintro v1 w1 ⟨rfl, hc2⟩
    have hh2 := hc2.keep hh1 (by simp)
    have hc3 := hc1.trans0 hc2
    have ho2 := ho1.chg0 hc2
    simp -dsimp (disch := first | omega | (simp only [go_sem, seval]; first | done | omega)) only [go_sem, seval]
    refine BrW.by (fun h2 => ?_) (fun h2 => ?_)
    · have hc4 := (Chg.refl [] w1).alloc (.cells #[.int .i32 63] 21)
      obtain ⟨a', cap', rfl, -⟩ := ho2.form
      simp -dsimp (disch := first | omega | (simp only [go_sem, seval]; first | done | omega)) only [go_sem, seval]
      refine app_x (l2 := [(63 : Int)]) (e' := some 21) ty129ap runeF_len runeF_ok (ho2.chg0 hc4) (Sx.built (c := [.int .i32 63]) (by simp -dsimp (disch := first | omega | (simp only [go_sem, seval]; first | done | omega)) only [go_sem, seval]) rfl) rfl (by simp; omega) (by omega) (by have := hc3.size; simp -dsimp (disch := first | omega | (simp only [go_sem, seval]; first | done | omega)) only [go_sem, seval]; omega) ?_
      intro v' w2 ho3 hc5 _
      simp -dsimp (disch := first | omega | (simp only [go_sem, seval]; first | done | omega)) only [go_sem, seval]
      refine hn (k + 1, v') _ ⟨by dsimp only; omega, ?_, own_chg (ho2.chg0 hc4) (hc3.trans0 hc4) hc5⟩ (by dsimp only; omega)
      dsimp only
      rw [hsh]
      have : shown [l[k]] = [63] := by simp at h2; simp [shown, h2]
      rw [this]; exact ho3
    · simp -dsimp (disch := first | omega | (simp only [go_sem, seval]; first | done | omega)) only [go_sem, seval, hh2]
      refine BrW.dec (fun h3 => ?_) (fun h3 => ?_)
      · have hc4 := (Chg.refl [] w1).alloc (.cells #[.int .i32 l[k].r] 21)
        obtain ⟨a', cap', rfl, -⟩ := ho2.form
        simp -dsimp (disch := first | omega | (simp only [go_sem, seval]; first | done | omega)) only [go_sem, seval, hh2]
        refine app_x (l2 := [l[k].r]) (e' := some 21) ty129ap runeF_len runeF_ok (ho2.chg0 hc4) (Sx.built (c := [.int .i32 l[k].r]) (by simp -dsimp (disch := first | omega | (simp only [go_sem, seval]; first | done | omega)) only [go_sem, seval]) rfl) rfl (by simp; omega) (by omega) (by have := hc3.size; simp -dsimp (disch := first | omega | (simp only [go_sem, seval]; first | done | omega)) only [go_sem, seval]; omega) ?_
        intro v' w2 ho3 hc5 _
        simp -dsimp (disch := first | omega | (simp only [go_sem, seval]; first | done | omega)) only [go_sem, seval]
        refine hn (k + 1, v') _ ⟨by dsimp only; omega, ?_, own_chg (ho2.chg0 hc4) (hc3.trans0 hc4) hc5⟩ (by dsimp only; omega)
        dsimp only
        rw [hsh]
        have : shown [l[k]] = [l[k].r] := by simp at h2; simp [shown, h2, Cel.tail, h3]
        rw [this]; exact ho3
      · simp -dsimp (disch := first | omega | (simp only [go_sem, seval]; first | done | omega)) only [go_sem, seval]
        refine hn (k + 1, v) _ ⟨by dsimp only; omega, ?_, hc3⟩ (by dsimp only; omega)
        dsimp only
        rw [hsh]
        have : shown [l[k]] = [] := by simp at h2; simp [shown, h2, Cel.tail, h3]
        rw [this, List.append_nil]; exact ho2
  · have hk' : k = l.length := by omega
    subst hk'
    rw [List.take_length] at ho
    obtain ⟨a', cap', hv, hcp, hs', -⟩ := ho.form
    have hlen : (shown l).length ≤ 100000 := Nat.le_trans (List.length_filterMap_le _ _) hl
    refine Loop1.st (fun s : List Int => .slice a' s.length cap') (fun s w2 => Sx w2 (some 21) runeF a' s ∧ trimE s = trimE (shown l) ∧ s.length ≤ (shown l).length ∧ Chg [] w w2) (fun s => s.length) (shown l) hv ⟨hs', rfl, Nat.le_refl _, hc⟩ ?_
    rintro next2 s w2 hn2 ⟨hs2, he, hsl, hc2⟩
    refine Join1.inl ?_
    simp -dsimp (disch := first | omega | (simp only [go_sem, seval]; first | done | omega)) only [go_sem, seval]
    refine BrW.dec (fun h2 => ?_) (fun h2 => ?_)
    · have hne : s ≠ [] := by rintro rfl; simp at h2
      have hlast : s[s.length - 1]? = some (s.getLast hne) := by rw [List.getLast_eq_getElem]; exact List.getElem?_eq_getElem _
      obtain ⟨b, o, rfl, hb, hcell⟩ := hs2.get1 (g := fun r => .int .i32 r) (fun _ => rfl) hlast
      have hi : ((s.length : Int) - 1).toNat = s.length - 1 := by omega
      simp -dsimp (disch := first | omega | (simp only [go_sem, seval]; first | done | omega)) only [go_sem, seval, hi, hcell]
      refine BrW.dec (fun h3 => ?_) (fun h3 => ?_)
      · simp -dsimp (disch := first | omega | (simp only [go_sem, seval]; first | done | omega)) only [go_sem, seval, hi]
        have hd : s.dropLast.length = s.length - 1 := by simp
        rw [← hd]
        refine hn2 s.dropLast _ ⟨?_, by rw [← he]; exact (trimE_step s hne h3).symm, by omega, hc2⟩ (by omega)
        have := hs2.sub runeF_len 0 (s.length - 1) (some ⟨b, o, none⟩) (.inr (.inr (by simp)))
        rw [List.dropLast_eq_take]
        simpa using this
      · rw [← he, trimE_done s hne h3] at h
        try simp -dsimp (disch := first | omega | (simp only [go_sem, seval]; first | done | omega)) only [go_sem, seval]
        refine OpX.call runes_Encode_b rfl (Calls.ret (encode_asc hs2 cap' (by omega) h) ?_)
        rintro v1 w3 ⟨rfl, hc3⟩
        refine hK _ _ ⟨?_, hc2.trans0 hc3⟩
        rw [← he, trimE_done s hne h3]
    · have hs0 : s = [] := List.eq_nil_of_length_eq_zero (by omega)
      subst hs0
      simp -dsimp (disch := first | omega | (simp only [go_sem, seval]; first | done | omega)) only [go_sem, seval]
      refine OpX.call runes_Encode_b rfl (Calls.ret (encode_asc hs2 cap' (by omega) (by simp)) ?_)
      rintro v1 w3 ⟨rfl, hc3⟩
      refine hK _ _ ⟨?_, hc2.trans0 hc3⟩
      rw [← he]; rfl
end Go.Proofs.Ytdjdeahmhenchaa
