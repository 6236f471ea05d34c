/- Bytes and texts: a row of bytes becomes a text. It names no program. -/
import Derived.Test.YtdjdeahmhenchaaLycOps8
import Derived.Laws.BytesString
set_option linter.unusedSimpArgs false
set_option linter.unusedVariables false
namespace Lyc
open Go
section
variable {P : Program}

/-- Bytes, as a text. -/
def bstr (l : List UInt8) : ByteArray := ⟨l.toArray⟩
def byteF (b : UInt8) : List Value := [.int .u8 b.toNat]
theorem byteF_len (b : UInt8) : (byteF b).length = 1 := rfl
theorem byteF_ok (b : UInt8) : okCells (byteF b) = true := rfl
theorem byteF_flat (l : List UInt8) : l.flatMap byteF = l.map fun b => .int .u8 b.toNat := by
  induction l with
  | nil => rfl
  | cons b l ih => simp [byteF, ih]
@[go_sem] theorem bstr_size (l : List UInt8) : (bstr l).size = l.length := by simp [bstr, ByteArray.size]
@[go_sem] theorem bstr_toList (l : List UInt8) : (bstr l).toList = l := by rw [ByteArray.toList_eq]; rfl
theorem bstr_of (s : ByteArray) : bstr s.toList = s := by
  rw [ByteArray.toList_eq]; rfl
@[go_sem] theorem bstr_append (a b : List UInt8) : bstr a ++ bstr b = bstr (a ++ b) := by
  apply ByteArray.ext
  simp [bstr]
theorem foldl_bytes (l : List UInt8) : ∀ (acc : List UInt8), ((l.map fun b : UInt8 => (b.toNat : Int)).foldl (fun (r : ByteArray) n => r.push (UInt8.ofNat n.toNat)) (bstr acc)) = bstr (acc ++ l) := by
  induction l with
  | nil => intro acc; simp
  | cons b l ih =>
    intro acc
    simp only [List.map_cons, List.foldl_cons]
    have : (bstr acc).push (UInt8.ofNat ((b.toNat : Int)).toNat) = bstr (acc ++ [b]) := by
      apply ByteArray.ext
      simp [bstr]
    rw [this, ih]; simp

/-- A slice of bytes. -/
def tbytesSl (P : Program) (t : TypeId) : Bool := match P.underlying t with | some (.slice e) => (match P.underlying e with | some (.int .u8) => true | _ => false) | _ => false
theorem tbytesSl_spec {t : TypeId} (h : tbytesSl P t = true) : ∃ e, P.underlying t = some (.slice e) ∧ P.underlying e = some (.int .u8) := by
  unfold tbytesSl at h
  split at h
  · rename_i e hu
    split at h
    · rename_i hk; exact ⟨e, hu, hk⟩
    · simp at h
  · simp at h
theorem bytes_str {s d ty : TypeId} {a : Option Addr} {l : List UInt8} {c : Nat} {e : Option TypeId} {K : Value → World → Prop} {w : World} (hs : tbytesSl P s = true) (hd : tkind P d = some 3) (h : Sx w e byteF a l) :
    OpX P (.convert s d (.const (.slice a l.length c))) ty K w = K (.string (bstr l)) w := by
  obtain ⟨e0, h1, h2⟩ := tbytesSl_spec hs
  refine OpX_ok fun ρ hg => ?_
  simp only [execOp, mkOper, hg.1, Sem.run_bind]
  rw [run_convert_bytes_string w s d e0 a l.length c h1 h2 (tkind_3 hd)]
  have key : (Conv.bytesToString (.slice a l.length c)).run P w = .ok (.string (bstr l)) w := by
    cases a with
    | none =>
      have hl : l = [] := by
        cases l with
        | nil => rfl
        | cons x l => obtain ⟨b, o, _, _, _, _, _, h, _⟩ := h.at_ (by simp); simp at h
      subst hl
      simp [Conv.bytesToString]
      rfl
    | some ad =>
      have hl : (loadCells ad l.length).run P w = .ok ((l.map fun b : UInt8 => (b.toNat : Int)).map (Value.int .u8)).toArray w := by
        by_cases hn : l = []
        · subst hn; simp [loadCells, loadCellsFrom]
        · obtain ⟨b, o, c', e', fr, pre, post, h3, h4, h5, h6, h7⟩ := h.at_ hn
          cases h3
          have := run_loadCells_list (P := P) w ⟨b, o, none⟩ (l.flatMap byteF) (fun j v hj => by
            rw [add_mk, cell?_at, h4, h6, cellAt_cells]
            have hj' := (List.getElem?_eq_some_iff.1 hj).1
            rw [List.getElem?_toArray, List.append_assoc, List.getElem?_append_right (by omega), List.getElem?_append_left (by omega)]
            rw [← hj]; congr 1; omega)
          rw [byteF_flat] at this
          simpa [Function.comp_def] using this
      rw [run_bytesToString w ad l.length c _ hl]
      have := foldl_bytes l []
      rw [show (ByteArray.empty) = bstr [] from rfl, this]
      simp
  rw [key]
  rfl
end
end Lyc
