/- The given statement SessionWindows: the law returns true for every input, its arguments read as they did. It is proved with no condition but the row's own. -/
import Derived.Test.YtelplojmbjnplaaGreatDoorB4
import Derived.Test.YtelplojmbjnplaaGreatDoorB5
set_option linter.unusedSimpArgs false
set_option linter.unusedVariables false
namespace Go.Proofs.YtelplojmbjnplaaGreatDoor
open Lyc Go Go.Joins Go.ChangeShapes Go.WideShapes Go.ChangeAt Go.RowKit Go.Deep
set_option maxRecDepth 100000
theorem WY (os:Os) (started:os.Started) (H:Type) (enc:TypeId × Value→H) :
  ReturnsInHanded {} Tryz.checked os 7 .any (fun w args=>(Rows.sessionWindowsSpec.pre enc Tryz.prog Tryz.f7 Rows.sessionWindowsRow.domain false w args∧laidMetH Tryz.prog Rows.sessionWindowsRow.laid w)∧sizedMet enc Tryz.prog Tryz.f7 (OpenSpec.ofChange Rows.sessionWindowsSpec) false w args) (Rows.sessionWindowsSpec.post enc Tryz.prog Tryz.f7 false true false false) :=
 Y2 (C:=Tryz.checked) (X:=fun w=>laidMetH Tryz.prog Rows.sessionWindowsRow.laid w) (fun _ _ hh h=>h.of_heap hh) own started (by kernel_rfl) Tryz.func7
  (ChangeSpec.witness_at (enc:=enc) (C:=Tryz.checked) (os:=os) (X:=fun w _=>laidMetH Tryz.prog Rows.sessionWindowsRow.laid w) false (Oy os) #[.agg #[.int .i64 0,.int .i64 0],.int .u64 0] 8 rfl (by kernel_rfl) (by kernel_rfl) (by kernel_rfl) (by kernel_rfl) (by kernel_rfl) (S8 os _))
  Ya rfl Tryz.underlying4 (by kernel_rfl) rfl
  (fun ds h=>by
   match ds,h with
   | [d1,d2],_=>rfl)
  (fun W base args ds p hval hA hL=>by
   rw[Tryz.params7] at hA hval
   obtain⟨v0,v1,d0,d1,p0,p1,rfl,rfl,rfl,h0,h1⟩:=trodAll_two hA
   obtain⟨x,y,rfl⟩:=SP (hval 0 23 v0 rfl rfl) h0
   obtain⟨m,rfl,rfl,rfl,wm⟩:=open_int Tryz.underlying69 (hval 1 69 v1 rfl rfl) h1
   exact PU W x y m (WW hL))
theorem Zw:Rows.SessionWindowsSaid :=
 OpenClaim.holds_of_wide 7 Tryz.f7 rfl rfl rfl rfl rfl rfl rfl ⟨rfl,rfl,rfl,rfl,rfl⟩ rfl rfl rfl rfl rfl (by kernel_rfl) Tryz.func7 (by kernel_rfl)
  (of_decide_eq_true (by kernel_rfl)) (by unfold Func.isWrapper;first|(rw[if_pos (by decide +kernel)];kernel_rfl)|(rw[if_neg (by decide +kernel)];exact⟨rfl,rfl⟩))
  (fun os started H enc _=>WY os started H enc)
theorem sessionWindows_card:Rows.SessionWindowsCardSaid :=
 Claim7.holds_tied_plain_at .later [] [.handle] true (true, "49d5646f4cdfbe10e1504451e6d7adcede6fe5ad945e13145948fbde3ce20fd9") true
  Zw (fun _ h=>by cases h) (by kernel_rfl) (fun _ h=>by cases h) sessionWindows_row_tie rfl ⟨rfl,rfl⟩ (by kernel_rfl) rfl
  (fun f fn hf hfn=>by
   obtain rfl:f=7:=Option.some.inj ((show Tryz.prog.funcNamed "lyceum/lyceumlaw14.SessionWindows"=some 7 by kernel_rfl).symm.trans hf) |>.symm
   obtain rfl:fn=Tryz.f7:=(Option.some.inj (Tryz.func7.symm.trans hfn)).symm
   exact⟨by kernel_rfl,fun j t ht=>by
    have h:=List.all_eq_true.1 (show(Tryz.f7.params.toList.all fun t=>!Tryz.prog.wantsStandIn t)=true by kernel_rfl) t (Array.mem_toList_iff.2 (Array.mem_of_getElem? ht))
    exact show Tryz.prog.wantsStandIn t=false by simpa using h⟩)
  (by kernel_rfl)
end Go.Proofs.YtelplojmbjnplaaGreatDoor
