/- The given statement SessionTurns: the law returns true for every input, its arguments read as they did. It is proved with no condition but the row's own. -/
import Derived.Test.YtelplojmbjnplaaGreatDoorB4
set_option linter.unusedSimpArgs false
set_option linter.unusedVariables false
namespace Go.Proofs.YtelplojmbjnplaaGreatDoor
open Lyc Go Go.Joins Go.ChangeShapes Go.WideShapes Go.ChangeAt Go.RowKit Go.Deep
set_option maxRecDepth 100000
theorem Tl (os:Os) (started:os.Started) (H:Type) (enc:TypeId × Value→H) :
  ReturnsInHanded {} Tryz.checked os 3 .any (fun w args=>(Rows.sessionTurnsSpec.pre enc Tryz.prog Tryz.f3 Rows.sessionTurnsRow.domain false w args∧laidMetH Tryz.prog Rows.sessionTurnsRow.laid w)∧sizedMet enc Tryz.prog Tryz.f3 (OpenSpec.ofChange Rows.sessionTurnsSpec) false w args) (Rows.sessionTurnsSpec.post enc Tryz.prog Tryz.f3 false true false false) :=
 VO (C:=Tryz.checked) (X:=fun w=>laidMetH Tryz.prog Rows.sessionTurnsRow.laid w) (fun _ _ hh h=>h.of_heap hh) own started (by kernel_rfl) Tryz.func3
  (ChangeSpec.witness_at (enc:=enc) (C:=Tryz.checked) (os:=os) (X:=fun w _=>laidMetH Tryz.prog Rows.sessionTurnsRow.laid w) false (KS os) #[.agg #[.int .i64 0,.int .i64 0],.int .i64 0,.bool false] 8 rfl (by kernel_rfl) (by kernel_rfl) (by kernel_rfl) (by kernel_rfl) (by kernel_rfl) (Q2 os _))
  Wp rfl Tryz.underlying4 (by kernel_rfl) rfl
  (fun ds h=>by
   match ds,h with
   | [d1,d2,d3],_=>rfl)
  (fun W base args ds p hval hA hL=>by
   rw[Tryz.params3] at hA hval
   obtain⟨v0,v1,v2,d0,d1,d2,p0,p1,p2,rfl,rfl,rfl,h0,h1,h2⟩:=trodAll_three hA
   obtain⟨x,y,rfl⟩:=UN (hval 0 23 v0 rfl rfl) h0
   obtain⟨m,rfl,rfl,rfl,wm⟩:=open_int Tryz.underlying3 (hval 1 3 v1 rfl rfl) h1
   obtain⟨b,rfl,rfl,rfl⟩:=open_bool Tryz.underlying4 (hval 2 4 v2 rfl rfl) h2
   exact OI W x y m b)
theorem Pj:Rows.SessionTurnsSaid :=
 OpenClaim.holds_of_wide 3 Tryz.f3 rfl rfl rfl rfl rfl rfl rfl ⟨rfl,rfl,rfl,rfl,rfl⟩ rfl rfl rfl rfl rfl (by kernel_rfl) Tryz.func3 (by kernel_rfl)
  (of_decide_eq_true (by kernel_rfl)) (by unfold Func.isWrapper;first|(rw[if_pos (by decide +kernel)];kernel_rfl)|(rw[if_neg (by decide +kernel)];exact⟨rfl,rfl⟩))
  (fun os started H enc _=>Tl os started H enc)
theorem sessionTurns_card:Rows.SessionTurnsCardSaid :=
 Claim7.holds_tied_plain_at .later [] [.handle] true (true, "49d5646f4cdfbe10e1504451e6d7adcede6fe5ad945e13145948fbde3ce20fd9") true
  Pj (fun _ h=>by cases h) (by kernel_rfl) (fun _ h=>by cases h) sessionTurns_row_tie rfl ⟨rfl,rfl⟩ (by kernel_rfl) rfl
  (fun f fn hf hfn=>by
   obtain rfl:f=3:=Option.some.inj ((show Tryz.prog.funcNamed "lyceum/lyceumlaw14.SessionTurns"=some 3 by kernel_rfl).symm.trans hf) |>.symm
   obtain rfl:fn=Tryz.f3:=(Option.some.inj (Tryz.func3.symm.trans hfn)).symm
   exact⟨by kernel_rfl,fun j t ht=>by
    have h:=List.all_eq_true.1 (show(Tryz.f3.params.toList.all fun t=>!Tryz.prog.wantsStandIn t)=true by kernel_rfl) t (Array.mem_toList_iff.2 (Array.mem_of_getElem? ht))
    exact show Tryz.prog.wantsStandIn t=false by simpa using h⟩)
  (by kernel_rfl)
end Go.Proofs.YtelplojmbjnplaaGreatDoor
