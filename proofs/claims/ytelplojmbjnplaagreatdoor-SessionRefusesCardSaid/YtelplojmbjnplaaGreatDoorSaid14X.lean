/- The given statement SessionRefuses: the law returns true for every input, its arguments read as they did. It is proved with no condition but the row's own. -/
import Derived.Test.YtelplojmbjnplaaGreatDoorB4
import Derived.Test.YtelplojmbjnplaaGreatDoorB5
set_option linter.unusedSimpArgs false
set_option linter.unusedVariables false
namespace Go.Proofs.YtelplojmbjnplaaGreatDoor
open Lyc Go Go.Joins Go.ChangeShapes Go.WideShapes Go.ChangeAt Go.RowKit Go.Deep
set_option maxRecDepth 100000
theorem Qb {H:Type} {enc:TypeId × Value→H} {w:World} {base b0:Nat} {spare:Nat→Bool} {held:Bool} {v:Value} {d:DataW H} {p:List MemPlace} (hv:Value.okWide Tryz.prog w .any b0 33 v) (h:DataW.Trod enc Tryz.prog w base spare held 33 v d p):∃e:Ev,v=e.val:=by
 obtain⟨fuel,h⟩:=h
 simp only[Value.okWide,Tryz.underlying33] at hv
 obtain⟨cs,rfl,hsz,-⟩:=hv
 obtain⟨e,he,-⟩:=N8 _ _ _ h
 refine⟨e,?_⟩
 obtain⟨l⟩:=cs
 simp only[Value.cells] at he
 rw[show l=evF e from he]
 rfl
theorem YE (os:Os) (started:os.Started) (H:Type) (enc:TypeId × Value→H) :
  ReturnsInHanded {} Tryz.checked os 4 .any (fun w args=>(Rows.sessionRefusesSpec.pre enc Tryz.prog Tryz.f4 Rows.sessionRefusesRow.domain false w args∧laidMetH Tryz.prog Rows.sessionRefusesRow.laid w)∧sizedMet enc Tryz.prog Tryz.f4 (OpenSpec.ofChange Rows.sessionRefusesSpec) false w args) (Rows.sessionRefusesSpec.post enc Tryz.prog Tryz.f4 false true false false) :=
 VY (C:=Tryz.checked) (X:=fun w=>laidMetH Tryz.prog Rows.sessionRefusesRow.laid w) (fun _ _ hh h=>h.of_heap hh) own started (by kernel_rfl) Tryz.func4
  (ChangeSpec.witness_at (enc:=enc) (C:=Tryz.checked) (os:=os) (X:=fun w _=>laidMetH Tryz.prog Rows.sessionRefusesRow.laid w) false (J8 os) #[.agg #[.int .i64 0,.int .i64 0],.slice none 0 0,.agg #[.int .i64 0,.int .i64 0,.int .i64 0,.string (Ap []),.int .i64 0,.int .i64 0]] 8 rfl (by kernel_rfl) (by kernel_rfl) (by kernel_rfl) (by kernel_rfl) (by kernel_rfl) (SQ os _))
  Q6 rfl Tryz.underlying4 (by kernel_rfl) rfl
  (fun ds h=>by
   match ds,h with
   | [d1,d2,d3],_=>rfl)
  (fun W base args ds p hval hA hL=>by
   rw[Tryz.params4] at hA hval
   obtain⟨v0,v1,v2,d0,d1,d2,p0,p1,p2,rfl,rfl,rfl,h0,h1,h2⟩:=trodAll_three hA
   obtain⟨x,y,rfl⟩:=WQ (hval 0 23 v0 rfl rfl) h0
   obtain⟨a,l,cap,rfl,hs,hl⟩:=TL (hval 1 43 v1 rfl rfl) h1
   obtain⟨e,rfl⟩:=Qb (hval 2 33 v2 rfl rfl) h2
   exact PQ hs cap hl x y e (XJ hL))
theorem P9:Rows.SessionRefusesSaid :=
 OpenClaim.holds_of_wide 4 Tryz.f4 rfl rfl rfl rfl rfl rfl rfl ⟨rfl,rfl,rfl,rfl,rfl⟩ rfl rfl rfl rfl rfl (by kernel_rfl) Tryz.func4 (by kernel_rfl)
  (of_decide_eq_true (by kernel_rfl)) (by unfold Func.isWrapper;first|(rw[if_pos (by decide +kernel)];kernel_rfl)|(rw[if_neg (by decide +kernel)];exact⟨rfl,rfl⟩))
  (fun os started H enc _=>YE os started H enc)
theorem sessionRefuses_card:Rows.SessionRefusesCardSaid :=
 Claim7.holds_tied_plain_at .later [] [.handle] true (true, "49d5646f4cdfbe10e1504451e6d7adcede6fe5ad945e13145948fbde3ce20fd9") true
  P9 (fun _ h=>by cases h) (by kernel_rfl) (fun _ h=>by cases h) sessionRefuses_row_tie rfl ⟨rfl,rfl⟩ (by kernel_rfl) rfl
  (fun f fn hf hfn=>by
   obtain rfl:f=4:=Option.some.inj ((show Tryz.prog.funcNamed "lyceum/lyceumlaw14.SessionRefuses"=some 4 by kernel_rfl).symm.trans hf) |>.symm
   obtain rfl:fn=Tryz.f4:=(Option.some.inj (Tryz.func4.symm.trans hfn)).symm
   exact⟨by kernel_rfl,fun j t ht=>by
    have h:=List.all_eq_true.1 (show(Tryz.f4.params.toList.all fun t=>!Tryz.prog.wantsStandIn t)=true by kernel_rfl) t (Array.mem_toList_iff.2 (Array.mem_of_getElem? ht))
    exact show Tryz.prog.wantsStandIn t=false by simpa using h⟩)
  (by kernel_rfl)
end Go.Proofs.YtelplojmbjnplaaGreatDoor
