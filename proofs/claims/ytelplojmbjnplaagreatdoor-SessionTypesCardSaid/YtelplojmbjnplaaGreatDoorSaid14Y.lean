/- The given statement SessionTypes: the law returns true for every input, its arguments read as they did. It is proved with no condition but the row's own. -/
import Derived.Test.YtelplojmbjnplaaGreatDoorB4
import Derived.Test.YtelplojmbjnplaaGreatDoorB5
set_option linter.unusedSimpArgs false
set_option linter.unusedVariables false
namespace Go.Proofs.YtelplojmbjnplaaGreatDoor
open Lyc Go Go.Joins Go.ChangeShapes Go.WideShapes Go.ChangeAt Go.RowKit Go.Deep
set_option maxRecDepth 100000
theorem Jy {H:Type} {enc:TypeId × Value→H} {w:World} {base b0:Nat} {spare:Nat→Bool} {held:Bool} {v:Value} {d:DataW H} {p:List MemPlace} (hv:Value.okWide Tryz.prog w .any b0 9 v) (h:DataW.Trod enc Tryz.prog w base spare held 9 v d p):∃l:List UInt8,v=.string (Ap l)∧l.length≤maxLen:=by
 obtain⟨s,rfl⟩:=okWide_string Tryz.underlying9 hv
 obtain⟨fuel,h⟩:=h
 obtain⟨s',e,-,hs⟩:=DataW.trod_string Tryz.underlying9 h
 have e:s=s':=by simpa [Value.cells] using e
 subst e
 refine⟨s.toList,by rw[IU],?_⟩
 have:(Ap s.toList).size=s.size:=by rw[IU]
 rw[Oj] at this
 omega
theorem QK (os:Os) (started:os.Started) (H:Type) (enc:TypeId × Value→H) :
  ReturnsInHanded {} Tryz.checked os 5 .any (fun w args=>(Rows.sessionTypesSpec.pre enc Tryz.prog Tryz.f5 Rows.sessionTypesRow.domain false w args∧laidMetH Tryz.prog Rows.sessionTypesRow.laid w)∧sizedMet enc Tryz.prog Tryz.f5 (OpenSpec.ofChange Rows.sessionTypesSpec) false w args) (Rows.sessionTypesSpec.post enc Tryz.prog Tryz.f5 false true false false) :=
 Uk (C:=Tryz.checked) (X:=fun w=>laidMetH Tryz.prog Rows.sessionTypesRow.laid w) (fun _ _ hh h=>h.of_heap hh) own started (by kernel_rfl) Tryz.func5
  (ChangeSpec.witness_at (enc:=enc) (C:=Tryz.checked) (os:=os) (X:=fun w _=>laidMetH Tryz.prog Rows.sessionTypesRow.laid w) false (MD os) #[.agg #[.int .i64 0,.int .i64 0],.string (Ap []),.string (Ap [])] 8 rfl (by kernel_rfl) (by kernel_rfl) (by kernel_rfl) (by kernel_rfl) (by kernel_rfl) (Tj os _))
  Xw rfl Tryz.underlying4 (by kernel_rfl) rfl
  (fun ds h=>by
   match ds,h with
   | [d1,d2,d3],_=>rfl)
  (fun W base args ds p hval hA hL=>by
   rw[Tryz.params5] at hA hval
   obtain⟨v0,v1,v2,d0,d1,d2,p0,p1,p2,rfl,rfl,rfl,h0,h1,h2⟩:=trodAll_three hA
   obtain⟨x,y,rfl⟩:=Qo (hval 0 23 v0 rfl rfl) h0
   obtain⟨a,rfl,ha⟩:=Jy (hval 1 9 v1 rfl rfl) h1
   obtain⟨b,rfl,hb⟩:=Jy (hval 2 9 v2 rfl rfl) h2
   exact S3 W x y a b ha hb (W8 hL))
theorem TM:Rows.SessionTypesSaid :=
 OpenClaim.holds_of_wide 5 Tryz.f5 rfl rfl rfl rfl rfl rfl rfl ⟨rfl,rfl,rfl,rfl,rfl⟩ rfl rfl rfl rfl rfl (by kernel_rfl) Tryz.func5 (by kernel_rfl)
  (of_decide_eq_true (by kernel_rfl)) (by unfold Func.isWrapper;first|(rw[if_pos (by decide +kernel)];kernel_rfl)|(rw[if_neg (by decide +kernel)];exact⟨rfl,rfl⟩))
  (fun os started H enc _=>QK os started H enc)
theorem sessionTypes_card:Rows.SessionTypesCardSaid :=
 Claim7.holds_tied_plain_at .later [] [.handle] true (true, "49d5646f4cdfbe10e1504451e6d7adcede6fe5ad945e13145948fbde3ce20fd9") true
  TM (fun _ h=>by cases h) (by kernel_rfl) (fun _ h=>by cases h) sessionTypes_row_tie rfl ⟨rfl,rfl⟩ (by kernel_rfl) rfl
  (fun f fn hf hfn=>by
   obtain rfl:f=5:=Option.some.inj ((show Tryz.prog.funcNamed "lyceum/lyceumlaw14.SessionTypes"=some 5 by kernel_rfl).symm.trans hf) |>.symm
   obtain rfl:fn=Tryz.f5:=(Option.some.inj (Tryz.func5.symm.trans hfn)).symm
   exact⟨by kernel_rfl,fun j t ht=>by
    have h:=List.all_eq_true.1 (show(Tryz.f5.params.toList.all fun t=>!Tryz.prog.wantsStandIn t)=true by kernel_rfl) t (Array.mem_toList_iff.2 (Array.mem_of_getElem? ht))
    exact show Tryz.prog.wantsStandIn t=false by simpa using h⟩)
  (by kernel_rfl)
end Go.Proofs.YtelplojmbjnplaaGreatDoor
