/- The given statement ComposeHands: the law returns true for every input, its arguments read as they did. It is proved with no condition but the row's own. -/
import Derived.Test.YtelplojmbjnplaaGreatB5
set_option linter.unusedSimpArgs false
set_option linter.unusedVariables false
namespace Go.Proofs.YtelplojmbjnplaaGreat
open Lyc Go Go.Joins Go.ChangeShapes Go.WideShapes Go.ChangeAt Go.RowKit Go.Deep
set_option maxRecDepth 100000
theorem W3 {H:Type} {enc:TypeId × Value→H} {w:World} {base b0:Nat} {spare:Nat→Bool} {held:Bool} {v:Value} {d:DataW H} {p:List MemPlace} (hv:Value.okWide Tryz.prog w .any b0 71 v) (h:DataW.Trod enc Tryz.prog w base spare held 71 v d p):∃a b:Int,v=.agg #[.int .i64 a,.int .i64 b]∧b≤9223372036854775807:=by
 obtain⟨fuel,h⟩:=h
 simp only[Value.okWide,Tryz.underlying71] at hv
 obtain⟨cs,rfl,hsz,-⟩:=hv
 obtain⟨l,hl,hn,hb⟩:=XP (fun n:Int=>Value.int .i64 n) (fun n=>IntKind.min .i64≤n∧n≤IntKind.max .i64) Tryz.underlying71 (by kernel_rfl) (by kernel_rfl) (fun n cs y h=>let ⟨k,h1,h2,h3⟩:=EG Tryz.underlying3 h;⟨k,h1,h2,h3⟩) h
 match l,hn with
 | [a,b],_ =>
  refine⟨a,b,?_,(hb b (by simp)).2⟩
  obtain⟨l⟩:=cs
  simp only[Value.cells] at hl
  rw[show l=_ from hl]
  rfl
theorem Vp (os:Os) (started:os.Started) (H:Type) (enc:TypeId × Value→H) :
  ReturnsInHanded {} Tryz.checked os 5 .any (Rows.composeHandsSpec.pre6 enc Tryz.prog Tryz.f5 Rows.composeHandsRow.domain false) (Rows.composeHandsSpec.post enc Tryz.prog Tryz.f5 false true false false) :=
 bu (C:=Tryz.checked) own started (by kernel_rfl) Tryz.func5
  (ChangeSpec.witness6 (enc:=enc) (C:=Tryz.checked) false ⟨#[],#[.agg #[.int .i64 0,.int .i64 0],.slice none 0 0,.agg #[.int .i64 0,.int .i64 0]],[]⟩ 8 (by kernel_rfl) (by kernel_rfl) (by kernel_rfl) (by kernel_rfl))
  SM rfl Tryz.underlying4 (by kernel_rfl) rfl
  (fun ds h=>by
   match ds,h with
   | [d1,d2,d3],_=>rfl)
  (fun W base args ds p hval hA=>by
   rw[Tryz.params5] at hA hval
   obtain⟨v0,v1,v2,d0,d1,d2,p0,p1,p2,rfl,rfl,rfl,h0,h1,h2⟩:=trodAll_three hA
   obtain⟨x,y,rfl⟩:=Xt (hval 0 23 v0 rfl rfl) h0
   obtain⟨a,l,cap,rfl,hs,hl⟩:=RO (hval 1 24 v1 rfl rfl) h1
   obtain⟨q0,q1,rfl,hq⟩:=W3 (hval 2 71 v2 rfl rfl) h2
   exact aU hs cap hl x y q0 q1 hq)
theorem composeHands_holds:Rows.ComposeHandsSaid :=
 OpenClaim.holds_of_wide 5 Tryz.f5 rfl rfl rfl rfl rfl rfl rfl ⟨rfl,rfl,rfl,rfl,rfl⟩ rfl rfl rfl rfl rfl (by kernel_rfl) Tryz.func5 (by kernel_rfl)
  (of_decide_eq_true (by kernel_rfl)) (by unfold Func.isWrapper;first|(rw[if_pos (by decide +kernel)];kernel_rfl)|(rw[if_neg (by decide +kernel)];exact⟨rfl,rfl⟩))
  (fun os started H enc _=>Vp os started H enc)
end Go.Proofs.YtelplojmbjnplaaGreat
