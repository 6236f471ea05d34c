/- The given statement ComposeRight: the law returns true for every input, its arguments read as they did. It is proved with no condition but the row's own. -/
import Derived.Test.YtelplojmbjnplaaGreatB5
set_option linter.unusedSimpArgs false
set_option linter.unusedVariables false
namespace Go.Proofs.YtelplojmbjnplaaGreat
open Lyc Go Go.Joins Go.ChangeShapes Go.WideShapes Go.ChangeAt Go.RowKit Go.Deep
set_option maxRecDepth 100000
theorem Wt (os:Os) (started:os.Started) (H:Type) (enc:TypeId × Value→H) :
  ReturnsInHanded {} Tryz.checked os 3 .any (Rows.composeRightSpec.pre6 enc Tryz.prog Tryz.f3 Rows.composeRightRow.domain false) (Rows.composeRightSpec.post enc Tryz.prog Tryz.f3 false true false false) :=
 aX (C:=Tryz.checked) own started (by kernel_rfl) Tryz.func3
  (ChangeSpec.witness6 (enc:=enc) (C:=Tryz.checked) false ⟨#[],#[.agg #[.int .i64 0,.int .i64 0],.slice none 0 0,.int .i64 0],[]⟩ 8 (by kernel_rfl) (by kernel_rfl) (by kernel_rfl) (by kernel_rfl))
  ay rfl Tryz.underlying4 (by kernel_rfl) rfl
  (fun ds h=>by
   match ds,h with
   | [d1,d2,d3],_=>rfl)
  (fun W base args ds p hval hA=>by
   rw[Tryz.params3] at hA hval
   obtain⟨v0,v1,v2,d0,d1,d2,p0,p1,p2,rfl,rfl,rfl,h0,h1,h2⟩:=trodAll_three hA
   obtain⟨x,y,rfl⟩:=Wg (hval 0 23 v0 rfl rfl) h0
   obtain⟨a,l,cap,rfl,hs,hl⟩:=RY (hval 1 24 v1 rfl rfl) h1
   obtain⟨b,rfl,rfl,rfl,wb⟩:=open_int Tryz.underlying3 (hval 2 3 v2 rfl rfl) h2
   exact R6 hs cap hl x y b)
theorem composeRight_holds:Rows.ComposeRightSaid :=
 OpenClaim.holds_of_wide 3 Tryz.f3 rfl rfl rfl rfl rfl rfl rfl ⟨rfl,rfl,rfl,rfl,rfl⟩ rfl rfl rfl rfl rfl (by kernel_rfl) Tryz.func3 (by kernel_rfl)
  (of_decide_eq_true (by kernel_rfl)) (by unfold Func.isWrapper;first|(rw[if_pos (by decide +kernel)];kernel_rfl)|(rw[if_neg (by decide +kernel)];exact⟨rfl,rfl⟩))
  (fun os started H enc _=>Wt os started H enc)
end Go.Proofs.YtelplojmbjnplaaGreat
