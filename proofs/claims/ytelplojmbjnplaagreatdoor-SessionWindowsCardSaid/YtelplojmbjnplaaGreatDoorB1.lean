/- Helpers of this claim, part 1: engine, translated functions, contracts, plain laws. -/
import Derived.Test.YtelplojmbjnplaaGreatDoorB0
import Derived.Laws.StructEq
set_option linter.unusedSimpArgs false
set_option linter.unusedVariables false
namespace Go.Proofs.YtelplojmbjnplaaGreatDoor
open Lyc Go
set_option maxRecDepth 100000
@[go_sem] theorem Z6:AB Tryz.prog 1=some (.nilFunc):=by kernel_rfl
@[go_sem] theorem ty1:Ag Tryz.prog 1=some 11∧Ak Tryz.prog 1=some 1∧Ao Tryz.prog 1=some 8∧Al Tryz.prog 1=some false:=by and_intros<;>kernel_rfl
@[go_sem] theorem Z2:AB Tryz.prog 3=some (.int .i64 0):=by kernel_rfl
@[go_sem] theorem ty3:Ag Tryz.prog 3=some 8∧Ak Tryz.prog 3=some 1∧Ao Tryz.prog 3=some 8∧Al Tryz.prog 3=some false∧Cq Tryz.prog 3=some .i64:=by and_intros<;>kernel_rfl
@[go_sem] theorem Z3:AB Tryz.prog 4=some (.bool false):=by kernel_rfl
@[go_sem] theorem ty4:Ag Tryz.prog 4=some 9∧Ak Tryz.prog 4=some 1∧Ao Tryz.prog 4=some 1∧Al Tryz.prog 4=some false:=by and_intros<;>kernel_rfl
@[go_sem] theorem ty5:Ag Tryz.prog 5=some 8∧Ak Tryz.prog 5=some 1∧Ao Tryz.prog 5=some 1∧Al Tryz.prog 5=some false∧Cq Tryz.prog 5=some .u8:=by and_intros<;>kernel_rfl
@[go_sem] theorem ty9:Ag Tryz.prog 9=some 3∧Ak Tryz.prog 9=some 1∧Ao Tryz.prog 9=some 16∧Al Tryz.prog 9=some false:=by and_intros<;>kernel_rfl
@[go_sem] theorem fy:Ag Tryz.prog 20=some 10∧Ak Tryz.prog 20=some 1∧Ao Tryz.prog 20=some 16∧Al Tryz.prog 20=some false:=by and_intros<;>kernel_rfl
@[go_sem] theorem dt:Ag Tryz.prog 21=some 8∧Ak Tryz.prog 21=some 1∧Ao Tryz.prog 21=some 4∧Al Tryz.prog 21=some false∧Cq Tryz.prog 21=some .i32:=by and_intros<;>kernel_rfl
@[go_sem] theorem az:Ag Tryz.prog 23=some 7∧Ak Tryz.prog 23=some 2∧Ao Tryz.prog 23=some 16∧Al Tryz.prog 23=some true∧BU Tryz.prog 23=some [(0,8),(1,8)]∧AD Tryz.prog 23=some 2∧Ai Tryz.prog 23 0=some (0,1)∧tfo Tryz.prog 23 0=some 0∧Ai Tryz.prog 23 1=some (1,1)∧tfo Tryz.prog 23 1=some 1∧AM Tryz.prog 23=some [(0,1),(1,1)]:=by and_intros<;>kernel_rfl
@[go_sem] theorem fO:Ag Tryz.prog 27=some 4∧Ak Tryz.prog 27=some 1∧Ao Tryz.prog 27=some 8∧Al Tryz.prog 27=some false∧AA Tryz.prog 27=some 80:=by and_intros<;>kernel_rfl
@[go_sem] theorem dX:Ag Tryz.prog 30=some 10∧Ak Tryz.prog 30=some 1∧Ao Tryz.prog 30=some 16∧Al Tryz.prog 30=some false:=by and_intros<;>kernel_rfl
@[go_sem] theorem cQ:AB Tryz.prog 33=some (.agg #[.int .i64 0,.int .i64 0,.int .i64 0,.string ⟨#[]⟩,.int .i64 0,.int .i64 0]):=by kernel_rfl
@[go_sem] theorem bQ:Ag Tryz.prog 33=some 7∧Ak Tryz.prog 33=some 6∧Ao Tryz.prog 33=some 56∧Al Tryz.prog 33=some true∧BU Tryz.prog 33=some [(0,8),(1,8),(2,8),(3,3),(4,8),(5,8)]∧AD Tryz.prog 33=some 6∧Ai Tryz.prog 33 0=some (0,1)∧tfo Tryz.prog 33 0=some 0∧Ai Tryz.prog 33 1=some (1,1)∧tfo Tryz.prog 33 1=some 1∧Ai Tryz.prog 33 2=some (2,1)∧tfo Tryz.prog 33 2=some 2∧Ai Tryz.prog 33 3=some (3,1)∧tfo Tryz.prog 33 3=some 3∧Ai Tryz.prog 33 4=some (4,1)∧tfo Tryz.prog 33 4=some 4∧Ai Tryz.prog 33 5=some (5,1)∧tfo Tryz.prog 33 5=some 5∧AM Tryz.prog 33=some [(0,1),(1,1),(2,1),(3,1),(4,1),(5,1)]:=by and_intros<;>kernel_rfl
@[go_sem] theorem bA:AB Tryz.prog 34=some (.int .i64 0):=by kernel_rfl
@[go_sem] theorem bR:Ag Tryz.prog 34=some 8∧Ak Tryz.prog 34=some 1∧Ao Tryz.prog 34=some 8∧Al Tryz.prog 34=some false∧Cq Tryz.prog 34=some .i64:=by and_intros<;>kernel_rfl
@[go_sem] theorem dE:AB Tryz.prog 37=some (.slice none 0 0):=by kernel_rfl
@[go_sem] theorem eL:AI Tryz.prog 37=some 5:=by kernel_rfl
@[go_sem] theorem XN:BM Tryz.prog 37=some (51,5,40):=by kernel_rfl
@[go_sem] theorem ax:Ag Tryz.prog 37=some 1∧Ak Tryz.prog 37=some 1∧Ao Tryz.prog 37=some 24∧Al Tryz.prog 37=some false∧tbs Tryz.prog 37=some (51,5,[.int .i64 0,.int .i64 0,.int .i64 0,.int .i64 0,.int .i64 0])∧AA Tryz.prog 37=some 51:=by and_intros<;>kernel_rfl
@[go_sem] theorem cC:AB Tryz.prog 40=some (.slice none 0 0):=by kernel_rfl
@[go_sem] theorem fL:AI Tryz.prog 40=some 1:=by kernel_rfl
@[go_sem] theorem Yi:BM Tryz.prog 40=some (3,1,8):=by kernel_rfl
@[go_sem] theorem bW:Ag Tryz.prog 40=some 1∧Ak Tryz.prog 40=some 1∧Ao Tryz.prog 40=some 24∧Al Tryz.prog 40=some false∧tbs Tryz.prog 40=some (3,1,[.int .i64 0])∧AA Tryz.prog 40=some 3:=by and_intros<;>kernel_rfl
@[go_sem] theorem b7:AB Tryz.prog 47=some (.slice none 0 0):=by kernel_rfl
@[go_sem] theorem RT:BM Tryz.prog 47=some (5,1,1):=by kernel_rfl
@[go_sem] theorem aT:Ag Tryz.prog 47=some 1∧Ak Tryz.prog 47=some 1∧Ao Tryz.prog 47=some 24∧Al Tryz.prog 47=some false∧tbs Tryz.prog 47=some (5,1,[.int .u8 0])∧AA Tryz.prog 47=some 5:=by and_intros<;>kernel_rfl
@[go_sem] theorem fG:AB Tryz.prog 49=some (.agg #[.int .i64 0,.int .i64 0,.int .i64 0,.int .i64 0]):=by kernel_rfl
@[go_sem] theorem fz:Ag Tryz.prog 49=some 7∧Ak Tryz.prog 49=some 4∧Ao Tryz.prog 49=some 32∧Al Tryz.prog 49=some true∧BU Tryz.prog 49=some [(0,8),(1,8),(2,8),(3,8)]∧AD Tryz.prog 49=some 4∧Ai Tryz.prog 49 0=some (0,1)∧tfo Tryz.prog 49 0=some 0∧Ai Tryz.prog 49 1=some (1,1)∧tfo Tryz.prog 49 1=some 1∧Ai Tryz.prog 49 2=some (2,1)∧tfo Tryz.prog 49 2=some 2∧Ai Tryz.prog 49 3=some (3,1)∧tfo Tryz.prog 49 3=some 3∧AM Tryz.prog 49=some [(0,1),(1,1),(2,1),(3,1)]:=by and_intros<;>kernel_rfl
@[go_sem] theorem bB:AB Tryz.prog 51=some (.agg #[.int .i64 0,.int .i64 0,.int .i64 0,.int .i64 0,.int .i64 0]):=by kernel_rfl
@[go_sem] theorem bX:Ag Tryz.prog 51=some 7∧Ak Tryz.prog 51=some 5∧Ao Tryz.prog 51=some 40∧Al Tryz.prog 51=some true∧AD Tryz.prog 51=some 5∧Ai Tryz.prog 51 0=some (0,1)∧tfo Tryz.prog 51 0=some 0∧Ai Tryz.prog 51 1=some (1,4)∧tfo Tryz.prog 51 1=some 1∧AM Tryz.prog 51=some [(0,1),(1,4)]:=by and_intros<;>kernel_rfl
@[go_sem] theorem bY:AI Tryz.prog 53=some 3:=by kernel_rfl
@[go_sem] theorem KT:BM Tryz.prog 53=some (56,3,32):=by kernel_rfl
@[go_sem] theorem dR:Ag Tryz.prog 53=some 1∧Ak Tryz.prog 53=some 1∧Ao Tryz.prog 53=some 24∧Al Tryz.prog 53=some false∧tbs Tryz.prog 53=some (56,3,[.int .i64 0,.int .i64 0,.string ⟨#[]⟩])∧AA Tryz.prog 53=some 56:=by and_intros<;>kernel_rfl
@[go_sem] theorem dI:AB Tryz.prog 56=some (.agg #[.int .i64 0,.int .i64 0,.string ⟨#[]⟩]):=by kernel_rfl
@[go_sem] theorem Z8:Ag Tryz.prog 56=some 7∧Ak Tryz.prog 56=some 3∧Ao Tryz.prog 56=some 32∧Al Tryz.prog 56=some true∧BU Tryz.prog 56=some [(0,8),(1,8),(2,3)]∧AD Tryz.prog 56=some 3∧Ai Tryz.prog 56 0=some (0,1)∧tfo Tryz.prog 56 0=some 0∧Ai Tryz.prog 56 1=some (1,1)∧tfo Tryz.prog 56 1=some 1∧Ai Tryz.prog 56 2=some (2,1)∧tfo Tryz.prog 56 2=some 2∧AM Tryz.prog 56=some [(0,1),(1,1),(2,1)]:=by and_intros<;>kernel_rfl
@[go_sem] theorem Dq:AI Tryz.prog 57=some 4:=by kernel_rfl
@[go_sem] theorem TI:BM Tryz.prog 57=some (167,4,8):=by kernel_rfl
@[go_sem] theorem J2:tmk Tryz.prog 57=some (167,4,[.int .i32 0,.int .u8 0,.int .u8 0,.int .u8 0],8):=by kernel_rfl
@[go_sem] theorem aN:Ag Tryz.prog 57=some 1∧Ak Tryz.prog 57=some 1∧Ao Tryz.prog 57=some 24∧Al Tryz.prog 57=some false∧tbs Tryz.prog 57=some (167,4,[.int .i32 0,.int .u8 0,.int .u8 0,.int .u8 0])∧AA Tryz.prog 57=some 167:=by and_intros<;>kernel_rfl
@[go_sem] theorem fC:AB Tryz.prog 59=some (.agg #[.int .i64 0,.int .i64 0,.slice none 0 0]):=by kernel_rfl
@[go_sem] theorem eD:Ag Tryz.prog 59=some 7∧Ak Tryz.prog 59=some 3∧Ao Tryz.prog 59=some 40∧Al Tryz.prog 59=some true∧AD Tryz.prog 59=some 3∧Ai Tryz.prog 59 0=some (0,1)∧tfo Tryz.prog 59 0=some 0∧Ai Tryz.prog 59 1=some (1,1)∧tfo Tryz.prog 59 1=some 1∧Ai Tryz.prog 59 2=some (2,1)∧tfo Tryz.prog 59 2=some 2∧AM Tryz.prog 59=some [(0,1),(1,1),(2,1)]:=by and_intros<;>kernel_rfl
@[go_sem] theorem cH:AB Tryz.prog 66=some (.slice none 0 0):=by kernel_rfl
@[go_sem] theorem fV:Ag Tryz.prog 66=some 1∧Ak Tryz.prog 66=some 1∧Ao Tryz.prog 66=some 24∧Al Tryz.prog 66=some false∧tbs Tryz.prog 66=some (49,4,[.int .i64 0,.int .i64 0,.int .i64 0,.int .i64 0])∧AA Tryz.prog 66=some 49:=by and_intros<;>kernel_rfl
@[go_sem] theorem eR:AB Tryz.prog 70=some (.agg #[.bool false,.bool false,.bool false,.bool false,.bool false,.bool false,.bool false,.bool false,.bool false,.bool false]):=by kernel_rfl
@[go_sem] theorem fu:Ag Tryz.prog 70=some 2∧Ak Tryz.prog 70=some 10∧Ao Tryz.prog 70=some 10∧Al Tryz.prog 70=some true∧A8 Tryz.prog 70=some (10,1)∧AD Tryz.prog 70=some 10∧AA Tryz.prog 70=some 4∧B9 Tryz.prog 70=some 10:=by and_intros<;>kernel_rfl
@[go_sem] theorem er:Ag Tryz.prog 71=some 8∧Ak Tryz.prog 71=some 1∧Ao Tryz.prog 71=some 8∧Al Tryz.prog 71=some false∧Cq Tryz.prog 71=some .u64:=by and_intros<;>kernel_rfl
@[go_sem] theorem F5:Ag Tryz.prog 76=some 5∧Ak Tryz.prog 76=some 1∧Ao Tryz.prog 76=some 8∧Al Tryz.prog 76=some false∧AA Tryz.prog 76=some 81:=by and_intros<;>kernel_rfl
@[go_sem] theorem aJ:Ag Tryz.prog 78=some 7∧Ak Tryz.prog 78=some 2∧Ao Tryz.prog 78=some 2∧Al Tryz.prog 78=some true∧BU Tryz.prog 78=some [(0,9),(1,9)]∧AD Tryz.prog 78=some 2∧Ai Tryz.prog 78 0=some (0,1)∧tfo Tryz.prog 78 0=some 0∧Ai Tryz.prog 78 1=some (1,1)∧tfo Tryz.prog 78 1=some 1∧AM Tryz.prog 78=some [(0,1),(1,1)]:=by and_intros<;>kernel_rfl
@[go_sem] theorem bU:AB Tryz.prog 80=some (.agg #[.int .i64 0,.int .i64 0,.int .i64 0,.map none,.int .i64 0,.bool false,.bool false,.int .i64 0,.slice none 0 0,.int .i64 0]):=by kernel_rfl
@[go_sem] theorem Z7:Ag Tryz.prog 80=some 7∧Ak Tryz.prog 80=some 10∧Ao Tryz.prog 80=some 88∧Al Tryz.prog 80=some true∧AD Tryz.prog 80=some 10∧Ai Tryz.prog 80 0=some (0,1)∧tfo Tryz.prog 80 0=some 0∧Ai Tryz.prog 80 1=some (1,1)∧tfo Tryz.prog 80 1=some 1∧Ai Tryz.prog 80 2=some (2,1)∧tfo Tryz.prog 80 2=some 2∧Ai Tryz.prog 80 3=some (3,1)∧tfo Tryz.prog 80 3=some 3∧Ai Tryz.prog 80 4=some (4,1)∧tfo Tryz.prog 80 4=some 4∧Ai Tryz.prog 80 5=some (5,2)∧tfo Tryz.prog 80 5=some 5∧Ai Tryz.prog 80 6=some (7,1)∧tfo Tryz.prog 80 6=some 7∧Ai Tryz.prog 80 7=some (8,1)∧tfo Tryz.prog 80 7=some 8∧Ai Tryz.prog 80 8=some (9,1)∧tfo Tryz.prog 80 8=some 9∧AM Tryz.prog 80=some [(0,1),(1,1),(2,1),(3,1),(4,1),(5,2),(7,1),(8,1),(9,1)]:=by and_intros<;>kernel_rfl
@[go_sem] theorem dZ:Ag Tryz.prog 81=some 4∧Ak Tryz.prog 81=some 1∧Ao Tryz.prog 81=some 8∧Al Tryz.prog 81=some false∧AA Tryz.prog 81=some 94:=by and_intros<;>kernel_rfl
@[go_sem] theorem de:Ag Tryz.prog 89=some 4∧Ak Tryz.prog 89=some 1∧Ao Tryz.prog 89=some 8∧Al Tryz.prog 89=some false∧AA Tryz.prog 89=some 34:=by and_intros<;>kernel_rfl
@[go_sem] theorem ay:Ag Tryz.prog 91=some 4∧Ak Tryz.prog 91=some 1∧Ao Tryz.prog 91=some 8∧Al Tryz.prog 91=some false∧AA Tryz.prog 91=some 149:=by and_intros<;>kernel_rfl
@[go_sem] theorem aX:Ag Tryz.prog 92=some 5∧Ak Tryz.prog 92=some 1∧Ao Tryz.prog 92=some 8∧Al Tryz.prog 92=some false∧AA Tryz.prog 92=some 99:=by and_intros<;>kernel_rfl
@[go_sem] theorem af:AB Tryz.prog 94=some (.agg #[.pointer none,.int .i64 0,.int .i64 0,.map none]):=by kernel_rfl
@[go_sem] theorem fj:Ag Tryz.prog 94=some 7∧Ak Tryz.prog 94=some 4∧Ao Tryz.prog 94=some 32∧Al Tryz.prog 94=some true∧AD Tryz.prog 94=some 4∧Ai Tryz.prog 94 0=some (0,1)∧tfo Tryz.prog 94 0=some 0∧Ai Tryz.prog 94 1=some (1,1)∧tfo Tryz.prog 94 1=some 1∧Ai Tryz.prog 94 2=some (2,1)∧tfo Tryz.prog 94 2=some 2∧Ai Tryz.prog 94 3=some (3,1)∧tfo Tryz.prog 94 3=some 3∧AM Tryz.prog 94=some [(0,1),(1,1),(2,1),(3,1)]:=by and_intros<;>kernel_rfl
@[go_sem] theorem ep:Ag Tryz.prog 99=some 4∧Ak Tryz.prog 99=some 1∧Ao Tryz.prog 99=some 8∧Al Tryz.prog 99=some false∧AA Tryz.prog 99=some 163:=by and_intros<;>kernel_rfl
@[go_sem] theorem cl:AI Tryz.prog 108=some 1:=by kernel_rfl
@[go_sem] theorem SI:BM Tryz.prog 108=some (9,1,16):=by kernel_rfl
@[go_sem] theorem fS:Ag Tryz.prog 108=some 1∧Ak Tryz.prog 108=some 1∧Ao Tryz.prog 108=some 24∧Al Tryz.prog 108=some false∧tbs Tryz.prog 108=some (9,1,[.string ⟨#[]⟩])∧AA Tryz.prog 108=some 9:=by and_intros<;>kernel_rfl
@[go_sem] theorem dW:Ag Tryz.prog 109=some 4∧Ak Tryz.prog 109=some 1∧Ao Tryz.prog 109=some 8∧Al Tryz.prog 109=some false∧AA Tryz.prog 109=some 111:=by and_intros<;>kernel_rfl
@[go_sem] theorem aE:AB Tryz.prog 111=some (.agg #[.nilIface,.int .i64 0]):=by kernel_rfl
@[go_sem] theorem fA:Ag Tryz.prog 111=some 7∧Ak Tryz.prog 111=some 2∧Ao Tryz.prog 111=some 24∧Al Tryz.prog 111=some true∧AD Tryz.prog 111=some 2∧Ai Tryz.prog 111 0=some (0,1)∧tfo Tryz.prog 111 0=some 0∧Ai Tryz.prog 111 1=some (1,1)∧tfo Tryz.prog 111 1=some 1∧AM Tryz.prog 111=some [(0,1),(1,1)]:=by and_intros<;>kernel_rfl
@[go_sem] theorem aR:Ag Tryz.prog 112=some 4∧Ak Tryz.prog 112=some 1∧Ao Tryz.prog 112=some 8∧Al Tryz.prog 112=some false∧AA Tryz.prog 112=some 114:=by and_intros<;>kernel_rfl
@[go_sem] theorem dG:AB Tryz.prog 114=some (.agg #[.nilIface,.string ⟨#[]⟩]):=by kernel_rfl
@[go_sem] theorem dz:Ag Tryz.prog 114=some 7∧Ak Tryz.prog 114=some 2∧Ao Tryz.prog 114=some 32∧Al Tryz.prog 114=some true∧AD Tryz.prog 114=some 2∧Ai Tryz.prog 114 0=some (0,1)∧tfo Tryz.prog 114 0=some 0∧Ai Tryz.prog 114 1=some (1,1)∧tfo Tryz.prog 114 1=some 1∧AM Tryz.prog 114=some [(0,1),(1,1)]:=by and_intros<;>kernel_rfl
@[go_sem] theorem fH:Ag Tryz.prog 115=some 4∧Ak Tryz.prog 115=some 1∧Ao Tryz.prog 115=some 8∧Al Tryz.prog 115=some false∧AA Tryz.prog 115=some 118:=by and_intros<;>kernel_rfl
@[go_sem] theorem bz:AI Tryz.prog 116=some 1:=by kernel_rfl
@[go_sem] theorem LK:BM Tryz.prog 116=some (30,1,16):=by kernel_rfl
@[go_sem] theorem dU:Ag Tryz.prog 116=some 1∧Ak Tryz.prog 116=some 1∧Ao Tryz.prog 116=some 24∧Al Tryz.prog 116=some false∧tbs Tryz.prog 116=some (30,1,[.nilIface])∧AA Tryz.prog 116=some 30:=by and_intros<;>kernel_rfl
@[go_sem] theorem fB:AB Tryz.prog 118=some (.agg #[.slice none 0 0]):=by kernel_rfl
@[go_sem] theorem bM:Ag Tryz.prog 118=some 7∧Ak Tryz.prog 118=some 1∧Ao Tryz.prog 118=some 24∧Al Tryz.prog 118=some true∧AD Tryz.prog 118=some 1∧Ai Tryz.prog 118 0=some (0,1)∧tfo Tryz.prog 118 0=some 0∧AM Tryz.prog 118=some [(0,1)]:=by and_intros<;>kernel_rfl
@[go_sem] theorem eM:AB Tryz.prog 122=some (.slice none 0 0):=by kernel_rfl
@[go_sem] theorem eF:AI Tryz.prog 122=some 3:=by kernel_rfl
@[go_sem] theorem MK:BM Tryz.prog 122=some (125,3,32):=by kernel_rfl
@[go_sem] theorem dx:Ag Tryz.prog 122=some 1∧Ak Tryz.prog 122=some 1∧Ao Tryz.prog 122=some 24∧Al Tryz.prog 122=some false∧tbs Tryz.prog 122=some (125,3,[.int .i64 0,.int .i64 0,.string ⟨#[]⟩])∧AA Tryz.prog 122=some 125:=by and_intros<;>kernel_rfl
@[go_sem] theorem fR:AB Tryz.prog 125=some (.agg #[.int .i64 0,.int .i64 0,.string ⟨#[]⟩]):=by kernel_rfl
@[go_sem] theorem eC:Ag Tryz.prog 125=some 7∧Ak Tryz.prog 125=some 3∧Ao Tryz.prog 125=some 32∧Al Tryz.prog 125=some true∧BU Tryz.prog 125=some [(0,8),(1,8),(2,3)]∧AD Tryz.prog 125=some 3∧Ai Tryz.prog 125 0=some (0,1)∧tfo Tryz.prog 125 0=some 0∧Ai Tryz.prog 125 1=some (1,1)∧tfo Tryz.prog 125 1=some 1∧Ai Tryz.prog 125 2=some (2,1)∧tfo Tryz.prog 125 2=some 2∧AM Tryz.prog 125=some [(0,1),(1,1),(2,1)]:=by and_intros<;>kernel_rfl
@[go_sem] theorem bm:AB Tryz.prog 136=some (.agg #[.pointer none,.pointer none,.int .u64 0]):=by kernel_rfl
@[go_sem] theorem ew:Ag Tryz.prog 136=some 7∧Ak Tryz.prog 136=some 3∧Ao Tryz.prog 136=some 24∧Al Tryz.prog 136=some true∧AD Tryz.prog 136=some 3∧Ai Tryz.prog 136 0=some (0,1)∧tfo Tryz.prog 136 0=some 0∧Ai Tryz.prog 136 1=some (1,1)∧tfo Tryz.prog 136 1=some 1∧Ai Tryz.prog 136 2=some (2,1)∧tfo Tryz.prog 136 2=some 2∧AM Tryz.prog 136=some [(0,1),(1,1),(2,1)]:=by and_intros<;>kernel_rfl
@[go_sem] theorem fq:Ag Tryz.prog 139=some 10∧Ak Tryz.prog 139=some 1∧Ao Tryz.prog 139=some 16∧Al Tryz.prog 139=some false:=by and_intros<;>kernel_rfl
@[go_sem] theorem bh:Ag Tryz.prog 147=some 4∧Ak Tryz.prog 147=some 1∧Ao Tryz.prog 147=some 8∧Al Tryz.prog 147=some false∧AA Tryz.prog 147=some 152:=by and_intros<;>kernel_rfl
@[go_sem] theorem fP:AB Tryz.prog 149=some (.agg #[.pointer none,.int .i64 0,.int .i64 0,.int .i64 0,.int .i64 0,.int .i64 0]):=by kernel_rfl
@[go_sem] theorem cm:Ag Tryz.prog 149=some 7∧Ak Tryz.prog 149=some 6∧Ao Tryz.prog 149=some 48∧Al Tryz.prog 149=some true∧AD Tryz.prog 149=some 6∧Ai Tryz.prog 149 0=some (0,1)∧tfo Tryz.prog 149 0=some 0∧Ai Tryz.prog 149 1=some (1,4)∧tfo Tryz.prog 149 1=some 1∧Ai Tryz.prog 149 2=some (5,1)∧tfo Tryz.prog 149 2=some 5∧AM Tryz.prog 149=some [(0,1),(1,4),(5,1)]:=by and_intros<;>kernel_rfl
@[go_sem] theorem bH:AB Tryz.prog 152=some (.agg #[.int .i64 0,.bool false,.int .i64 0,.int .i64 0,.pointer none,.pointer none]):=by kernel_rfl
@[go_sem] theorem dV:Ag Tryz.prog 152=some 7∧Ak Tryz.prog 152=some 6∧Ao Tryz.prog 152=some 48∧Al Tryz.prog 152=some true∧AD Tryz.prog 152=some 6∧Ai Tryz.prog 152 0=some (0,1)∧tfo Tryz.prog 152 0=some 0∧Ai Tryz.prog 152 1=some (1,1)∧tfo Tryz.prog 152 1=some 1∧Ai Tryz.prog 152 2=some (2,1)∧tfo Tryz.prog 152 2=some 2∧Ai Tryz.prog 152 3=some (3,1)∧tfo Tryz.prog 152 3=some 3∧Ai Tryz.prog 152 4=some (4,1)∧tfo Tryz.prog 152 4=some 4∧Ai Tryz.prog 152 5=some (5,1)∧tfo Tryz.prog 152 5=some 5∧AM Tryz.prog 152=some [(0,1),(1,1),(2,1),(3,1),(4,1),(5,1)]:=by and_intros<;>kernel_rfl
@[go_sem] theorem fw:Ag Tryz.prog 155=some 4∧Ak Tryz.prog 155=some 1∧Ao Tryz.prog 155=some 8∧Al Tryz.prog 155=some false∧AA Tryz.prog 155=some 236:=by and_intros<;>kernel_rfl
@[go_sem] theorem eB:Ag Tryz.prog 157=some 7∧Ak Tryz.prog 157=some 1∧Ao Tryz.prog 157=some 16∧Al Tryz.prog 157=some true∧BU Tryz.prog 157=some [(0,3)]∧AD Tryz.prog 157=some 1∧Ai Tryz.prog 157 0=some (0,1)∧tfo Tryz.prog 157 0=some 0∧AM Tryz.prog 157=some [(0,1)]:=by and_intros<;>kernel_rfl
@[go_sem] theorem fQ:Ag Tryz.prog 158=some 2∧Ak Tryz.prog 158=some 8∧Ao Tryz.prog 158=some 64∧Al Tryz.prog 158=some true∧A8 Tryz.prog 158=some (8,1)∧AD Tryz.prog 158=some 8∧AA Tryz.prog 158=some 3∧B9 Tryz.prog 158=some 8:=by and_intros<;>kernel_rfl
@[go_sem] theorem ee:AB Tryz.prog 160=some (.agg #[.int .i64 0,.int .u8 0,.int .u8 0,.int .i64 0,.int .i64 0,.int .i64 0,.int .i64 0,.int .i64 0,.int .i64 0,.int .i64 0,.int .i64 0,.int .i64 0]):=by kernel_rfl
@[go_sem] theorem cN:Ag Tryz.prog 160=some 7∧Ak Tryz.prog 160=some 12∧Ao Tryz.prog 160=some 88∧Al Tryz.prog 160=some true∧AD Tryz.prog 160=some 12∧Ai Tryz.prog 160 0=some (0,1)∧tfo Tryz.prog 160 0=some 0∧Ai Tryz.prog 160 1=some (1,1)∧tfo Tryz.prog 160 1=some 1∧Ai Tryz.prog 160 2=some (2,1)∧tfo Tryz.prog 160 2=some 2∧Ai Tryz.prog 160 3=some (3,1)∧tfo Tryz.prog 160 3=some 3∧Ai Tryz.prog 160 4=some (4,8)∧tfo Tryz.prog 160 4=some 4∧AM Tryz.prog 160=some [(0,1),(1,1),(2,1),(3,1),(4,8)]:=by and_intros<;>kernel_rfl
@[go_sem] theorem dD:Ag Tryz.prog 161=some 4∧Ak Tryz.prog 161=some 1∧Ao Tryz.prog 161=some 8∧Al Tryz.prog 161=some false∧AA Tryz.prog 161=some 226:=by and_intros<;>kernel_rfl
@[go_sem] theorem fT:AB Tryz.prog 163=some (.agg #[.pointer none,.string ⟨#[]⟩,.int .i64 0,.int .u8 0,.int .u8 0,.int .i64 0,.int .i64 0,.int .i64 0,.int .i64 0,.int .i64 0,.int .i64 0,.int .i64 0,.int .i64 0,.int .i64 0,.pointer none]):=by kernel_rfl
@[go_sem] theorem eY:Ag Tryz.prog 163=some 7∧Ak Tryz.prog 163=some 15∧Ao Tryz.prog 163=some 120∧Al Tryz.prog 163=some true∧AD Tryz.prog 163=some 15∧Ai Tryz.prog 163 0=some (0,1)∧tfo Tryz.prog 163 0=some 0∧Ai Tryz.prog 163 1=some (1,1)∧tfo Tryz.prog 163 1=some 1∧Ai Tryz.prog 163 2=some (2,12)∧tfo Tryz.prog 163 2=some 2∧Ai Tryz.prog 163 3=some (14,1)∧tfo Tryz.prog 163 3=some 14∧AM Tryz.prog 163=some [(0,1),(1,1),(2,12),(14,1)]:=by and_intros<;>kernel_rfl
@[go_sem] theorem ez:AB Tryz.prog 167=some (.agg #[.int .i32 0,.int .u8 0,.int .u8 0,.int .u8 0]):=by kernel_rfl
@[go_sem] theorem bj:Ag Tryz.prog 167=some 7∧Ak Tryz.prog 167=some 4∧Ao Tryz.prog 167=some 8∧Al Tryz.prog 167=some true∧BU Tryz.prog 167=some [(0,8),(1,8),(2,8),(3,8)]∧AD Tryz.prog 167=some 4∧Ai Tryz.prog 167 0=some (0,1)∧tfo Tryz.prog 167 0=some 0∧Ai Tryz.prog 167 1=some (1,1)∧tfo Tryz.prog 167 1=some 1∧Ai Tryz.prog 167 2=some (2,1)∧tfo Tryz.prog 167 2=some 2∧Ai Tryz.prog 167 3=some (3,1)∧tfo Tryz.prog 167 3=some 3∧AM Tryz.prog 167=some [(0,1),(1,1),(2,1),(3,1)]:=by and_intros<;>kernel_rfl
@[go_sem] theorem ed:Ag Tryz.prog 184=some 4∧Ak Tryz.prog 184=some 1∧Ao Tryz.prog 184=some 8∧Al Tryz.prog 184=some false∧AA Tryz.prog 184=some 78:=by and_intros<;>kernel_rfl
@[go_sem] theorem aS:Ag Tryz.prog 186=some 7∧Ak Tryz.prog 186=some 2∧Ao Tryz.prog 186=some 16∧Al Tryz.prog 186=some true∧BU Tryz.prog 186=some [(0,8),(1,8)]∧AD Tryz.prog 186=some 2∧Ai Tryz.prog 186 0=some (0,1)∧tfo Tryz.prog 186 0=some 0∧Ai Tryz.prog 186 1=some (1,1)∧tfo Tryz.prog 186 1=some 1∧AM Tryz.prog 186=some [(0,1),(1,1)]:=by and_intros<;>kernel_rfl
@[go_sem] theorem Te:AB Tryz.prog 189=some (.agg #[.int .i64 0,.int .i64 0,.int .i64 0,.int .i64 0,.int .i64 0,.int .i64 0,.int .i64 0,.int .i64 0,.int .i64 0,.int .i64 0,.int .i64 0,.int .i64 0,.int .i64 0,.int .i64 0,.int .i64 0,.int .i64 0,.int .i64 0,.int .i64 0,.int .i64 0,.int .i64 0,.int .i64 0,.int .i64 0,.int .i64 0,.int .i64 0,.int .i64 0,.int .i64 0,.int .i64 0,.int .i64 0,.int .i64 0,.int .i64 0,.int .i64 0,.int .i64 0,.int .i64 0,.int .i64 0,.int .i64 0,.int .i64 0,.int .i64 0,.int .i64 0,.int .i64 0,.int .i64 0,.int .i64 0,.int .i64 0,.int .i64 0,.int .i64 0]):=by kernel_rfl
@[go_sem] theorem M9:Ag Tryz.prog 189=some 2∧Ak Tryz.prog 189=some 44∧Ao Tryz.prog 189=some 352∧Al Tryz.prog 189=some true∧A8 Tryz.prog 189=some (22,2)∧AD Tryz.prog 189=some 44∧AA Tryz.prog 189=some 186∧B9 Tryz.prog 189=some 22:=by and_intros<;>kernel_rfl
@[go_sem] theorem PK:AB Tryz.prog 191=some (.agg #[.int .i64 0,.int .i64 0,.int .i64 0,.int .i64 0,.int .i64 0,.int .i64 0,.int .i64 0,.int .i64 0,.int .i64 0,.int .i64 0,.int .i64 0,.int .i64 0,.int .i64 0,.int .i64 0]):=by kernel_rfl
@[go_sem] theorem O2:Ag Tryz.prog 191=some 2∧Ak Tryz.prog 191=some 14∧Ao Tryz.prog 191=some 112∧Al Tryz.prog 191=some true∧A8 Tryz.prog 191=some (7,2)∧AD Tryz.prog 191=some 14∧AA Tryz.prog 191=some 186∧B9 Tryz.prog 191=some 7:=by and_intros<;>kernel_rfl
@[go_sem] theorem dS:AI Tryz.prog 198=some 13:=by kernel_rfl
@[go_sem] theorem UD:BM Tryz.prog 198=some (247,13,88):=by kernel_rfl
@[go_sem] theorem dL:Ag Tryz.prog 198=some 1∧Ak Tryz.prog 198=some 1∧Ao Tryz.prog 198=some 24∧Al Tryz.prog 198=some false∧tbs Tryz.prog 198=some (247,13,[.int .i64 0,.int .i32 0,.int .u8 0,.int .u8 0,.int .i64 0,.int .i64 0,.int .i64 0,.int .i64 0,.int .i64 0,.int .i64 0,.int .i64 0,.int .i64 0,.int .i64 0])∧AA Tryz.prog 198=some 247:=by and_intros<;>kernel_rfl
@[go_sem] theorem fD:AI Tryz.prog 200=some 1:=by kernel_rfl
@[go_sem] theorem XE:BM Tryz.prog 200=some (21,1,4):=by kernel_rfl
@[go_sem] theorem cT:Ag Tryz.prog 200=some 1∧Ak Tryz.prog 200=some 1∧Ao Tryz.prog 200=some 24∧Al Tryz.prog 200=some false∧tbs Tryz.prog 200=some (21,1,[.int .i32 0])∧AA Tryz.prog 200=some 21:=by and_intros<;>kernel_rfl
@[go_sem] theorem ej:AI Tryz.prog 203=some 1:=by kernel_rfl
@[go_sem] theorem H5:BM Tryz.prog 203=some (57,1,24):=by kernel_rfl
@[go_sem] theorem Xe:Ag Tryz.prog 203=some 1∧Ak Tryz.prog 203=some 1∧Ao Tryz.prog 203=some 24∧Al Tryz.prog 203=some false∧tbs Tryz.prog 203=some (57,1,[.slice none 0 0])∧AA Tryz.prog 203=some 57:=by and_intros<;>kernel_rfl
@[go_sem] theorem cM:Ag Tryz.prog 224=some 7∧Ak Tryz.prog 224=some 3∧Ao Tryz.prog 224=some 40∧Al Tryz.prog 224=some true∧AD Tryz.prog 224=some 3∧Ai Tryz.prog 224 0=some (0,1)∧tfo Tryz.prog 224 0=some 0∧Ai Tryz.prog 224 1=some (1,1)∧tfo Tryz.prog 224 1=some 1∧Ai Tryz.prog 224 2=some (2,1)∧tfo Tryz.prog 224 2=some 2∧AM Tryz.prog 224=some [(0,1),(1,1),(2,1)]:=by and_intros<;>kernel_rfl
@[go_sem] theorem al:AB Tryz.prog 226=some (.agg #[.int .i64 0,.int .i64 0,.slice none 0 0]):=by kernel_rfl
@[go_sem] theorem bT:Ag Tryz.prog 226=some 7∧Ak Tryz.prog 226=some 3∧Ao Tryz.prog 226=some 40∧Al Tryz.prog 226=some true∧AD Tryz.prog 226=some 3∧Ai Tryz.prog 226 0=some (0,3)∧tfo Tryz.prog 226 0=some 0∧AM Tryz.prog 226=some [(0,3)]:=by and_intros<;>kernel_rfl
@[go_sem] theorem fF:Ag Tryz.prog 231=some 7∧Ak Tryz.prog 231=some 6∧Ao Tryz.prog 231=some 24∧Al Tryz.prog 231=some true∧AD Tryz.prog 231=some 6∧Ai Tryz.prog 231 0=some (0,1)∧tfo Tryz.prog 231 0=some 0∧Ai Tryz.prog 231 1=some (1,1)∧tfo Tryz.prog 231 1=some 1∧Ai Tryz.prog 231 2=some (2,4)∧tfo Tryz.prog 231 2=some 2∧AM Tryz.prog 231=some [(0,1),(1,1),(2,4)]:=by and_intros<;>kernel_rfl
@[go_sem] theorem bs:Ag Tryz.prog 232=some 2∧Ak Tryz.prog 232=some 6∧Ao Tryz.prog 232=some 80∧Al Tryz.prog 232=some true∧A8 Tryz.prog 232=some (2,3)∧AD Tryz.prog 232=some 6∧AA Tryz.prog 232=some 59∧B9 Tryz.prog 232=some 2:=by and_intros<;>kernel_rfl
@[go_sem] theorem ec:Ag Tryz.prog 233=some 2∧Ak Tryz.prog 233=some 12∧Ao Tryz.prog 233=some 48∧Al Tryz.prog 233=some true∧A8 Tryz.prog 233=some (2,6)∧AD Tryz.prog 233=some 12∧AA Tryz.prog 233=some 231∧B9 Tryz.prog 233=some 2:=by and_intros<;>kernel_rfl
@[go_sem] theorem cG:Ag Tryz.prog 234=some 2∧Ak Tryz.prog 234=some 200∧Ao Tryz.prog 234=some 200∧Al Tryz.prog 234=some true∧A8 Tryz.prog 234=some (200,1)∧AD Tryz.prog 234=some 200∧AA Tryz.prog 234=some 4∧B9 Tryz.prog 234=some 200:=by and_intros<;>kernel_rfl
@[go_sem] theorem eH:Ag Tryz.prog 236=some 7∧Ak Tryz.prog 236=some 233∧Ao Tryz.prog 236=some 424∧Al Tryz.prog 236=some true∧AD Tryz.prog 236=some 233∧Ai Tryz.prog 236 0=some (0,1)∧tfo Tryz.prog 236 0=some 0∧Ai Tryz.prog 236 1=some (1,1)∧tfo Tryz.prog 236 1=some 1∧Ai Tryz.prog 236 2=some (2,6)∧tfo Tryz.prog 236 2=some 2∧Ai Tryz.prog 236 3=some (8,12)∧tfo Tryz.prog 236 3=some 8∧Ai Tryz.prog 236 4=some (20,1)∧tfo Tryz.prog 236 4=some 20∧Ai Tryz.prog 236 5=some (21,6)∧tfo Tryz.prog 236 5=some 21∧Ai Tryz.prog 236 6=some (27,1)∧tfo Tryz.prog 236 6=some 27∧Ai Tryz.prog 236 7=some (28,1)∧tfo Tryz.prog 236 7=some 28∧Ai Tryz.prog 236 8=some (29,200)∧tfo Tryz.prog 236 8=some 29∧Ai Tryz.prog 236 9=some (229,1)∧tfo Tryz.prog 236 9=some 229∧Ai Tryz.prog 236 10=some (230,1)∧tfo Tryz.prog 236 10=some 230∧Ai Tryz.prog 236 11=some (231,1)∧tfo Tryz.prog 236 11=some 231∧Ai Tryz.prog 236 12=some (232,1)∧tfo Tryz.prog 236 12=some 232∧AM Tryz.prog 236=some [(0,1),(1,1),(2,6),(8,12),(20,1),(21,6),(27,1),(28,1),(29,200),(229,1),(230,1),(231,1),(232,1)]:=by and_intros<;>kernel_rfl
@[go_sem] theorem dy:AB Tryz.prog 247=some (.agg #[.int .i64 0,.int .i32 0,.int .u8 0,.int .u8 0,.int .i64 0,.int .i64 0,.int .i64 0,.int .i64 0,.int .i64 0,.int .i64 0,.int .i64 0,.int .i64 0,.int .i64 0]):=by kernel_rfl
@[go_sem] theorem fx:Ag Tryz.prog 247=some 7∧Ak Tryz.prog 247=some 13∧Ao Tryz.prog 247=some 88∧Al Tryz.prog 247=some true∧AD Tryz.prog 247=some 13∧Ai Tryz.prog 247 0=some (0,1)∧tfo Tryz.prog 247 0=some 0∧Ai Tryz.prog 247 1=some (1,1)∧tfo Tryz.prog 247 1=some 1∧Ai Tryz.prog 247 2=some (2,1)∧tfo Tryz.prog 247 2=some 2∧Ai Tryz.prog 247 3=some (3,1)∧tfo Tryz.prog 247 3=some 3∧Ai Tryz.prog 247 4=some (4,1)∧tfo Tryz.prog 247 4=some 4∧Ai Tryz.prog 247 5=some (5,8)∧tfo Tryz.prog 247 5=some 5∧AM Tryz.prog 247=some [(0,1),(1,1),(2,1),(3,1),(4,1),(5,8)]:=by and_intros<;>kernel_rfl
@[go_sem] theorem aQ:Ag Tryz.prog 250=some 4∧Ak Tryz.prog 250=some 1∧Ao Tryz.prog 250=some 8∧Al Tryz.prog 250=some false∧AA Tryz.prog 250=some 160:=by and_intros<;>kernel_rfl
@[go_sem] theorem cV:Ag Tryz.prog 253=some 4∧Ak Tryz.prog 253=some 1∧Ao Tryz.prog 253=some 8∧Al Tryz.prog 253=some false∧AA Tryz.prog 253=some 157:=by and_intros<;>kernel_rfl
@[go_sem] theorem bF:AI Tryz.prog 284=some 5:=by kernel_rfl
@[go_sem] theorem Uk:BM Tryz.prog 284=some (287,5,40):=by kernel_rfl
@[go_sem] theorem av:Ag Tryz.prog 284=some 1∧Ak Tryz.prog 284=some 1∧Ao Tryz.prog 284=some 24∧Al Tryz.prog 284=some false∧tbs Tryz.prog 284=some (287,5,[.pointer none,.int .i64 0,.int .i64 0,.int .i64 0,.int .i64 0])∧AA Tryz.prog 284=some 287:=by and_intros<;>kernel_rfl
@[go_sem] theorem aB:AB Tryz.prog 287=some (.agg #[.pointer none,.int .i64 0,.int .i64 0,.int .i64 0,.int .i64 0]):=by kernel_rfl
@[go_sem] theorem fe:Ag Tryz.prog 287=some 7∧Ak Tryz.prog 287=some 5∧Ao Tryz.prog 287=some 40∧Al Tryz.prog 287=some true∧AD Tryz.prog 287=some 5∧Ai Tryz.prog 287 0=some (0,1)∧tfo Tryz.prog 287 0=some 0∧Ai Tryz.prog 287 1=some (1,4)∧tfo Tryz.prog 287 1=some 1∧AM Tryz.prog 287=some [(0,1),(1,4)]:=by and_intros<;>kernel_rfl
@[go_sem] theorem dY:Ag Tryz.prog 305=some 11∧Ak Tryz.prog 305=some 1∧Ao Tryz.prog 305=some 8∧Al Tryz.prog 305=some false:=by and_intros<;>kernel_rfl
@[go_sem] theorem cD:AB Tryz.prog 307=some (.agg #[.int .i32 0,.int .i32 0,.int .i64 0]):=by kernel_rfl
@[go_sem] theorem MB:Ag Tryz.prog 307=some 7∧Ak Tryz.prog 307=some 3∧Ao Tryz.prog 307=some 16∧Al Tryz.prog 307=some true∧BU Tryz.prog 307=some [(0,8),(1,8),(2,8)]∧AD Tryz.prog 307=some 3∧Ai Tryz.prog 307 0=some (0,1)∧tfo Tryz.prog 307 0=some 0∧Ai Tryz.prog 307 1=some (1,1)∧tfo Tryz.prog 307 1=some 1∧Ai Tryz.prog 307 2=some (2,1)∧tfo Tryz.prog 307 2=some 2∧AM Tryz.prog 307=some [(0,1),(1,1),(2,1)]:=by and_intros<;>kernel_rfl
@[go_sem] theorem Y9:AB Tryz.prog 308=some (.agg #[.int .i32 0,.int .i32 0,.int .i64 0,.int .i32 0,.int .i32 0,.int .i64 0,.int .i32 0,.int .i32 0,.int .i64 0,.int .i32 0,.int .i32 0,.int .i64 0,.int .i32 0,.int .i32 0,.int .i64 0,.int .i32 0,.int .i32 0,.int .i64 0,.int .i32 0,.int .i32 0,.int .i64 0,.int .i32 0,.int .i32 0,.int .i64 0,.int .i32 0,.int .i32 0,.int .i64 0,.int .i32 0,.int .i32 0,.int .i64 0,.int .i32 0,.int .i32 0,.int .i64 0,.int .i32 0,.int .i32 0,.int .i64 0,.int .i32 0,.int .i32 0,.int .i64 0,.int .i32 0,.int .i32 0,.int .i64 0,.int .i32 0,.int .i32 0,.int .i64 0,.int .i32 0,.int .i32 0,.int .i64 0]):=by kernel_rfl
@[go_sem] theorem Gz:Ag Tryz.prog 308=some 2∧Ak Tryz.prog 308=some 48∧Ao Tryz.prog 308=some 256∧Al Tryz.prog 308=some true∧A8 Tryz.prog 308=some (16,3)∧AD Tryz.prog 308=some 48∧AA Tryz.prog 308=some 307∧B9 Tryz.prog 308=some 16:=by and_intros<;>kernel_rfl
@[go_sem] theorem ch:AB Tryz.prog 327=some (.agg #[.int .u8 0,.int .u8 0,.int .u8 0,.int .u8 0,.int .u8 0,.int .u8 0,.int .u8 0,.int .u8 0]):=by kernel_rfl
@[go_sem] theorem cf:Ag Tryz.prog 327=some 2∧Ak Tryz.prog 327=some 8∧Ao Tryz.prog 327=some 8∧Al Tryz.prog 327=some true∧A8 Tryz.prog 327=some (8,1)∧AD Tryz.prog 327=some 8∧AA Tryz.prog 327=some 5∧B9 Tryz.prog 327=some 8:=by and_intros<;>kernel_rfl
def LV (p0:Value) (K:Value→World→Prop):World→Prop :=
 xA 37 fun t3 =>
 xC 64 [.const p0] [91] 4 fun t7 =>
 xW t7
 (xL 37 t3 fun t8 =>
 K t8) <|
 Aj <|
 xP (.nilCheck (.const p0)) 0 fun t10 =>
 qF 149 t10 0 fun t11 =>
 qL 147 t11 fun t12 =>
 xP (.nilCheck (.const p0)) 0 fun t14 =>
 qF 149 t14 1 fun t15 =>
 qL 49 t15 fun t16 =>
 xC 65 [.const t12,.const t16] [147,49] 146 fun t17 =>
 RngX Tryz.prog t17 2 (fun vs1 bg1 kn1 _ _ =>
 xA 49 fun t5 =>
 xS 49 t5 (By vs1 1) <|
 bg1 <|
 xC 66 [.const (By vs1 0)] [147] 4 fun t21 =>
 xW t21
 (Aj <|
 qL 37 t3 fun t22 =>
 xP (.nilCheck (.const (By vs1 0))) 0 fun t24 =>
 qF 152 t24 0 fun t25 =>
 qL 3 t25 fun t26 =>
 qL 49 t5 fun t27 =>
 OpX Tryz.prog (.build 51 #[(0,.const t26),(1,.const t27)]) 51 fun t28 =>
 xT (qZ 37 t3 t22) <|
 OpX Tryz.prog (.buildSlice 37 1 #[(0,.const t28)]) 37 fun t29 =>
 xT (qZ 37 t3 t22) <|
 OpX Tryz.prog (.call { callee:=.builtin .append,args:=#[.const t22,.const t29],argTypes:=#[37,37] }) 37 fun t30 =>
 xS 37 t3 t30 <|
 kn1) <|
 kn1)
 (fun r1 =>
 xL 37 t3 fun t31 =>
 BN (B7 r1 (.tuple #[])) <|
 K t31)
 (fun _ _=>False)
 []
theorem R0 (p0:Value):Lk 36 #[p0] (LV p0):=lk [p0] [] Tryz.func36
theorem Gb:Ad Tryz.prog 36:=bd Tryz.func36
def N7 (p0 p1:Value) (K:Value→World→Prop):World→Prop :=
 xC 83 [.const p0,.const p1] [3,3] 4 fun t7 =>
 xN 4 t7 fun t8 =>
 xW t8
 (K (.pointer none)) <|
 OpX Tryz.prog (.build 152 #[(0,.const (.int .i64 1))]) 152 fun t9 =>
 OpX Tryz.prog (.box 152 (.const t9)) 147 fun t10 =>
 OpX Tryz.prog (.build 49 #[(2,.const p0),(3,.const p1)]) 49 fun t13 =>
 OpX Tryz.prog (.build 149 #[(0,.const t10),(1,.const t13),(2,.const (.int .i64 1))]) 149 fun t14 =>
 OpX Tryz.prog (.box 149 (.const t14)) 91 fun t15 =>
 K t15
theorem Xr (p0 p1:Value):Lk 50 #[p0,p1] (N7 p0 p1):=lk [p0,p1] [] Tryz.func50
theorem Sm:Ad Tryz.prog 50:=bd Tryz.func50
def KH (p0 p1 p2:Value) (K:Value→World→Prop):World→Prop :=
 xC 64 [.const p0] [91] 4 fun t9 =>
 xW t9
 (xC 31 [.const (.int .i64 13)] [34] 30 fun t10 =>
 K t10) <|
 xC 83 [.const p1,.const p2] [3,3] 4 fun t13 =>
 xN 4 t13 fun t14 =>
 xW t14
 (xC 31 [.const (.int .i64 1)] [34] 30 fun t15 =>
 K t15) <|
 OpX Tryz.prog (.build 49 #[(2,.const p1),(3,.const p2)]) 49 fun t18 =>
 xA 49 fun t7 =>
 xS 49 t7 t18 <|
 Aj <|
 xP (.nilCheck (.const p0)) 0 fun t20 =>
 qF 149 t20 0 fun t21 =>
 qL 147 t21 fun t22 =>
 qL 49 t7 fun t23 =>
 xC 106 [.const t22,.const t23] [147,49] 4 fun t24 =>
 xP (.unOp .not 4 (.const t24)) 4 fun t25 =>
 xW t25
 (xC 31 [.const (.int .i64 19)] [34] 30 fun t26 =>
 K t26) <|
 xL 49 t7 fun t28 =>
 OpX Tryz.prog (.nilCheck (.const p0)) 0 fun t29 =>
 xF 149 t29 1 fun t30 =>
 xS 49 t30 t28 <|
 K .nilIface
theorem ZE (p0 p1 p2:Value):Lk 59 #[p0,p1,p2] (KH p0 p1 p2):=lk [p0,p1,p2] [] Tryz.func59
theorem IY:Ad Tryz.prog 59:=bd Tryz.func59
def MC (p0:Value) (K:Value→World→Prop):World→Prop :=
 Join1 (fun k1 =>
 xO .eql 91 p0 (.pointer none) fun t4 =>
 xW t4
 (k1 (.bool true)) <|
 OpX Tryz.prog (.nilCheck (.const p0)) 0 fun t7 =>
 xF 149 t7 0 fun t8 =>
 xL 147 t8 fun t9 =>
 xO .eql 147 t9 (.pointer none) fun t10 =>
 k1 t10) fun t2 =>
 K t2
theorem RM (p0:Value):Lk 64 #[p0] (MC p0):=lk [p0] [(3,[2])] Tryz.func64
theorem E4:Ad Tryz.prog 64:=bd Tryz.func64
def Jt (p0 p1:Value) (K:Value→World→Prop):World→Prop :=
 xB 147 p0 fun t2 =>
 xB 49 p1 fun t3 =>
 OpX Tryz.prog (.makeFunc (.func 109) #[] #[.const t2,.const t3]) 145 fun t5 =>
 K t5
theorem YH (p0 p1:Value):Lk 65 #[p0,p1] (Jt p0 p1):=lk [p0,p1] [] Tryz.func65
theorem Wj:Ad Tryz.prog 65:=bd Tryz.func65
def OI (p0:Value) (K:Value→World→Prop):World→Prop :=
 OpX Tryz.prog (.nilCheck (.const p0)) 0 fun t4 =>
 xF 152 t4 4 fun t5 =>
 xL 147 t5 fun t6 =>
 xO .eql 147 t6 (.pointer none) fun t7 =>
 K t7
theorem QB (p0:Value):Lk 66 #[p0] (OI p0):=lk [p0] [] Tryz.func66
theorem DD:Ad Tryz.prog 66:=bd Tryz.func66
def OU (p0 p1:Value) (K:Value→World→Prop):World→Prop :=
 xB 49 p1 fun t3 =>
 xA 49 fun t4 =>
 xA 49 fun t5 =>
 xA 49 fun t6 =>
 Aj <|
 qL 49 t3 fun t9 =>
 xP (.nilCheck (.const p0)) 0 fun t11 =>
 qF 152 t11 1 fun t12 =>
 qL 4 t12 fun t13 =>
 xC 124 [.const t9,.const t13] [49,4] 3 fun t14 =>
 xC 123 [.const p0,.const t14] [147,3] 3 fun t15 =>
 Aj <|
 qL 49 t3 fun t16 =>
 qL 49 t3 fun t17 =>
 qL 49 t3 fun t18 =>
 xS 49 t4 t16 <|
 xT (qZ 49 t3 t18) <|
 xT (qZ 49 t3 t17) <|
 xS 49 t5 t17 <|
 xT (qZ 49 t3 t18) <|
 xS 49 t6 t18 <|
 Join0 (fun k1 =>
 OpX Tryz.prog (.nilCheck (.const p0)) 0 fun t20 =>
 xF 152 t20 1 fun t21 =>
 xL 4 t21 fun t22 =>
 xW t22
 (xF 49 t4 2 fun t24 =>
 xS 3 t24 t15 <|
 xF 49 t5 2 fun t25 =>
 xS 3 t25 (.int .i64 1) <|
 xF 49 t3 0 fun t26 =>
 xL 3 t26 fun t27 =>
 xO .add 3 t27 t15 fun t29 =>
 xF 49 t5 0 fun t30 =>
 xS 3 t30 t29 <|
 Aj <|
 qF 49 t3 0 fun t31 =>
 qL 3 t31 fun t32 =>
 qP .add 3 t32 t15 fun t34 =>
 qP .add 3 t34 (.int .i64 1) fun t35 =>
 qF 49 t3 2 fun t36 =>
 qL 3 t36 fun t37 =>
 qP .sub 3 t37 t15 fun t39 =>
 qP .sub 3 t39 (.int .i64 1) fun t40 =>
 qF 49 t6 0 fun t41 =>
 xS 3 t41 t35 <|
 xT (qZ 3 t36 t37) <|
 qF 49 t6 2 fun t42 =>
 xS 3 t42 t40 <|
 k1) <|
 xF 49 t4 3 fun t44 =>
 xS 3 t44 t15 <|
 xF 49 t5 3 fun t45 =>
 xS 3 t45 (.int .i64 1) <|
 xF 49 t3 1 fun t46 =>
 xL 3 t46 fun t47 =>
 xO .add 3 t47 t15 fun t49 =>
 xF 49 t5 1 fun t50 =>
 xS 3 t50 t49 <|
 Aj <|
 qF 49 t3 1 fun t51 =>
 qL 3 t51 fun t52 =>
 qP .add 3 t52 t15 fun t54 =>
 qP .add 3 t54 (.int .i64 1) fun t55 =>
 qF 49 t3 3 fun t56 =>
 qL 3 t56 fun t57 =>
 qP .sub 3 t57 t15 fun t59 =>
 qP .sub 3 t59 (.int .i64 1) fun t60 =>
 qF 49 t6 1 fun t61 =>
 xS 3 t61 t55 <|
 xT (qZ 3 t56 t57) <|
 qF 49 t6 3 fun t62 =>
 xS 3 t62 t60 <|
 k1) <|
 Aj <|
 qL 49 t4 fun t63 =>
 qL 49 t5 fun t64 =>
 qL 49 t6 fun t65 =>
 xS 49 t4 t63 <|
 xT (qZ 49 t6 t65) <|
 xT (qZ 49 t5 t64) <|
 xS 49 t5 t64 <|
 xT (qZ 49 t6 t65) <|
 xS 49 t6 t65 <|
 xD 49 t4 fun t4_1 =>
 xD 49 t5 fun t5_1 =>
 xD 49 t6 fun t6_1 =>
 K (.tuple #[t4_1,t5_1,t6_1])
theorem V6 (p0 p1:Value):Lk 77 #[p0,p1] (OU p0 p1):=lk [p0,p1] [(6,[])] Tryz.func77
theorem G5:Ad Tryz.prog 77:=bd Tryz.func77
def Nn (p0 p1:Value) (K:Value→World→Prop):World→Prop :=
 Join1 (fun k1 =>
 xO .geq 3 p0 (.int .i64 1) fun t6 =>
 xW t6
 (xO .leq 3 p0 (.int .i64 200) fun t9 =>
 xW t9
 (xO .geq 3 p1 (.int .i64 1) fun t13 =>
 xW t13
 (xO .leq 3 p1 (.int .i64 60) fun t17 =>
 k1 t17) <|
 k1 (.bool false)) <|
 k1 (.bool false)) <|
 k1 (.bool false)) fun t4 =>
 K t4
theorem PM (p0 p1:Value):Lk 83 #[p0,p1] (Nn p0 p1):=lk [p0,p1] [(3,[4])] Tryz.func83
theorem Jn:Ad Tryz.prog 83:=bd Tryz.func83
def MD (p0 p1:Value) (K:Value→World→Prop):World→Prop :=
 xC 36 [.const p0] [91] 37 fun t9 =>
 xU t9 37 fun t11 =>
 Loop1 (.int .i64 0) fun t12 next1 =>
 xO .lss 3 t12 t11 fun t13 =>
 xW t13
 (xI 37 t9 t12 fun t15 =>
 xL 51 t15 fun t16 =>
 xA 51 fun t7 =>
 xS 51 t7 t16 <|
 xF 51 t7 0 fun t17 =>
 xL 3 t17 fun t18 =>
 xO .eql 3 t18 p1 fun t20 =>
 xW t20
 (xO .add 3 t12 (.int .i64 1) fun t23 =>
 xU t9 37 fun t25 =>
 xO .rem 3 t23 t25 fun t26 =>
 xI 37 t9 t26 fun t27 =>
 xF 51 t27 0 fun t28 =>
 xL 3 t28 fun t29 =>
 K t29) <|
 xO .add 3 t12 (.int .i64 1) fun t30 =>
 next1 t30) <|
 K (.int .i64 0)
theorem PW (p0 p1:Value):Lk 94 #[p0,p1] (MD p0 p1):=lk [p0,p1] [(8,[12])] Tryz.func94
theorem M8:Ad Tryz.prog 94:=bd Tryz.func94
def Hw (p0 p1:Value) (K:Value→World→Prop):World→Prop :=
 xB 49 p1 fun t3 =>
 xC 66 [.const p0] [147] 4 fun t9 =>
 xW t9
 (K (.bool true)) <|
 Aj <|
 qL 49 t3 fun t10 =>
 xP (.nilCheck (.const p0)) 0 fun t12 =>
 qF 152 t12 1 fun t13 =>
 qL 4 t13 fun t14 =>
 xC 124 [.const t10,.const t14] [49,4] 3 fun t15 =>
 qP .lss 3 t15 (.int .i64 3) fun t16 =>
 xW t16
 (K (.bool false)) <|
 xL 49 t3 fun t19 =>
 xC 77 [.const p0,.const t19] [147,49] 170 fun t20 =>
 xE t20 0 49 fun t21 =>
 xE t20 1 49 fun t22 =>
 xE t20 2 49 fun t23 =>
 xA 49 fun t5 =>
 xA 49 fun t6 =>
 xA 49 fun t7 =>
 xS 49 t5 t21 <|
 xS 49 t6 t22 <|
 xS 49 t7 t23 <|
 Aj <|
 Join1 (fun k1 =>
 xP (.nilCheck (.const p0)) 0 fun t25 =>
 qF 152 t25 4 fun t26 =>
 qL 147 t26 fun t27 =>
 qL 49 t5 fun t28 =>
 xC 106 [.const t27,.const t28] [147,49] 4 fun t29 =>
 xW t29
 (xP (.nilCheck (.const p0)) 0 fun t32 =>
 qF 152 t32 5 fun t33 =>
 qL 147 t33 fun t34 =>
 qL 49 t7 fun t35 =>
 xC 106 [.const t34,.const t35] [147,49] 4 fun t36 =>
 k1 t36) <|
 k1 (.bool false)) fun t4 =>
 K t4
theorem Oj (p0 p1:Value):Lk 106 #[p0,p1] (Hw p0 p1):=lk [p0,p1] [(21,[4])] Tryz.func106
theorem GK:Ad Tryz.prog 106:=bd Tryz.func106
def My (p0 p1 p2:Value) (K:Value→World→Prop):World→Prop :=
 xL 147 p1 fun t4 =>
 xL 49 p2 fun t5 =>
 xC 110 [.const t4,.const t5,.const p0] [147,49,216] 4 fun _ =>
 K (.tuple #[])
theorem WU (p0 p1 p2:Value):Lk 109 #[p0,p1,p2] (My p0 p1 p2):=lk [p0,p1,p2] [] Tryz.func109
theorem UJ:Ad Tryz.prog 109:=bd Tryz.func109
def HX (p0 p1 p2:Value) (K:Value→World→Prop):World→Prop :=
 xB 49 p1 fun t4 =>
 xC 66 [.const p0] [147] 4 fun t11 =>
 xW t11
 (xL 49 t4 fun t14 =>
 OpX Tryz.prog (.call { callee:=.value (.const p2),args:=#[.const p0,.const t14],argTypes:=#[147,49] }) 4 fun t15 =>
 K t15) <|
 xL 49 t4 fun t18 =>
 xC 77 [.const p0,.const t18] [147,49] 170 fun t19 =>
 xE t19 0 49 fun t20 =>
 xE t19 1 49 fun t21 =>
 xE t19 2 49 fun t22 =>
 xA 49 fun t7 =>
 xA 49 fun t8 =>
 xA 49 fun t9 =>
 xS 49 t7 t20 <|
 xS 49 t8 t21 <|
 xS 49 t9 t22 <|
 Aj <|
 Join1 (fun k1 =>
 xP (.nilCheck (.const p0)) 0 fun t24 =>
 qF 152 t24 4 fun t25 =>
 qL 147 t25 fun t26 =>
 qL 49 t7 fun t27 =>
 xC 110 [.const t26,.const t27,.const p2] [147,49,216] 4 fun t29 =>
 xW t29
 (qL 49 t4 fun t33 =>
 OpX Tryz.prog (.call { callee:=.value (.const p2),args:=#[.const p0,.const t33],argTypes:=#[147,49] }) 4 fun t34 =>
 xW t34
 (xP (.nilCheck (.const p0)) 0 fun t38 =>
 qF 152 t38 5 fun t39 =>
 qL 147 t39 fun t40 =>
 qL 49 t9 fun t41 =>
 xC 110 [.const t40,.const t41,.const p2] [147,49,216] 4 fun t43 =>
 k1 t43) <|
 k1 (.bool false)) <|
 k1 (.bool false)) fun t6 =>
 K t6
theorem L7 (p0 p1 p2:Value):Lk 110 #[p0,p1,p2] (HX p0 p1 p2):=lk [p0,p1,p2] [(13,[6])] Tryz.func110
theorem H9:Ad Tryz.prog 110:=bd Tryz.func110
def OV (p0 p1:Value) (K:Value→World→Prop):World→Prop :=
 Aj <|
 qP .sub 3 p1 (.int .i64 1) fun t6 =>
 xP (.nilCheck (.const p0)) 0 fun t8 =>
 qF 152 t8 2 fun t9 =>
 qL 3 t9 fun t10 =>
 qP .mul 3 t6 t10 fun t11 =>
 xP (.nilCheck (.const p0)) 0 fun t13 =>
 qF 152 t13 3 fun t14 =>
 qL 3 t14 fun t15 =>
 qP .quo 3 t11 t15 fun t16 =>
 xP (.call { callee:=.builtin .max,args:=#[.const t16,.const (.int .i64 1)],argTypes:=#[3,3] }) 3 fun t17 =>
 qP .sub 3 p1 (.int .i64 2) fun t19 =>
 xP (.call { callee:=.builtin .min,args:=#[.const t17,.const t19],argTypes:=#[3,3] }) 3 fun t20 =>
 K t20
theorem Wm (p0 p1:Value):Lk 123 #[p0,p1] (OV p0 p1):=lk [p0,p1] [] Tryz.func123
theorem JP:Ad Tryz.prog 123:=bd Tryz.func123
def Mr (p0 p1:Value) (K:Value→World→Prop):World→Prop :=
 xB 49 p0 fun t2 =>
 xW p1
 (xF 49 t2 2 fun t6 =>
 xL 3 t6 fun t7 =>
 K t7) <|
 xF 49 t2 3 fun t8 =>
 xL 3 t8 fun t9 =>
 K t9
theorem TB (p0 p1:Value):Lk 124 #[p0,p1] (Mr p0 p1):=lk [p0,p1] [] Tryz.func124
theorem GG:Ad Tryz.prog 124:=bd Tryz.func124
def Oe (p0 p1 p2:Value) (K:Value→World→Prop):World→Prop :=
 xB 91 p0 fun t3 =>
 xB 3 p1 fun t4 =>
 xB 4 p2 fun t5 =>
 xL 91 t3 fun t11 =>
 xC 64 [.const t11] [91] 4 fun t12 =>
 xW t12
 (xC 31 [.const (.int .i64 13)] [34] 30 fun t13 =>
 K (.tuple #[(.int .i64 0),t13])) <|
 xL 91 t3 fun t14 =>
 xC 36 [.const t14] [91] 37 fun t15 =>
 xA 37 fun t8 =>
 xS 37 t8 t15 <|
 xA 3 fun t9 =>
 xS 3 t9 (.int .i64 0) <|
 xL 91 t3 fun t16 =>
 xL 3 t4 fun t17 =>
 OpX Tryz.prog (.makeFunc (.func 174) #[] #[.const t5,.const t8,.const t3,.const t9,.const t4]) 283 fun t18 =>
 xC 173 [.const t16,.const t17,.const t18] [91,3,283] 4 fun t19 =>
 xN 4 t19 fun t22 =>
 xW t22
 (xC 31 [.const (.int .i64 12)] [34] 30 fun t23 =>
 K (.tuple #[(.int .i64 0),t23])) <|
 xL 37 t8 fun t25 =>
 xU t25 37 fun t26 =>
 xO .geq 3 t26 (.int .i64 16) fun t27 =>
 xW t27
 (xC 31 [.const (.int .i64 15)] [34] 30 fun t28 =>
 K (.tuple #[(.int .i64 0),t28])) <|
 xL 3 t9 fun t30 =>
 xO .eql 3 t30 (.int .i64 0) fun t31 =>
 xW t31
 (xC 31 [.const (.int .i64 19)] [34] 30 fun t32 =>
 K (.tuple #[(.int .i64 0),t32])) <|
 xL 91 t3 fun t33 =>
 xL 3 t9 fun t34 =>
 OpX Tryz.prog (.nilCheck (.const t33)) 0 fun t35 =>
 xF 149 t35 2 fun t36 =>
 xS 3 t36 t34 <|
 xL 3 t9 fun t37 =>
 K (.tuple #[t37,.nilIface])
theorem XP (p0 p1 p2:Value):Lk 131 #[p0,p1,p2] (Oe p0 p1 p2):=lk [p0,p1,p2] [] Tryz.func131
theorem Zb:Ad Tryz.prog 131:=bd Tryz.func131
def Kh (p0 p1 p2 p3:Value) (K:Value→World→Prop):World→Prop :=
 xC 64 [.const p0] [91] 4 fun t17 =>
 xW t17
 (xC 31 [.const (.int .i64 13)] [34] 30 fun t18 =>
 K t18) <|
 Aj <|
 xP (.nilCheck (.const p0)) 0 fun t20 =>
 qF 149 t20 0 fun t21 =>
 qL 147 t21 fun t22 =>
 xP (.nilCheck (.const p0)) 0 fun t24 =>
 qF 149 t24 1 fun t25 =>
 qL 49 t25 fun t26 =>
 xC 176 [.const t22,.const t26,.const p1] [147,49,3] 284 fun t28 =>
 xU t28 284 fun t30 =>
 xO .eql 3 t30 (.int .i64 0) fun t31 =>
 xW t31
 (xC 31 [.const (.int .i64 12)] [34] 30 fun t32 =>
 K t32) <|
 xU t28 284 fun t34 =>
 xO .sub 3 t34 (.int .i64 2) fun t35 =>
 Loop1 t35 fun t10 next1 =>
 xO .geq 3 t10 (.int .i64 0) fun t37 =>
 xW t37
 (xI 284 t28 t10 fun t42 =>
 xF 287 t42 0 fun t43 =>
 xL 147 t43 fun t44 =>
 OpX Tryz.prog (.nilCheck (.const t44)) 0 fun t46 =>
 xF 152 t46 1 fun t47 =>
 xL 4 t47 fun t48 =>
 xO .neq 4 t48 p2 fun t50 =>
 xW t50
 (xO .sub 3 t10 (.int .i64 1) fun t39 =>
 next1 t39) <|
 xI 284 t28 t10 fun t53 =>
 xF 287 t53 1 fun t54 =>
 xL 49 t54 fun t55 =>
 xC 124 [.const t55,.const p2] [49,4] 3 fun t57 =>
 xC 123 [.const t44,.const t57] [147,3] 3 fun t60 =>
 OpX Tryz.prog (.call { callee:=.builtin .max,args:=#[.const p3,.const (.int .i64 (-200))],argTypes:=#[3,3] }) 3 fun t62 =>
 OpX Tryz.prog (.call { callee:=.builtin .min,args:=#[.const t62,.const (.int .i64 200)],argTypes:=#[3,3] }) 3 fun t63 =>
 xO .add 3 t60 t63 fun t64 =>
 Aj <|
 xP (.nilCheck (.const t44)) 0 fun t66 =>
 qF 152 t66 2 fun t67 =>
 qL 3 t67 fun t68 =>
 xP (.nilCheck (.const t44)) 0 fun t70 =>
 qF 152 t70 3 fun t71 =>
 qL 3 t71 fun t72 =>
 OpX Tryz.prog (.call { callee:=.builtin .max,args:=#[.const t64,.const (.int .i64 1)],argTypes:=#[3,3] }) 3 fun t76 =>
 xO .sub 3 t57 (.int .i64 2) fun t78 =>
 OpX Tryz.prog (.call { callee:=.builtin .min,args:=#[.const t76,.const t78],argTypes:=#[3,3] }) 3 fun t79 =>
 xO .sub 3 t57 (.int .i64 1) fun t81 =>
 OpX Tryz.prog (.nilCheck (.const t44)) 0 fun t82 =>
 xF 152 t82 2 fun t83 =>
 xS 3 t83 t79 <|
 OpX Tryz.prog (.nilCheck (.const t44)) 0 fun t84 =>
 xF 152 t84 3 fun t85 =>
 xS 3 t85 t81 <|
 Aj <|
 xP (.nilCheck (.const p0)) 0 fun t87 =>
 qF 149 t87 0 fun t88 =>
 qL 147 t88 fun t89 =>
 xP (.nilCheck (.const p0)) 0 fun t91 =>
 qF 149 t91 1 fun t92 =>
 qL 49 t92 fun t93 =>
 xC 106 [.const t89,.const t93] [147,49] 4 fun t94 =>
 xP (.unOp .not 4 (.const t94)) 4 fun t95 =>
 xW t95
 (OpX Tryz.prog (.nilCheck (.const t44)) 0 fun t100 =>
 xF 152 t100 2 fun t101 =>
 xS 3 t101 t68 <|
 OpX Tryz.prog (.nilCheck (.const t44)) 0 fun t102 =>
 xF 152 t102 3 fun t103 =>
 xS 3 t103 t72 <|
 xC 31 [.const (.int .i64 19)] [34] 30 fun t104 =>
 K t104) <|
 K .nilIface) <|
 xC 31 [.const (.int .i64 13)] [34] 30 fun t105 =>
 K t105
theorem ZN (p0 p1 p2 p3:Value):Lk 134 #[p0,p1,p2,p3] (Kh p0 p1 p2 p3):=lk [p0,p1,p2,p3] [(24,[10])] Tryz.func134
theorem Xx:Ad Tryz.prog 134:=bd Tryz.func134
def Oh (p0 p1 p2:Value) (K:Value→World→Prop):World→Prop :=
 Aj <|
 xP (.nilCheck (.const p0)) 0 fun t10 =>
 qF 149 t10 0 fun t11 =>
 qL 147 t11 fun t12 =>
 xP (.nilCheck (.const p0)) 0 fun t14 =>
 qF 149 t14 1 fun t15 =>
 qL 49 t15 fun t16 =>
 xC 176 [.const t12,.const t16,.const p1] [147,49,3] 284 fun t18 =>
 xU t18 284 fun t20 =>
 xO .eql 3 t20 (.int .i64 0) fun t21 =>
 xW t21
 (K (.bool false)) <|
 xU t18 284 fun t24 =>
 xO .sub 3 t24 (.int .i64 1) fun t25 =>
 xI 284 t18 t25 fun t26 =>
 xL 287 t26 fun t27 =>
 xA 287 fun t8 =>
 xS 287 t8 t27 <|
 xF 287 t8 0 fun t29 =>
 xL 147 t29 fun t30 =>
 xF 287 t8 1 fun t31 =>
 xL 49 t31 fun t32 =>
 OpX Tryz.prog (.call { callee:=.value (.const p2),args:=#[.const t30,.const t32],argTypes:=#[147,49] }) 0 fun _ =>
 K (.bool true)
theorem ZQ (p0 p1 p2:Value):Lk 173 #[p0,p1,p2] (Oh p0 p1 p2):=lk [p0,p1,p2] [] Tryz.func173
theorem XY:Ad Tryz.prog 173:=bd Tryz.func173
def Oz (p0 p1 p2 p3 p4 p5 p6:Value) (K:Value→World→Prop):World→Prop :=
 xB 49 p1 fun t8 =>
 xL 49 t8 fun t10 =>
 xL 4 p2 fun t11 =>
 xC 124 [.const t10,.const t11] [49,4] 3 fun t12 =>
 Join1 (fun k1 =>
 xO .lss 3 t12 (.int .i64 3) fun t14 =>
 xW t14
 (k1 (.bool true)) <|
 xL 37 p3 fun t16 =>
 xU t16 37 fun t17 =>
 xO .geq 3 t17 (.int .i64 16) fun t18 =>
 k1 t18) fun t19 =>
 xW t19
 (K (.tuple #[])) <|
 xL 91 p4 fun t20 =>
 OpX Tryz.prog (.nilCheck (.const t20)) 0 fun t21 =>
 xF 149 t21 2 fun t22 =>
 xL 3 t22 fun t23 =>
 xO .add 3 t23 (.int .i64 1) fun t24 =>
 xS 3 p5 t24 <|
 xL 4 p2 fun t26 =>
 xO .quo 3 t12 (.int .i64 2) fun t28 =>
 xO .sub 3 t12 (.int .i64 1) fun t30 =>
 xL 3 p6 fun t31 =>
 OpX Tryz.prog (.build 152 #[(0,.const t31)]) 152 fun t32 =>
 OpX Tryz.prog (.box 152 (.const t32)) 147 fun t33 =>
 xL 3 p5 fun t34 =>
 OpX Tryz.prog (.build 152 #[(0,.const t34)]) 152 fun t35 =>
 OpX Tryz.prog (.box 152 (.const t35)) 147 fun t36 =>
 OpX Tryz.prog (.build 152 #[(1,.const t26),(2,.const t28),(3,.const t30),(4,.const t33),(5,.const t36)]) 152 fun t37 =>
 OpX Tryz.prog (.nilCheck (.const p0)) 0 fun t38 =>
 xS 152 t38 t37 <|
 K (.tuple #[])
theorem Qv (p0 p1 p2 p3 p4 p5 p6:Value):Lk 174 #[p0,p1,p2,p3,p4,p5,p6] (Oz p0 p1 p2 p3 p4 p5 p6):=lk [p0,p1,p2,p3,p4,p5,p6] [(6,[19])] Tryz.func174
theorem Xu:Ad Tryz.prog 174:=bd Tryz.func174
def MV (p0 p1:Value) (K:Value→World→Prop):World→Prop :=
 xC 64 [.const p0] [91] 4 fun t9 =>
 xW t9
 (xC 31 [.const (.int .i64 13)] [34] 30 fun t10 =>
 K t10) <|
 Aj <|
 xP (.nilCheck (.const p0)) 0 fun t12 =>
 qF 149 t12 0 fun t13 =>
 qL 147 t13 fun t14 =>
 xP (.nilCheck (.const p0)) 0 fun t16 =>
 qF 149 t16 1 fun t17 =>
 qL 49 t17 fun t18 =>
 xC 176 [.const t14,.const t18,.const p1] [147,49,3] 284 fun t20 =>
 xU t20 284 fun t22 =>
 xO .eql 3 t22 (.int .i64 0) fun t23 =>
 xW t23
 (xC 31 [.const (.int .i64 12)] [34] 30 fun t24 =>
 K t24) <|
 xU t20 284 fun t26 =>
 xO .eql 3 t26 (.int .i64 1) fun t27 =>
 xW t27
 (xC 31 [.const (.int .i64 13)] [34] 30 fun t28 =>
 K t28) <|
 xU t20 284 fun t31 =>
 xO .sub 3 t31 (.int .i64 2) fun t32 =>
 xI 284 t20 t32 fun t33 =>
 xF 287 t33 0 fun t34 =>
 xL 147 t34 fun t35 =>
 OpX Tryz.prog (.nilCheck (.const t35)) 0 fun t37 =>
 xF 152 t37 4 fun t38 =>
 xL 147 t38 fun t39 =>
 Join1 (fun k1 =>
 xU t20 284 fun t43 =>
 xO .sub 3 t43 (.int .i64 1) fun t44 =>
 xI 284 t20 t44 fun t45 =>
 xF 287 t45 0 fun t46 =>
 xL 147 t46 fun t47 =>
 xO .eql 147 t39 t47 fun t48 =>
 xW t48
 (OpX Tryz.prog (.nilCheck (.const t35)) 0 fun t50 =>
 xF 152 t50 5 fun t51 =>
 xL 147 t51 fun t52 =>
 k1 t52) <|
 k1 t39) fun t7 =>
 OpX Tryz.prog (.nilCheck (.const t7)) 0 fun t55 =>
 xL 152 t55 fun t56 =>
 OpX Tryz.prog (.nilCheck (.const t35)) 0 fun t57 =>
 xS 152 t57 t56 <|
 K .nilIface
theorem RX (p0 p1:Value):Lk 175 #[p0,p1] (MV p0 p1):=lk [p0,p1] [(32,[7])] Tryz.func175
theorem Vi:Ad Tryz.prog 175:=bd Tryz.func175
def Hj (p0 p1 p2:Value) (K:Value→World→Prop):World→Prop :=
 xB 49 p1 fun t4 =>
 xL 49 t4 fun t13 =>
 OpX Tryz.prog (.build 287 #[(0,.const p0),(1,.const t13)]) 287 fun t14 =>
 xA 287 fun t7 =>
 xS 287 t7 t14 <|
 xC 66 [.const p0] [147] 4 fun t16 =>
 xW t16
 (OpX Tryz.prog (.nilCheck (.const p0)) 0 fun t18 =>
 xF 152 t18 0 fun t19 =>
 xL 3 t19 fun t20 =>
 xO .eql 3 t20 p2 fun t22 =>
 xW t22
 (xL 287 t7 fun t23 =>
 OpX Tryz.prog (.buildSlice 284 1 #[(0,.const t23)]) 284 fun t24 =>
 K t24) <|
 K (.slice none 0 0)) <|
 xL 49 t4 fun t27 =>
 xC 77 [.const p0,.const t27] [147,49] 170 fun t28 =>
 xE t28 0 49 fun t29 =>
 xE t28 1 49 fun t30 =>
 xE t28 2 49 fun t31 =>
 xA 49 fun t8 =>
 xA 49 fun t9 =>
 xA 49 fun t10 =>
 xS 49 t8 t29 <|
 xS 49 t9 t30 <|
 xS 49 t10 t31 <|
 Aj <|
 xP (.nilCheck (.const p0)) 0 fun t33 =>
 qF 152 t33 4 fun t34 =>
 qL 147 t34 fun t35 =>
 qL 49 t8 fun t36 =>
 xC 176 [.const t35,.const t36,.const p2] [147,49,3] 284 fun t38 =>
 Join1 (fun k1 =>
 xO .eql 284 t38 (.slice none 0 0) fun t40 =>
 xW t40
 (Aj <|
 xP (.nilCheck (.const p0)) 0 fun t42 =>
 qF 152 t42 5 fun t43 =>
 qL 147 t43 fun t44 =>
 qL 49 t10 fun t45 =>
 xC 176 [.const t44,.const t45,.const p2] [147,49,3] 284 fun t47 =>
 k1 t47) <|
 k1 t38) fun t11 =>
 xO .eql 284 t11 (.slice none 0 0) fun t49 =>
 xW t49
 (K (.slice none 0 0)) <|
 xL 287 t7 fun t50 =>
 OpX Tryz.prog (.buildSlice 284 1 #[(0,.const t50)]) 284 fun t51 =>
 OpX Tryz.prog (.call { callee:=.builtin .append,args:=#[.const t51,.const t11],argTypes:=#[284,284] }) 284 fun t53 =>
 K t53
theorem Lf (p0 p1 p2:Value):Lk 176 #[p0,p1,p2] (Hj p0 p1 p2):=lk [p0,p1,p2] [(24,[11])] Tryz.func176
theorem Fe:Ad Tryz.prog 176:=bd Tryz.func176
def LA (p0 p1:Value) (K:Value→World→Prop):World→Prop :=
 xB 184 p0 fun t2 =>
 xL 184 t2 fun t13 =>
 xO .eql 184 t13 (.pointer none) fun t14 =>
 xW t14
 (K (.slice none 0 0)) <|
 xA 122 fun t5 =>
 xA 47 fun t6 =>
 OpX Tryz.prog (.makeFunc (.func 86) #[] #[.const t6,.const t5]) 1 fun t15 =>
 xA 1 fun t7 =>
 xS 1 t7 t15 <|
 OpX Tryz.prog (.makeFunc (.func 87) #[] #[.const t7,.const t5,.const t2]) 187 fun t16 =>
 xU p1 9 fun t18 =>
 Loop1 (.int .i64 0) fun t19 next1 =>
 xO .lss 3 t19 t18 fun t20 =>
 xW t20
 (Join0 (fun k2 =>
 OpX Tryz.prog (.index 9 (.const p1) (.const t19)) 5 fun t24 =>
 xL 184 t2 fun t35 =>
 OpX Tryz.prog (.nilCheck (.const t35)) 0 fun t36 =>
 xF 78 t36 1 fun t37 =>
 xL 4 t37 fun t38 =>
 xW t38
 (xL 184 t2 fun t39 =>
 OpX Tryz.prog (.nilCheck (.const t39)) 0 fun t40 =>
 xF 78 t40 1 fun t41 =>
 xS 4 t41 (.bool false) <|
 xO .eql 5 t24 (.int .u8 2) fun t43 =>
 xW t43
 (xL 47 t6 fun t44 =>
 OpX Tryz.prog (.buildSlice 47 1 #[(0,.const t24)]) 47 fun t46 =>
 OpX Tryz.prog (.call { callee:=.builtin .append,args:=#[.const t44,.const t46],argTypes:=#[47,47] }) 47 fun t47 =>
 xS 47 t6 t47 <|
 k2) <|
 xC 88 [.const (.string { data:=#[37,34,111,120,99,110,112,100,91,49,50,51,52,53,54,55,56,57,104,108,107,106] }),.const t24] [9,5] 3 fun t49 =>
 xO .geq 3 t49 (.int .i64 0) fun t51 =>
 xW t51
 (xC 89 [] [] 189 fun t53 =>
 OpX Tryz.prog (.index 189 (.const t53) (.const t49)) 186 fun t55 =>
 OpX Tryz.prog (.call { callee:=.value (.const t16),args:=#[.const t55],argTypes:=#[186] }) 0 fun _ =>
 k2) <|
 k2) <|
 xO .eql 5 t24 (.int .u8 2) fun t59 =>
 xW t59
 (xL 1 t7 fun t60 =>
 OpX Tryz.prog (.call { callee:=.value (.const t60),args:=#[],argTypes:=#[] }) 0 fun _ =>
 xL 184 t2 fun t62 =>
 OpX Tryz.prog (.nilCheck (.const t62)) 0 fun t63 =>
 xF 78 t63 1 fun t64 =>
 xS 4 t64 (.bool true) <|
 k2) <|
 xL 184 t2 fun t66 =>
 OpX Tryz.prog (.nilCheck (.const t66)) 0 fun t67 =>
 xF 78 t67 0 fun t68 =>
 xL 4 t68 fun t69 =>
 xN 4 t69 fun t70 =>
 xW t70
 (xL 47 t6 fun t71 =>
 OpX Tryz.prog (.buildSlice 47 1 #[(0,.const t24)]) 47 fun t73 =>
 OpX Tryz.prog (.call { callee:=.builtin .append,args:=#[.const t71,.const t73],argTypes:=#[47,47] }) 47 fun t74 =>
 xS 47 t6 t74 <|
 k2) <|
 xC 88 [.const (.string { data:=#[107,106,117,100,103,71,113] }),.const t24] [9,5] 3 fun t26 =>
 xO .geq 3 t26 (.int .i64 0) fun t28 =>
 xW t28
 (xC 90 [] [] 191 fun t30 =>
 OpX Tryz.prog (.index 191 (.const t30) (.const t26)) 186 fun t32 =>
 OpX Tryz.prog (.call { callee:=.value (.const t16),args:=#[.const t32],argTypes:=#[186] }) 0 fun _ =>
 k2) <|
 k2) <|
 xO .add 3 t19 (.int .i64 1) fun t75 =>
 next1 t75) <|
 xL 1 t7 fun t76 =>
 OpX Tryz.prog (.call { callee:=.value (.const t76),args:=#[],argTypes:=#[] }) 0 fun _ =>
 xL 122 t5 fun t78 =>
 K t78
theorem Tg (p0 p1:Value):Lk 52 #[p0,p1] (LA p0 p1):=lk [p0,p1] [(22,[19]),(29,[])] Tryz.func52
theorem WZ:Ad Tryz.prog 52:=bd Tryz.func52
def JU (p0 p1:Value) (K:Value→World→Prop):World→Prop :=
 xL 47 p0 fun t2 =>
 xU t2 47 fun t3 =>
 xO .gtr 3 t3 (.int .i64 0) fun t4 =>
 xW t4
 (xL 122 p1 fun t5 =>
 xL 47 p0 fun t6 =>
 OpX Tryz.prog (.convert 47 9 (.const t6)) 9 fun t7 =>
 OpX Tryz.prog (.build 125 #[(0,.const (.int .i64 1)),(2,.const t7)]) 125 fun t8 =>
 OpX Tryz.prog (.buildSlice 122 1 #[(0,.const t8)]) 122 fun t9 =>
 OpX Tryz.prog (.call { callee:=.builtin .append,args:=#[.const t5,.const t9],argTypes:=#[122,122] }) 122 fun t10 =>
 xS 122 p1 t10 <|
 xS 47 p0 (.slice none 0 0) <|
 K (.tuple #[])) <|
 K (.tuple #[])
theorem Wx (p0 p1:Value):Lk 86 #[p0,p1] (JU p0 p1):=lk [p0,p1] [] Tryz.func86
theorem HO:Ad Tryz.prog 86:=bd Tryz.func86
def Mo (p0 p1 p2 p3:Value) (K:Value→World→Prop):World→Prop :=
 xB 186 p0 fun t4 =>
 xL 1 p1 fun t5 =>
 OpX Tryz.prog (.call { callee:=.value (.const t5),args:=#[],argTypes:=#[] }) 0 fun _ =>
 xL 122 p2 fun t7 =>
 xF 186 t4 0 fun t8 =>
 xL 3 t8 fun t9 =>
 xF 186 t4 1 fun t10 =>
 xL 3 t10 fun t11 =>
 OpX Tryz.prog (.build 125 #[(0,.const t9),(1,.const t11)]) 125 fun t12 =>
 OpX Tryz.prog (.buildSlice 122 1 #[(0,.const t12)]) 122 fun t13 =>
 OpX Tryz.prog (.call { callee:=.builtin .append,args:=#[.const t7,.const t13],argTypes:=#[122,122] }) 122 fun t14 =>
 xS 122 p2 t14 <|
 xF 186 t4 0 fun t15 =>
 xL 3 t15 fun t16 =>
 xO .eql 3 t16 (.int .i64 14) fun t18 =>
 xW t18
 (xL 184 p3 fun t19 =>
 OpX Tryz.prog (.nilCheck (.const t19)) 0 fun t20 =>
 xF 78 t20 0 fun t21 =>
 xS 4 t21 (.bool true) <|
 K (.tuple #[])) <|
 xO .eql 3 t16 (.int .i64 12) fun t23 =>
 xW t23
 (xL 184 p3 fun t24 =>
 OpX Tryz.prog (.nilCheck (.const t24)) 0 fun t25 =>
 xF 78 t25 0 fun t26 =>
 xS 4 t26 (.bool false) <|
 K (.tuple #[])) <|
 K (.tuple #[])
theorem ZF (p0 p1 p2 p3:Value):Lk 87 #[p0,p1,p2,p3] (Mo p0 p1 p2 p3):=lk [p0,p1,p2,p3] [] Tryz.func87
theorem K1:Ad Tryz.prog 87:=bd Tryz.func87
def Mc (K:Value→World→Prop):World→Prop :=
 xA 189 fun t0 =>
 OpX Tryz.prog (.build 186 #[(0,.const (.int .i64 2)),(1,.const (.int .i64 0))]) 186 fun t1 =>
 OpX Tryz.prog (.build 186 #[(0,.const (.int .i64 3)),(1,.const (.int .i64 0))]) 186 fun t2 =>
 OpX Tryz.prog (.build 186 #[(0,.const (.int .i64 4)),(1,.const (.int .i64 0))]) 186 fun t3 =>
 OpX Tryz.prog (.build 186 #[(0,.const (.int .i64 5)),(1,.const (.int .i64 0))]) 186 fun t4 =>
 OpX Tryz.prog (.build 186 #[(0,.const (.int .i64 6)),(1,.const (.int .i64 0))]) 186 fun t5 =>
 OpX Tryz.prog (.build 186 #[(0,.const (.int .i64 7)),(1,.const (.int .i64 0))]) 186 fun t6 =>
 OpX Tryz.prog (.build 186 #[(0,.const (.int .i64 8)),(1,.const (.int .i64 0))]) 186 fun t7 =>
 OpX Tryz.prog (.build 186 #[(0,.const (.int .i64 13)),(1,.const (.int .i64 0))]) 186 fun t8 =>
 OpX Tryz.prog (.build 186 #[(0,.const (.int .i64 14)),(1,.const (.int .i64 0))]) 186 fun t9 =>
 OpX Tryz.prog (.build 186 #[(0,.const (.int .i64 9)),(1,.const (.int .i64 1))]) 186 fun t10 =>
 OpX Tryz.prog (.build 186 #[(0,.const (.int .i64 9)),(1,.const (.int .i64 2))]) 186 fun t11 =>
 OpX Tryz.prog (.build 186 #[(0,.const (.int .i64 9)),(1,.const (.int .i64 3))]) 186 fun t12 =>
 OpX Tryz.prog (.build 186 #[(0,.const (.int .i64 9)),(1,.const (.int .i64 4))]) 186 fun t13 =>
 OpX Tryz.prog (.build 186 #[(0,.const (.int .i64 9)),(1,.const (.int .i64 5))]) 186 fun t14 =>
 OpX Tryz.prog (.build 186 #[(0,.const (.int .i64 9)),(1,.const (.int .i64 6))]) 186 fun t15 =>
 OpX Tryz.prog (.build 186 #[(0,.const (.int .i64 9)),(1,.const (.int .i64 7))]) 186 fun t16 =>
 OpX Tryz.prog (.build 186 #[(0,.const (.int .i64 9)),(1,.const (.int .i64 8))]) 186 fun t17 =>
 OpX Tryz.prog (.build 186 #[(0,.const (.int .i64 9)),(1,.const (.int .i64 9))]) 186 fun t18 =>
 OpX Tryz.prog (.build 186 #[(0,.const (.int .i64 10)),(1,.const (.int .i64 1))]) 186 fun t19 =>
 OpX Tryz.prog (.build 186 #[(0,.const (.int .i64 10)),(1,.const (.int .i64 2))]) 186 fun t20 =>
 OpX Tryz.prog (.build 186 #[(0,.const (.int .i64 10)),(1,.const (.int .i64 3))]) 186 fun t21 =>
 OpX Tryz.prog (.build 186 #[(0,.const (.int .i64 10)),(1,.const (.int .i64 4))]) 186 fun t22 =>
 OpX Tryz.prog (.build 189 #[(0,.const t1),(1,.const t2),(2,.const t3),(3,.const t4),(4,.const t5),(5,.const t6),(6,.const t7),(7,.const t8),(8,.const t9),(9,.const t10),(10,.const t11),(11,.const t12),(12,.const t13),(13,.const t14),(14,.const t15),(15,.const t16),(16,.const t17),(17,.const t18),(18,.const t19),(19,.const t20),(20,.const t21),(21,.const t22)]) 189 fun t23 =>
 xS 189 t0 t23 <|
 xD 189 t0 fun t0_1 =>
 K t0_1
theorem S4:Lk 89 #[] (Mc):=lk [] [] Tryz.func89
theorem TS:Ad Tryz.prog 89:=bd Tryz.func89
def Li (K:Value→World→Prop):World→Prop :=
 xA 191 fun t0 =>
 OpX Tryz.prog (.build 186 #[(0,.const (.int .i64 11)),(1,.const (.int .i64 1))]) 186 fun t1 =>
 OpX Tryz.prog (.build 186 #[(0,.const (.int .i64 11)),(1,.const (.int .i64 (-1)))]) 186 fun t2 =>
 OpX Tryz.prog (.build 186 #[(0,.const (.int .i64 11)),(1,.const (.int .i64 10))]) 186 fun t3 =>
 OpX Tryz.prog (.build 186 #[(0,.const (.int .i64 11)),(1,.const (.int .i64 (-10)))]) 186 fun t4 =>
 OpX Tryz.prog (.build 186 #[(0,.const (.int .i64 11)),(1,.const (.int .i64 1000))]) 186 fun t5 =>
 OpX Tryz.prog (.build 186 #[(0,.const (.int .i64 11)),(1,.const (.int .i64 (-1000)))]) 186 fun t6 =>
 OpX Tryz.prog (.build 186 #[(0,.const (.int .i64 12)),(1,.const (.int .i64 0))]) 186 fun t7 =>
 OpX Tryz.prog (.build 191 #[(0,.const t1),(1,.const t2),(2,.const t3),(3,.const t4),(4,.const t5),(5,.const t6),(6,.const t7)]) 191 fun t8 =>
 xS 191 t0 t8 <|
 xD 191 t0 fun t0_1 =>
 K t0_1
theorem ZO:Lk 90 #[] (Li):=lk [] [] Tryz.func90
theorem W8:Ad Tryz.prog 90:=bd Tryz.func90
def JL (p0:Value) (K:Value→World→Prop):World→Prop :=
 xO .neq 184 p0 (.pointer none) fun t3 =>
 xW t3
 (OpX Tryz.prog (.nilCheck (.const p0)) 0 fun t5 =>
 xF 78 t5 0 fun t6 =>
 xS 4 t6 (.bool false) <|
 K (.tuple #[])) <|
 K (.tuple #[])
theorem TY (p0:Value):Lk 132 #[p0] (JL p0):=lk [p0] [] Tryz.func132
theorem Ye:Ad Tryz.prog 132:=bd Tryz.func132
def strings_IndexByte (p0 p1:Value) (K:Value→World→Prop):World→Prop :=
 xC 130 [.const p0,.const p1] [9,5] 3 fun t7 =>
 K t7
theorem I2:Ad Tryz.prog 88:=bd Tryz.func88
end Go.Proofs.YtelplojmbjnplaaGreatDoor
namespace Lyc
open Go
section
variable {P:Program}
@[go_sem] theorem EM (t ty:TypeId) (parts:List (Nat × Operand)) (K:Value→World→Prop) (w:World) (_ht:Ag P t=some 2) :
  OpX P (.build t parts.toArray) ty K w=OrK ((AB P t).bind fun z=>(A8 P t).bind fun nm=>(Bc parts).bind (Cu (Cb nm.2 nm.1 0) z.cells)) (fun c=>K (.agg c) w) (OpX P (.build t parts.toArray) ty K w) ():=by
 refine AF (fun c h=>?_) rfl
 obtain⟨z,hz,h⟩:=Option.bind_eq_some_iff.1 h
 obtain⟨⟨n,m⟩,hnm,h⟩:=Option.bind_eq_some_iff.1 h
 obtain⟨vs,hv,hf⟩:=Option.bind_eq_some_iff.1 h
 refine AW fun ρ hg=>?_
 unfold A8 at hnm
 cases hu:P.underlying t with
 | none=>rw[hu] at hnm;simp at hnm
 | some d =>
  rw[hu] at hnm
  cases d<;>simp at hnm
  rename_i len e
  obtain⟨hs,rfl⟩:=hnm
  have hfill:=FH (fun j=>some (j*m,m)) (Cb m len 0) (fun j x hx=>by simpa using Hy _ _ _ _ _ hx) vs z.cells c hf
  have hp:=D8 hg hv
  simp only[execOp,An,Instr.build,Sem.run_bind,Ds hz,Result.andThen_ok,run_underlying hu,Bh hs,List.map_toArray,hp,hfill]
  rfl
def MW (P:Program) (t:TypeId) (parts:List (Nat × Operand)):Option (Array Value) :=
 match Ag P t with
 | some 2=>(AB P t).bind fun z=>(A8 P t).bind fun nm=>(Bc parts).bind (Cu (Cb nm.2 nm.1 0) z.cells)
 | _=>(AB P t).bind fun z=>(AM P t).bind fun pl=>(Bc parts).bind (Cu pl z.cells)
theorem OpX.build {t ty:TypeId} {parts:List (Nat × Operand)} {K:Value→World→Prop} {w:World} {c:Array Value} (h:MW P t parts=some c) (hk:K (.agg c) w):OpX P (.build t parts.toArray) ty K w:=by
 unfold MW at h
 split at h
 ·rename_i ht
  rw[EM t ty parts K w ht,h];exact hk
 ·rw[KI,h];exact hk
theorem GQ (c:Array Value) (e:TypeId) (vs:List Value) (h:vs.length=c.size):Az (some (.cells c e (0,0))) 0 vs=some (.cells vs.toArray e):=by
 rw[CW,if_pos (by omega)]
 unfold spl
 simp [h]
theorem OpX.fresh {t ty ty':TypeId} {v z:Value} {M:Value→Value→World→Prop} {w:World} (hz:AB P t=some z) (hn:Ak P t=some v.cells.size) (hs:z.cells.size=v.cells.size) (hok:AP v.cells.toList=true)
  (h:M (.pointer (some ⟨w.heap.size,0,none⟩)) undef (w.alloc (.cells v.cells t))) :
  OpX P (.alloc t) ty (fun p w=>OpX P (.store t (.const p) (.const v)) ty' (M p) w) w:=by
 rw[H2,hz,Da,DZ _ _ _ _ _ _ _ hn hok,heap_alloc_new _ _ _ rfl,GQ _ _ _ (by simp [hs]),D4,HK _ _ _ _ rfl]
 exact h
def CV (P:Program) (e:TypeId) (cs:Array Value) (off:Nat):Option Value :=
 (Al P e).bind fun b=>bif b then(Ak P e).map fun n=>.agg (cs.extract off (off+n)) else cs[off]?
theorem HV {e:TypeId} {cs:Array Value} {off:Nat} {v:Value} (h:CV P e cs off=some v) (w:World):(part e cs off).run P w=.ok v w:=by
 unfold CV at h
 obtain⟨b,hb,h⟩:=Option.bind_eq_some_iff.1 h
 unfold part
 cases b with
 | true =>
  simp only[cond_true] at h
  obtain⟨n,hn,rfl⟩:=Option.map_eq_some_iff.1 h
  simp [FV hb,Bh hn]
 | false =>
  simp only[cond_false] at h
  simp [FV hb,h]
def Dn (P:Program) (t:TypeId) (cs:Array Value) (i:Int):Option Value :=
 (AA P t).bind fun e=>(A8 P t).bind fun nm=>if 0≤i∧i<nm.1 then CV P e cs (i.toNat*nm.2) else none
theorem Zc (t ty:TypeId) (cs:Array Value) (k:IntKind) (i:Int) (v:Value) (h:Dn P t cs i=some v):PureRun P (.index t (.const (.agg cs)) (.const (.int k i))) ty v:=by
 unfold Dn at h
 obtain⟨e,he,h⟩:=Option.bind_eq_some_iff.1 h
 obtain⟨⟨n,m⟩,hnm,h⟩:=Option.bind_eq_some_iff.1 h
 dsimp only at h
 split at h
 ·rename_i hi
  unfold A8 at hnm
  unfold AA at he
  cases hu:P.underlying t with
  | none=>rw[hu] at hnm;simp at hnm
  | some d =>
   rw[hu] at hnm he
   cases d<;>simp at hnm he
   rename_i len e'
   subst he
   obtain⟨hs,rfl⟩:=hnm
   exact⟨fun ρ hg w=>by
    have hp:=HV h w
    simp [execOp,An,hg.1,Instr.index,asIntOf,run_underlying hu,Bh hs,hi.1,hi.2,hp]⟩
 ·simp at h
@[go_sem] theorem ND (t ty:TypeId) (cs:Array Value) (k:IntKind) (i:Int) (K:Value→World→Prop) (w:World):OpX P (.index t (.const (.agg cs)) (.const (.int k i))) ty K w=OrK (Dn P t cs i) (fun v=>K v w) (OpX P (.index t (.const (.agg cs)) (.const (.int k i))) ty K w) () :=
 AF (fun v h=>(Zc t ty cs k i v h).op K w) rfl
def Tu (P:Program) (t:TypeId) (cs:Array Value) (i:Nat):Option Value :=
 (UA P t i).bind fun e=>(Ai P t i).bind fun p=>CV P e cs p.1
attribute [go_sem] Tu CV
def chL (s:ByteArray) (i:Int):Option Value:=if 0≤i then(s[i.toNat]?).map fun b=>.int .u8 b.toNat else none
theorem VH (t ty:TypeId) (s:ByteArray) (k:IntKind) (i:Int) (v:Value) (ht:Ag P t=some 3) (h:chL s i=some v):PureRun P (.index t (.const (.string s)) (.const (.int k i))) ty v:=by
 unfold chL at h
 split at h
 ·rename_i hi
  obtain⟨b,hb,rfl⟩:=Option.map_eq_some_iff.1 h
  exact⟨fun ρ hg w=>by simp [execOp,An,hg.1,Instr.index,asIntOf,run_underlying (GC ht),hi,hb]⟩
 ·simp at h
@[go_sem] theorem aD (t ty:TypeId) (s:ByteArray) (k:IntKind) (i:Int) (K:Value→World→Prop) (w:World) (ht:Ag P t=some 3):OpX P (.index t (.const (.string s)) (.const (.int k i))) ty K w=OrK (chL s i) (fun v=>K v w) (OpX P (.index t (.const (.string s)) (.const (.int k i))) ty K w) () :=
 AF (fun v h=>(VH t ty s k i v ht h).op K w) rfl
theorem NI (t ty:TypeId) (b o len cap n:Nat) (k k' k'':IntKind) (i j q:Int) (h:AI P t=some n) (h0:0≤i) (h1:i≤j) (h2:j≤q) (h3:q≤cap):PureRun P (.slice t (.const (.slice (some ⟨b,o,none⟩) len cap)) (some (.const (.int k i))) (some (.const (.int k' j))) (some (.const (.int k'' q)))) ty (.slice (some ⟨b,slo o q.toNat i.toNat n,none⟩) (j.toNat-i.toNat) (q.toNat-i.toNat)):=by
 obtain⟨e,hu,hs⟩:=CY h
 refine⟨fun ρ hg w=>?_⟩
 have h4:0≤q:=by omega
 have h5:0≤j:=by omega
 have h6:j≤max q 0:=by omega
 have h7:i≤max j 0:=by omega
 simp [execOp,An,hg.1,Instr.sliceAt,Instr.slice,Instr.sliceBounds,Instr.sliceBound,asIntOf,run_underlying hu,Bh hs,h0,h3,h4,h5,Gw]
 rw[if_pos h6]
 simp [h7,Gw]
@[go_sem] theorem fE (t ty:TypeId) (b o len cap:Nat) (k k' k'':IntKind) (i j q:Int) (K:Value→World→Prop) (w:World) (h0:0≤i) (h1:i≤j) (h2:j≤q) (h3:q≤cap):OpX P (.slice t (.const (.slice (some ⟨b,o,none⟩) len cap)) (some (.const (.int k i))) (some (.const (.int k' j))) (some (.const (.int k'' q)))) ty K w=OrK (AI P t) (fun n=>K (.slice (some ⟨b,slo o q.toNat i.toNat n,none⟩) (j.toNat-i.toNat) (q.toNat-i.toNat)) w) (OpX P (.slice t (.const (.slice (some ⟨b,o,none⟩) len cap)) (some (.const (.int k i))) (some (.const (.int k' j))) (some (.const (.int k'' q)))) ty K w) () :=
 AF (fun n h=>(NI t ty b o len cap n k k' k'' i j q h h0 h1 h2 h3).op K w) rfl
@[go_sem] theorem cX (t ty:TypeId) (b o len cap:Nat) (k k' k'':IntKind) (i j q:Int) (K:Value→Prop) (h0:0≤i) (h1:i≤j) (h2:j≤q) (h3:q≤cap):PurX P (.slice t (.const (.slice (some ⟨b,o,none⟩) len cap)) (some (.const (.int k i))) (some (.const (.int k' j))) (some (.const (.int k'' q)))) ty K ()=OrK (AI P t) (fun n=>K (.slice (some ⟨b,slo o q.toNat i.toNat n,none⟩) (j.toNat-i.toNat) (q.toNat-i.toNat))) (PurX P (.slice t (.const (.slice (some ⟨b,o,none⟩) len cap)) (some (.const (.int k i))) (some (.const (.int k' j))) (some (.const (.int k'' q)))) ty K ()) () :=
 AF (fun n h=>(NI t ty b o len cap n k k' k'' i j q h h0 h1 h2 h3).pur K) rfl
def eqI:Option Value→Option Value→Option Bool
 | some (.int k a),some (.int k' b)=>if k=k' then some (decide (a=b)) else none
 | _,_=>none
def eqB:Option Value→Option Value→Option Bool
 | some (.bool a),some (.bool b)=>some (a == b)
 | _,_=>none
def eqS:Option Value→Option Value→Option Bool
 | some (.string a),some (.string b)=>some (a.toList == b.toList)
 | _,_=>none
def eq1 (k:Nat) (u v:Option Value):Option Bool:=if k=8 then eqI u v else if k=9 then eqB u v else eqS u v
theorem WV {u v:Option Value} {b:Bool} (h:eqI u v=some b):∃k x y,u=some (.int k x)∧v=some (.int k y)∧b=decide (x=y):=by
 unfold eqI at h
 split at h
 ·split at h
  ·rename_i hk;subst hk;simp at h;exact⟨_,_,_,rfl,rfl,h.symm⟩
  ·simp at h
 ·simp at h
theorem Xs {u v:Option Value} {b:Bool} (h:eqB u v=some b):∃x y,u=some (.bool x)∧v=some (.bool y)∧b=(x == y):=by
 unfold eqB at h
 split at h
 ·simp at h;exact⟨_,_,rfl,rfl,h.symm⟩
 ·simp at h
theorem Pg {u v:Option Value} {b:Bool} (h:eqS u v=some b):∃x y,u=some (.string x)∧v=some (.string y)∧b=(x.toList == y.toList):=by
 unfold eqS at h
 split at h
 ·simp at h;exact⟨_,_,rfl,rfl,h.symm⟩
 ·simp at h
def CO (xs ys:Array Value):List (Nat × Nat)→Option Bool
 | []=>some true
 | p::l=>(eq1 p.2 xs[p.1]? ys[p.1]?).bind fun b=>(CO xs ys l).map fun r=>b && r
@[go_sem] theorem cy (xs ys:Array Value):CO xs ys []=some true:=rfl
@[go_sem] theorem TG (xs ys:Array Value) (p:Nat × Nat) (l:List (Nat × Nat)):CO xs ys (p::l)=(eq1 p.2 xs[p.1]? ys[p.1]?).bind fun b=>(CO xs ys l).map fun r=>b && r:=rfl
@[go_sem] theorem dP (k:IntKind) (a b:Int):eq1 8 (some (.int k a)) (some (.int k b))=some (decide (a=b)):=by simp [eq1,eqI]
theorem QV {t:TypeId} (h:Ag P t=some 8):∃k,P.underlying t=some (.int k):=by
 unfold Ag at h
 cases hu:P.underlying t with
 | none=>rw[hu] at h;simp at h
 | some d=>rw[hu] at h;cases d<;>simp at h;exact⟨_,rfl⟩
theorem L8 (d:Nat) (xs ys:Array Value) (w:World):∀(fs:List Field) (l:List (Nat × Nat)) (r:Bool),EY P fs=some l→CO xs ys l=some r→(Op.eqFields (d+1) xs ys fs).run P w=.ok r w
 | [],l,r,h,h2=>by
  simp [EY] at h;subst h
  simp [CO] at h2;subst h2
  simp [Op.eqFields]
 | f::fs,l,r,h,h2=>by
  unfold EY at h
  split at h
  ·simp at h
  ·rename_i hn
   obtain⟨k,hk,h⟩:=Option.bind_eq_some_iff.1 h
   obtain⟨b,hb,h⟩:=Option.bind_eq_some_iff.1 h
   cases b with
   | true=>simp at h
   | false =>
    simp only[cond_false] at h
    split at h
    ·rename_i hk3
     obtain⟨l',hl',rfl⟩:=Option.map_eq_some_iff.1 h
     rw[TG] at h2
     obtain⟨b,h3,h2⟩:=Option.bind_eq_some_iff.1 h2
     obtain⟨r',h4,rfl⟩:=Option.map_eq_some_iff.1 h2
     have ih:=L8 d xs ys w fs l' r' hl' h4
     dsimp only at h3
     have key:∃u v,xs[f.offset]?=some u∧ys[f.offset]?=some v∧(Op.equalIn (d+1) f.type u v).run P w=.ok b w:=by
      rcases hk3 with rfl|rfl|rfl
      ·obtain⟨kk,hu⟩:=QV hk
       obtain⟨k,x,y,e1,e2,rfl⟩:=WV h3
       refine⟨_,_,e1,e2,?_⟩
       simp [Op.equalIn,run_underlying hu]
       rfl
      ·have hu:=IX hk
       obtain⟨x,y,e1,e2,rfl⟩:=Xs h3
       exact⟨_,_,e1,e2,by simp [Op.equalIn,run_underlying hu]⟩
      ·have hu:=GC hk
       obtain⟨x,y,e1,e2,rfl⟩:=Pg h3
       refine⟨_,_,e1,e2,?_⟩
       simp [Op.equalIn,run_underlying hu,beq_toListBytes]
     obtain⟨u,v,hu,hv,hr⟩:=key
     have hpu:(part f.type xs f.offset).run P w=.ok u w:=HV (by simp [CV,hb,hu]) w
     have hpv:(part f.type ys f.offset).run P w=.ok v w:=HV (by simp [CV,hb,hv]) w
     simp only[Op.eqFields,hn,ne_eq,not_false_eq_true,if_true,Sem.run_bind,hpu,hpv,Result.andThen_ok,hr]
     cases b<;>simp [ih]
    ·simp at h
theorem Sn {t:TypeId} {xs ys:Array Value} {l:List (Nat × Nat)} {r:Bool} (h:BU P t=some l) (h2:CO xs ys l=some r) :
  (∀op x y w,(eqGuard op t x y (.agg xs) (.agg ys)).run P w=.ok () w)∧∀w,(Op.equal t (.agg xs) (.agg ys)).run P w=.ok r w:=by
 unfold BU at h
 cases hu:P.underlying t with
 | none=>rw[hu] at h;simp at h
 | some d =>
  rw[hu] at h
  cases d<;>first|(simp at h;done)|skip
  rename_i fs
  simp only[Option.bind_some] at h
  split at h
  ·simp at h
  ·rename_i hs
   simp only[Bool.or_eq_true,not_or,Bool.not_eq_true] at hs
   constructor
   ·intro op x y w
    unfold eqGuard
    cases op<;>simp [hs.2]
   ·intro w
    have hff:P.fieldsOf t=fs:=by simp [Program.fieldsOf,hu]
    have:=run_equalIn_struct (P:=P) w 9999 t xs ys (by rw[hff];exact hu) hs.1
    unfold Op.equal Op.maxDepth
    rw[this,hff]
    exact L8 9998 xs ys w fs.toList l r h h2
theorem Vb {t:TypeId} {xs ys:Array Value} {r:Bool} (h:(BU P t).bind (CO xs ys)=some r):PureBin P .eql t (.agg xs) (.agg ys) (.bool r):=by
 obtain⟨l,h1,h2⟩:=Option.bind_eq_some_iff.1 h
 obtain⟨h3,h4⟩:=Sn h1 h2
 refine⟨fun x y w=>?_⟩
 unfold A7
 simp [h3,binOp,h4]
@[go_sem] theorem db (t:TypeId) (xs ys:Array Value) (K:Value→Prop) (w:World):RdB P .eql t (.agg xs) (.agg ys) K w=OrK ((BU P t).bind (CO xs ys)) (fun r=>K (.bool r)) (RdB P .eql t (.agg xs) (.agg ys) K w) ():=AF (fun r h=>(Vb h).rd K w) rfl
theorem Ps (t:TypeId) (a b:ByteArray) (h:(a.size:Int)+(b.size:Int)≤9223372036854775807):PureBin P .add t (.string a) (.string b) (.string (a++b)):=⟨fun x y w=>by simp [A7,eqGuard,binOp,Op.stringOp,h]⟩
@[go_sem] theorem fZ (t:TypeId) (a b:ByteArray) (K:Value→World→Prop) (w:World) (h:(a.size:Int)+(b.size:Int)≤9223372036854775807):BinX P .add t (.string a) (.string b) K w=K (.string (a++b)) w:=(Ps t a b h).op K w
end
section
variable {P:Program}
@[go_sem] theorem ct (v:Value) (l:List Value):By (v::l) 0=v:=rfl
@[go_sem] theorem cP (v:Value) (l:List Value) (n:Nat):By (v::l) (n+1)=By l n:=rfl
theorem ZV (r:Nat) (K:World→Prop) (w:World):BN (B7 r (.tuple #[])) K w=(w.heap[r]?=some (.deferred (some []))∧K (Ab w r (.deferred none))):=by
 show DO [.int .i64 (r:Int)] K w=_
 simp [DO]
theorem ER {r:Nat} {K:World→Prop} {w:World} (h:w.heap[r]?=some (.deferred (some []))) (hk:K (Ab w r (.deferred none))):BN (B7 r (.tuple #[])) K w:=by
 rw[ZV];exact⟨h,hk⟩
theorem Chg.low_drew {F:List Nat} {w w':World} (h:Chg F w.drew w'):Chg F w w':=⟨h.os,h.tape,h.output,h.size,h.same⟩
theorem OpX.gen {o:Op} {ty:TypeId} {K:Value→World→Prop} {w:World} (h:∀w0,w0=w→OpX P o ty K w0):OpX P o ty K w:=h w rfl
theorem AE (w:World) (x:Obj):Chg [] w (w.alloc x):=(Chg.refl _ _).alloc _
theorem Cm (w:World) (x y:Obj):Chg [] w ((w.alloc x).alloc y):=(AE _ _).alloc _
theorem EZ (w:World) (x y z:Obj):Chg [] w (((w.alloc x).alloc y).alloc z):=(Cm _ _ _).alloc _
theorem IH (w:World) (x y z u:Obj):Chg [] w ((((w.alloc x).alloc y).alloc z).alloc u):=(EZ _ _ _ _).alloc _
theorem NW (w:World) (x y z u v:Obj):Chg [] w (((((w.alloc x).alloc y).alloc z).alloc u).alloc v):=(IH _ _ _ _ _).alloc _
theorem TV (w:World) (x y z u v t:Obj):Chg [] w ((((((w.alloc x).alloc y).alloc z).alloc u).alloc v).alloc t):=(NW _ _ _ _ _ _).alloc _
theorem DG:∀vs:List Value,Ci (vs.map Operand.const)=some vs
 | []=>rfl
 | v::vs=>by simp [Ci,DG vs]
theorem Bd.of {f:FuncId} {us cs vs:List Value} {K:Value→World→Prop} {w:World} (hb:Ad P f) (h:Calls P f (us++vs++cs).toArray w (Ac K)):Bd P (.func (.func f) us.toArray cs.toArray) vs K w :=
 fun _ _=>OpX.callV hb (DG vs) h
theorem Bd.use {yv:Value} {vs:List Value} {K K':Value→World→Prop} {w:World} {ats:Array TypeId} {ty:TypeId} (h:Bd P yv vs K w) (hk:∀v w',K v w'→K' v w') :
  OpX P (.call { callee:=.value (.const yv),args:=(vs.map Operand.const).toArray,argTypes:=ats }) ty K' w:=by
 obtain⟨h⟩:=h ats ty
 refine⟨fun ρ hg=>?_⟩
 have:=h ρ hg
 revert this
 generalize (execOp ρ _).run P w=r
 intro this
 unfold Bp at this ⊢
 split at this
 ·exact hk _ _ this
 ·exact hk _ _ this
 ·exact Calls.ret this hk
 ·obtain⟨h⟩:=this
  exact⟨fun c cs=>let ⟨v,w',h1,h2⟩:=h c cs;⟨v,w',hk _ _ h1,h2⟩⟩
 ·exact fun c cs=>by
   obtain⟨v,w',h1,h2⟩:=this c cs
   exact⟨v,w',hk _ _ h1,h2⟩
 ·obtain⟨h1,⟨h2⟩⟩:=this
  exact⟨h1,⟨fun fr cs es he=>let ⟨v,w',h3,h4⟩:=h2 fr cs es he;⟨v,w',hk _ _ h3,h4⟩⟩⟩
 ·exact this.elim
@[go_sem] theorem aY (t ty:TypeId) (K:Value→World→Prop) (w:World) :
  OpX P (.buildSlice t 0 #[]) ty K w=OrK (tbs P t) (fun q=>K (.slice (some ⟨w.heap.size,0,none⟩) 0 0) (w.alloc (.cells #[] q.1))) (OpX P (.buildSlice t 0 #[]) ty K w) ():=by
 refine AF (fun q h=>?_) rfl
 obtain⟨e,m,zs⟩:=q
 obtain⟨hu,i,z,hi,hz,hs,hzs,hzn,h0⟩:=FE h
 refine AW fun ρ hg=>?_
 simp [execOp,An,Instr.buildSlice,run_underlying hu,Go.sizeOf,typeInfo,hi,newRow,Instr.fill]
 congr 2
 apply Array.ext<;>simp
theorem DQ {t t' ty:TypeId} {m b o dl dc:Nat} {pre old new post:List Value} {e:TypeId} {b' o' sl sc:Nat} {K:Value→World→Prop} {w:World} (ht:AI P t=some m)
  (hb:w.heap[b]?=some (.cells (pre++old++post).toArray e)) (ho:pre.length=o) (hlen:new.length=old.length) (hn:new.length=min sl dl*m) (hok:AP new=true)
  (hsrc:∀j u,new[j]?=some u→Av w.heap[b']? (o'+j)=some u) (hk:K (.int .i64 (min sl dl:Nat)) (Ab w b (.cells (pre++new++post).toArray e))) :
  OpX P (.call { callee:=.builtin .copy,args:=#[.const (.slice (some ⟨b,o,none⟩) dl dc),.const (.slice (some ⟨b',o',none⟩) sl sc)],argTypes:=#[t,t'] }) ty K w:=by
 rw[JK (cs:=new) (x':=.cells (pre++new++post).toArray e) ht hn hsrc hok (by rw[hb];exact DC pre old new post e o ho hlen)]
 exact hk
end
structure Rc where
 x:Int
 y:Int
 w:Int
 h:Int
deriving DecidableEq
@[go_sem] def Rc.cells (r:Rc):List Value:=[.int .i64 r.x,.int .i64 r.y,.int .i64 r.w,.int .i64 r.h]
@[go_sem] def Rc.val (r:Rc):Value:=.agg #[.int .i64 r.x,.int .i64 r.y,.int .i64 r.w,.int .i64 r.h]
def Rc.len (r:Rc) (ac:Bool):Int:=if ac then r.w else r.h
structure Rc.ok (r:Rc):Prop where
 x0:0≤r.x
 y0:0≤r.y
 w0:1≤r.w
 h0:1≤r.h
 xw:r.x+r.w≤200
 yh:r.y+r.h≤60
structure Rc.inn (r R:Rc):Prop where
 a:R.x≤r.x
 b:R.y≤r.y
 c:r.x+r.w≤R.x+R.w
 d:r.y+r.h≤R.y+R.h
theorem Rc.inn.refl (r:Rc):r.inn r:=⟨by omega,by omega,by omega,by omega⟩
theorem Rc.inn.trans {a b c:Rc} (h:a.inn b) (k:b.inn c):a.inn c:=⟨by have:=h.a;have:=k.a;omega,by have:=h.b;have:=k.b;omega,by have:=h.c;have:=k.c;omega,by have:=h.d;have:=k.d;omega⟩
inductive Mt where
 | pane (b:Nat) (id:Int)
 | split (b:Nat) (ac:Bool) (p q:Int) (l r:Mt)
namespace Mt
def blk:Mt→Nat
 | pane b _=>b
 | split b _ _ _ _ _=>b
def blks:Mt→List Nat
 | pane b _=>[b]
 | split b _ _ _ l r=>b::(l.blks++r.blks)
def ids:Mt→List Int
 | pane _ id=>[id]
 | split _ _ _ _ l r=>l.ids++r.ids
def cells:Mt→List Value
 | pane _ id=>[.int .i64 id,.bool false,.int .i64 0,.int .i64 0,.pointer none,.pointer none]
 | split _ ac p q l r=>[.int .i64 0,.bool ac,.int .i64 p,.int .i64 q,.pointer (some ⟨l.blk,0,none⟩),.pointer (some ⟨r.blk,0,none⟩)]
end Mt
def Ay (n p q:Int):Int:=min (max (((n-1)*p).tdiv q) 1) (n-2)
def AS (R:Rc) (ac:Bool) (a:Int):Rc:=if ac then { R with w:=a } else { R with h:=a }
def Hk (R:Rc) (ac:Bool) (a:Int):Rc:=if ac then { R with x:=R.x+a,w:=1 } else { R with y:=R.y+a,h:=1 }
def AO (R:Rc) (ac:Bool) (a:Int):Rc:=if ac then { R with x:=R.x+a+1,w:=R.w-a-1 } else { R with y:=R.y+a+1,h:=R.h-a-1 }
theorem DE {n p q:Int} (hn:3≤n):1≤Ay n p q∧Ay n p q≤n-2:=by unfold Ay;omega
section
variable {R:Rc} {ac:Bool} {a:Int}
theorem Fm (h:R.ok) (a0:1≤a) (a1:a≤R.len ac-2):(AS R ac a).ok∧(AS R ac a).inn R:=by
 obtain⟨h1,h2,h3,h4,h5,h6⟩:=h
 cases ac<;>simp only[Rc.len,AS,if_true,Bool.false_eq_true,if_false] at*<;> exact⟨⟨by dsimp only;omega,by dsimp only;omega,by dsimp only;omega,by dsimp only;omega,by dsimp only;omega,by dsimp only;omega⟩,⟨by dsimp only;omega,by dsimp only;omega,by dsimp only;omega,by dsimp only;omega⟩⟩
theorem FM (h:R.ok) (a0:1≤a) (a1:a≤R.len ac-2):(AO R ac a).ok∧(AO R ac a).inn R:=by
 obtain⟨h1,h2,h3,h4,h5,h6⟩:=h
 cases ac<;>simp only[Rc.len,AO,if_true,Bool.false_eq_true,if_false] at*<;> exact⟨⟨by dsimp only;omega,by dsimp only;omega,by dsimp only;omega,by dsimp only;omega,by dsimp only;omega,by dsimp only;omega⟩,⟨by dsimp only;omega,by dsimp only;omega,by dsimp only;omega,by dsimp only;omega⟩⟩
end
namespace Mt
def fits:Mt→Rc→Bool
 | pane _ _,_=>true
 | split _ ac p q l r,R=>decide (3≤R.len ac) && (l.fits (AS R ac (Ay (R.len ac) p q)) && r.fits (AO R ac (Ay (R.len ac) p q)))
def all:Mt→Rc→List (Mt × Rc)
 | pane b id,R=>[(pane b id,R)]
 | split b ac p q l r,R=>l.all (AS R ac (Ay (R.len ac) p q))++(split b ac p q l r,R)::r.all (AO R ac (Ay (R.len ac) p q))
def panes:Mt→Rc→List (Int × Rc)
 | pane _ id,R=>[(id,R)]
 | split _ ac p q l r,R=>l.panes (AS R ac (Ay (R.len ac) p q))++r.panes (AO R ac (Ay (R.len ac) p q))
def bords:Mt→Rc→List Rc
 | pane _ _,_=>[]
 | split _ ac p q l r,R=>l.bords (AS R ac (Ay (R.len ac) p q))++Hk R ac (Ay (R.len ac) p q)::r.bords (AO R ac (Ay (R.len ac) p q))
def ok:Mt→Prop
 | pane _ id=>1≤id
 | split _ _ p q l r=>1≤p∧p≤q∧2≤q∧q≤200∧l.ok∧r.ok
def onePane:Mt × Rc→Option (Int × Rc)
 | (pane _ id,R)=>some (id,R)
 | _=>none
def cB:Mt × Rc→Option Rc
 | (pane _ _,_)=>none
 | (split _ ac p q _ _,R)=>some (Hk R ac (Ay (R.len ac) p q))
theorem all_panes:∀(t:Mt) (R:Rc),(t.all R).filterMap onePane=t.panes R
 | pane _ _,_=>rfl
 | split b ac p q l r,R=>by simp only[all,panes,List.filterMap_append,List.filterMap_cons,show onePane (split b ac p q l r,R)=none from rfl,all_panes l,all_panes r]
theorem panes_ids:∀(t:Mt) (R:Rc),(t.panes R).map (·.1)=t.ids
 | pane _ _,_=>rfl
 | split b ac p q l r,R=>by simp [panes,ids,panes_ids l,panes_ids r]
theorem panes_len (t:Mt) (R:Rc):(t.panes R).length=t.ids.length:=by rw[←panes_ids t R,List.length_map]
theorem all_len:∀(t:Mt) (R:Rc),(t.all R).length+1=2*t.ids.length
 | pane _ _,_=>rfl
 | split b ac p q l r,R=>by
  have h1:=all_len l (AS R ac (Ay (R.len ac) p q))
  have h2:=all_len r (AO R ac (Ay (R.len ac) p q))
  simp only[all,ids,List.length_append,List.length_cons]
  omega
theorem ids_pos:∀t:Mt,1≤t.ids.length
 | pane _ _=>Nat.le_refl _
 | split _ _ _ _ l r=>by have:=ids_pos l;simp only[ids,List.length_append];omega
theorem ok_ids:∀{t:Mt},t.ok→∀i∈t.ids,1≤i
 | pane _ _,h,i,hi=>by simp [ids] at hi;subst hi;exact h
 | split _ _ _ _ l r,h,i,hi=>by
  rcases List.mem_append.1 hi with hi|hi
  ·exact ok_ids h.2.2.2.2.1 i hi
  ·exact ok_ids h.2.2.2.2.2 i hi
theorem fits_split {b:Nat} {ac:Bool} {p q:Int} {l r:Mt} {R:Rc} (h:(split b ac p q l r).fits R=true) :
  3≤R.len ac∧l.fits (AS R ac (Ay (R.len ac) p q))=true∧r.fits (AO R ac (Ay (R.len ac) p q))=true:=by
 simp only[fits,Bool.and_eq_true,decide_eq_true_eq] at h
 exact h
theorem all_ok:∀{t:Mt} {R:Rc},t.fits R=true→R.ok→∀x∈t.all R,x.2.ok∧x.2.inn R∧x.1.fits x.2=true
 | pane _ _,R,_,hR,x,hx=>by simp [all] at hx;subst hx;exact⟨hR,Rc.inn.refl _,rfl⟩
 | split b ac p q l r,R,h,hR,x,hx=>by
  obtain⟨h1,h2,h3⟩:=fits_split h
  obtain⟨s0,s1⟩:=DE (p:=p) (q:=q) h1
  obtain⟨f1,f2⟩:=Fm hR s0 s1
  obtain⟨g1,g2⟩:=FM hR s0 s1
  simp only[all,List.mem_append,List.mem_cons] at hx
  rcases hx with hx|rfl|hx
  ·obtain⟨a,b,c⟩:=all_ok h2 f1 x hx;exact⟨a,b.trans f2,c⟩
  ·exact⟨hR,Rc.inn.refl _,h⟩
  ·obtain⟨a,b,c⟩:=all_ok h3 g1 x hx;exact⟨a,b.trans g2,c⟩
theorem panes_ok {t:Mt} {R:Rc} (h:t.fits R=true) (hR:R.ok):∀x∈t.panes R,x.2.ok∧x.2.inn R:=by
 intro x hx
 rw[←all_panes] at hx
 obtain⟨y,hy,he⟩:=List.mem_filterMap.1 hx
 obtain⟨a,b,-⟩:=all_ok h hR y hy
 obtain⟨m,S⟩:=y
 cases m<;>simp [onePane] at he
 subst he
 exact⟨a,b⟩
def E1 (l:List Rc):Int:=l.foldr (fun r n=>r.w*r.h+n) 0
theorem eZ (l l':List Rc):E1 (l++l')=E1 l+E1 l':=by
 induction l with
 | nil=>simp [E1]
 | cons x l ih=>simp only[List.cons_append,E1,List.foldr_cons] at *;rw[ih];omega
end Mt
end Lyc
namespace Lyc
open Go
namespace Mt
def isPane:Mt→Bool
 | pane _ _=>true
 | _=>false
def put:Mt→Nat→Mt→Mt
 | pane c id,b,new=>if c=b then new else pane c id
 | split c ac p q l r,b,new=>if c=b then new else split c ac p q (l.put b new) (r.put b new)
def way:Mt→Int→Rc→List (Mt × Rc)
 | pane b i,id,R=>if i=id then[(pane b i,R)] else[]
 | split b ac p q l r,id,R =>
  if(l.way id (AS R ac (Ay (R.len ac) p q))).isEmpty=false then(split b ac p q l r,R)::l.way id (AS R ac (Ay (R.len ac) p q))
  else if(r.way id (AO R ac (Ay (R.len ac) p q))).isEmpty=false then(split b ac p q l r,R)::r.way id (AO R ac (Ay (R.len ac) p q))
  else[]
theorem blk_mem:∀t:Mt,t.blk∈t.blks
 | pane _ _=>by simp [blk,blks]
 | split _ _ _ _ _ _=>by simp [blk,blks]
theorem put_blk {b:Nat} {new:Mt} (hn:new.blk=b):∀t:Mt,(t.put b new).blk=t.blk
 | pane c id=>by unfold put;split<;>simp_all [blk]
 | split c ac p q l r=>by unfold put;split<;>simp_all [blk]
theorem put_none {b:Nat} {new:Mt}:∀{t:Mt},b∉t.blks→t.put b new=t
 | pane c id,h=>by simp [blks] at h;simp [put];omega
 | split c ac p q l r,h=>by
  simp only[blks,List.mem_cons,List.mem_append,not_or] at h
  unfold put
  rw[if_neg (by omega),put_none h.2.1,put_none h.2.2]
theorem put_self {b:Nat} {new t:Mt} (h:t.blk=b):t.put b new=new:=by
 cases t<;>simp only[blk] at h<;>simp [put,h]
theorem all_blk:∀{t:Mt} {R:Rc},∀x∈t.all R,∀y∈x.1.blks,y∈t.blks
 | pane _ _,_,x,hx,y,hy=>by simp [all] at hx;subst hx;exact hy
 | split b ac p q l r,R,x,hx,y,hy=>by
  simp only[all,List.mem_append,List.mem_cons] at hx
  rcases hx with hx|rfl|hx
  ·have:=all_blk x hx y hy;simp [blks,this]
  ·exact hy
  ·have:=all_blk x hx y hy;simp [blks,this]
theorem put_mem {b:Nat} {new:Mt}:∀{t:Mt} {x:Nat},x∈(t.put b new).blks→x∈new.blks∨x∈t.blks
 | pane c id,x,h=>by
  unfold put at h
  split at h
  ·exact .inl h
  ·exact .inr h
 | split c ac p q l r,x,h=>by
  unfold put at h
  split at h
  ·exact .inl h
  ·simp only[blks,List.mem_cons,List.mem_append] at h
   rcases h with rfl|h|h
   ·exact .inr (by simp [blks])
   ·exact(put_mem h).imp id fun h=>by simp [blks,h]
   ·exact(put_mem h).imp id fun h=>by simp [blks,h]
theorem put_all {new:Mt}:∀{t:Mt} {R:Rc},t.blks.Nodup→∀{s:Mt} {S:Rc},(s,S)∈t.all R →
  (∃A B,t.panes R=A++s.panes S++B∧(t.put s.blk new).panes R=A++new.panes S++B)∧(∃A B,t.ids=A++s.ids++B∧(t.put s.blk new).ids=A++new.ids++B) ∧
  (t.fits R=true→new.fits S=true→(t.put s.blk new).fits R=true)∧(t.ok→s.ok)∧(t.ok→new.ok→(t.put s.blk new).ok) ∧
  (new.blks.Nodup→(∀x∈new.blks,x∈s.blks∨x∉t.blks)→(t.put s.blk new).blks.Nodup)
 | pane b id,R,hn,s,S,h=>by
  simp only[all,List.mem_singleton,Prod.mk.injEq] at h
  obtain⟨rfl,rfl⟩:=h
  rw[put_self rfl]
  exact⟨⟨[],[],by simp,by simp⟩,⟨[],[],by simp,by simp⟩,fun _ h=>h,fun h=>h,fun _ h=>h,fun h _=>h⟩
 | split b ac p q l r,R,hn,s,S,h=>by
  have hn0:=hn
  simp only[blks,List.nodup_cons,List.mem_append,not_or,List.nodup_append] at hn
  obtain⟨⟨b1,b2⟩,n1,n2,n3⟩:=hn
  simp only[all,List.mem_append,List.mem_cons,Prod.mk.injEq] at h
  rcases h with h|⟨rfl,rfl⟩|h
  ·obtain⟨⟨A,B,h1,h2⟩,⟨A',B',h3,h4⟩,h5,h6,h7,h8⟩:=put_all (new:=new) n1 h
   have hm:=all_blk _ h _ (blk_mem s)
   have hne:b≠s.blk:=fun e=>b1 (e ▸ hm)
   have hr:r.put s.blk new=r:=put_none fun hm'=>n3 _ hm _ hm' rfl
   unfold put
   rw[if_neg hne,hr]
   refine⟨⟨A,B++r.panes (AO R ac (Ay (R.len ac) p q)),by simp [panes,h1],by simp [panes,h2]⟩,⟨A',B'++r.ids,by simp [ids,h3],by simp [ids,h4]⟩,fun hf hnf=>?_,fun hk=>h6 hk.2.2.2.2.1,fun hk hnk=>⟨hk.1,hk.2.1,hk.2.2.1,hk.2.2.2.1,h7 hk.2.2.2.2.1 hnk,hk.2.2.2.2.2⟩,fun hnn hx=>?_⟩
   ·obtain⟨f1,f2,f3⟩:=fits_split hf
    simp only[fits,Bool.and_eq_true,decide_eq_true_eq]
    exact⟨f1,h5 f2 hnf,f3⟩
   ·have h8':=h8 hnn fun x hx'=>(hx x hx').imp id fun h hm=>h (by simp [blks,hm])
    have key:∀x∈(l.put s.blk new).blks,x≠b∧x∉r.blks:=by
     intro x hx'
     rcases put_mem hx' with h9|h9
     ·rcases hx x h9 with h10|h10
      ·have:=all_blk _ h _ h10
       exact⟨fun e=>b1 (e ▸ this),fun hm'=>n3 _ this _ hm' rfl⟩
      ·simp only[blks,List.mem_cons,List.mem_append,not_or] at h10
       exact⟨h10.1,h10.2.2⟩
     ·exact⟨fun e=>b1 (e ▸ h9),fun hm'=>n3 _ h9 _ hm' rfl⟩
    simp only[blks,List.nodup_cons,List.mem_append,not_or,List.nodup_append]
    exact⟨⟨fun hm'=>(key _ hm').1 rfl,b2⟩,h8',n2,fun x hx' y hy e=>(key x hx').2 (e ▸ hy)⟩
  ·rw[put_self rfl]
   exact⟨⟨[],[],by simp,by simp⟩,⟨[],[],by simp,by simp⟩,fun _ h=>h,fun h=>h,fun _ h=>h,fun h _=>h⟩
  ·obtain⟨⟨A,B,h1,h2⟩,⟨A',B',h3,h4⟩,h5,h6,h7,h8⟩:=put_all (new:=new) n2 h
   have hm:=all_blk _ h _ (blk_mem s)
   have hne:b≠s.blk:=fun e=>b2 (e ▸ hm)
   have hl:l.put s.blk new=l:=put_none fun hm'=>n3 _ hm' _ hm rfl
   unfold put
   rw[if_neg hne,hl]
   refine⟨⟨l.panes (AS R ac (Ay (R.len ac) p q))++A,B,by simp [panes,h1],by simp [panes,h2]⟩,⟨l.ids++A',B',by simp [ids,h3],by simp [ids,h4]⟩,fun hf hnf=>?_,fun hk=>h6 hk.2.2.2.2.2,fun hk hnk=>⟨hk.1,hk.2.1,hk.2.2.1,hk.2.2.2.1,hk.2.2.2.2.1,h7 hk.2.2.2.2.2 hnk⟩,fun hnn hx=>?_⟩
   ·obtain⟨f1,f2,f3⟩:=fits_split hf
    simp only[fits,Bool.and_eq_true,decide_eq_true_eq]
    exact⟨f1,f2,h5 f3 hnf⟩
   ·have h8':=h8 hnn fun x hx'=>(hx x hx').imp id fun h hm=>h (by simp [blks,hm])
    have key:∀x∈(r.put s.blk new).blks,x≠b∧x∉l.blks:=by
     intro x hx'
     rcases put_mem hx' with h9|h9
     ·rcases hx x h9 with h10|h10
      ·have:=all_blk _ h _ h10
       exact⟨fun e=>b2 (e ▸ this),fun hm'=>n3 _ hm' _ this rfl⟩
      ·simp only[blks,List.mem_cons,List.mem_append,not_or] at h10
       exact⟨h10.1,h10.2.1⟩
     ·exact⟨fun e=>b2 (e ▸ h9),fun hm'=>n3 _ hm' _ h9 rfl⟩
    simp only[blks,List.nodup_cons,List.mem_append,not_or,List.nodup_append]
    exact⟨⟨b1,fun hm'=>(key _ hm').1 rfl⟩,n1,h8',fun x hx' y hy e=>(key y hy).2 (e ▸ hx')⟩
theorem way_split {id:Int} {b:Nat} {ac:Bool} {p q:Int} {l r:Mt} {R:Rc} :
  ((split b ac p q l r).way id R=(split b ac p q l r,R)::l.way id (AS R ac (Ay (R.len ac) p q))∧l.way id (AS R ac (Ay (R.len ac) p q))≠[]) ∨
  (l.way id (AS R ac (Ay (R.len ac) p q))=[]∧(split b ac p q l r).way id R=(split b ac p q l r,R)::r.way id (AO R ac (Ay (R.len ac) p q))∧r.way id (AO R ac (Ay (R.len ac) p q))≠[]) ∨
  (l.way id (AS R ac (Ay (R.len ac) p q))=[]∧r.way id (AO R ac (Ay (R.len ac) p q))=[]∧(split b ac p q l r).way id R=[]):=by
 generalize hL:l.way id (AS R ac (Ay (R.len ac) p q))=L
 generalize hV:r.way id (AO R ac (Ay (R.len ac) p q))=V
 unfold way
 rw[hL,hV]
 cases L with
 | cons a L=>exact .inl ⟨by simp,by simp⟩
 | nil =>
  cases V with
  | cons a V=>exact .inr (.inl ⟨rfl,by simp,by simp⟩)
  | nil=>exact .inr (.inr ⟨rfl,rfl,by simp⟩)
theorem way_nil {id:Int}:∀{t:Mt} {R:Rc},t.way id R=[]↔id∉t.ids
 | pane b i,R=>by unfold way;split<;>simp_all [ids];omega
 | split b ac p q l r,R=>by
  have h1:=way_nil (id:=id) (t:=l) (R:=AS R ac (Ay (R.len ac) p q))
  have h2:=way_nil (id:=id) (t:=r) (R:=AO R ac (Ay (R.len ac) p q))
  simp only[ids,List.mem_append,not_or,←h1,←h2]
  rcases way_split (id:=id) (b:=b) (ac:=ac) (p:=p) (q:=q) (l:=l) (r:=r) (R:=R) with ⟨h3,h4⟩|⟨h3,h4,h5⟩|⟨h3,h4,h5⟩
  ·rw[h3];simp [h4]
  ·rw[h4];simp [h5]
  ·simp [h3,h4,h5]
theorem way_all {id:Int}:∀{t:Mt} {R:Rc},∀x∈t.way id R,x∈t.all R
 | pane b i,R,x,hx=>by unfold way at hx;split at hx<;>simp_all [all]
 | split b ac p q l r,R,x,hx=>by
  simp only[all,List.mem_append,List.mem_cons]
  rcases way_split (id:=id) (b:=b) (ac:=ac) (p:=p) (q:=q) (l:=l) (r:=r) (R:=R) with ⟨h3,h4⟩|⟨h3,h4,h5⟩|⟨h3,h4,h5⟩
  ·rw[h3] at hx
   rcases List.mem_cons.1 hx with rfl|hx
   ·exact .inr (.inl rfl)
   ·exact .inl (way_all x hx)
  ·rw[h4] at hx
   rcases List.mem_cons.1 hx with rfl|hx
   ·exact .inr (.inl rfl)
   ·exact .inr (.inr (way_all x hx))
  ·rw[h5] at hx;simp at hx
theorem way_end {id:Int}:∀{t:Mt} {R:Rc},t.way id R≠[]→∃(W:List (Mt × Rc)) (c:Nat) (S:Rc),t.way id R=W++[(pane c id,S)]∧(∀x∈W,∃b ac p q l r,x.1=split b ac p q l r) ∧
  (W=[]→t=pane c id∧S=R)∧(∀V x,W=V++[x]→∃b ac p q l r,x.1=split b ac p q l r∧(l=pane c id∨r=pane c id))
 | pane b i,R,h=>by
  unfold way at h ⊢
  split at h
  ·rename_i e
   subst e
   exact⟨[],b,R,by simp,by simp,fun _=>⟨rfl,rfl⟩,fun V x h=>by simp at h⟩
  ·simp at h
 | split b ac p q l r,R,h=>by
  rcases way_split (id:=id) (b:=b) (ac:=ac) (p:=p) (q:=q) (l:=l) (r:=r) (R:=R) with ⟨h3,h4⟩|⟨h3,h4,h5⟩|⟨h3,h4,h5⟩
  ·obtain⟨W,c,S,e,hs,hn,hv⟩:=way_end h4
   refine⟨(split b ac p q l r,R)::W,c,S,by rw[h3,e];rfl,fun x hx=>?_,fun h=>by simp at h,fun V x hx=>?_⟩
   ·rcases List.mem_cons.1 hx with rfl|hx
    ·exact⟨_,_,_,_,_,_,rfl⟩
    ·exact hs x hx
   ·cases V with
    | nil =>
     rw[List.nil_append,List.cons.injEq] at hx
     obtain⟨rfl,hW⟩:=hx
     exact⟨_,_,_,_,_,_,rfl,.inl (hn hW).1⟩
    | cons y V =>
     rw[List.cons_append,List.cons.injEq] at hx
     exact hv V x hx.2
  ·obtain⟨W,c,S,e,hs,hn,hv⟩:=way_end h5
   refine⟨(split b ac p q l r,R)::W,c,S,by rw[h4,e];rfl,fun x hx=>?_,fun h=>by simp at h,fun V x hx=>?_⟩
   ·rcases List.mem_cons.1 hx with rfl|hx
    ·exact⟨_,_,_,_,_,_,rfl⟩
    ·exact hs x hx
   ·cases V with
    | nil =>
     rw[List.nil_append,List.cons.injEq] at hx
     obtain⟨rfl,hW⟩:=hx
     exact⟨_,_,_,_,_,_,rfl,.inr (hn hW).1⟩
    | cons y V =>
     rw[List.cons_append,List.cons.injEq] at hx
     exact hv V x hx.2
  ·exact absurd h5 h
theorem way_len {id:Int}:∀{t:Mt} {R:Rc},(t.way id R).length≤t.ids.length
 | pane b i,R=>by unfold way;split<;>simp [ids]
 | split b ac p q l r,R=>by
  have h1:=way_len (id:=id) (t:=l) (R:=AS R ac (Ay (R.len ac) p q))
  have h2:=way_len (id:=id) (t:=r) (R:=AO R ac (Ay (R.len ac) p q))
  have h6:=ids_pos l
  have h7:=ids_pos r
  simp only[ids,List.length_append]
  rcases way_split (id:=id) (b:=b) (ac:=ac) (p:=p) (q:=q) (l:=l) (r:=r) (R:=R) with ⟨h3,h4⟩|⟨h3,h4,h5⟩|⟨h3,h4,h5⟩
  ·rw[h3,List.length_cons];omega
  ·rw[h4,List.length_cons];omega
  ·rw[h5];simp
end Mt
theorem Tk {n n' p q:Int} (hp:1≤p) (hpq:p≤q) (hn:3≤n) (h:n≤n'):Ay n p q≤Ay n' p q∧n-Ay n p q≤n'-Ay n' p q:=by
 have hq:0<q:=by omega
 have e1:((n-1)*p).tdiv q=((n-1)*p) / q:=Int.tdiv_eq_ediv_of_nonneg (Int.mul_nonneg (by omega) (by omega))
 have e2:((n'-1)*p).tdiv q=((n'-1)*p) / q:=Int.tdiv_eq_ediv_of_nonneg (Int.mul_nonneg (by omega) (by omega))
 have m1:((n-1)*p) / q≤((n'-1)*p) / q:=Int.ediv_le_ediv hq (Int.mul_le_mul_of_nonneg_right (by omega) (by omega))
 have m2:((n'-1)*p) / q≤((n-1)*p) / q+(n'-n):=by
  rw[←Int.add_mul_ediv_right _ _ (by omega:q≠0)]
  refine Int.ediv_le_ediv hq ?_
  have h1:(n'-1)*p=(n-1)*p+(n'-n)*p:=by rw[←Int.add_mul];congr 1;omega
  have h2:(n'-n)*p≤(n'-n)*q:=Int.mul_le_mul_of_nonneg_left hpq (by omega)
  omega
 unfold Ay
 rw[e1,e2]
 omega
namespace Mt
theorem fits_mono:∀{t:Mt} {R R':Rc},t.ok→t.fits R=true→R.w≤R'.w→R.h≤R'.h→t.fits R'=true
 | pane _ _,_,_,_,_,_,_=>rfl
 | split b ac p q l r,R,R',hk,hf,hw,hh=>by
  obtain⟨f1,f2,f3⟩:=fits_split hf
  have hl:R.len ac≤R'.len ac:=by cases ac<;>simp only[Rc.len,if_true,Bool.false_eq_true,if_false]<;>assumption
  obtain⟨m1,m2⟩:=Tk hk.1 hk.2.1 f1 hl
  simp only[fits,Bool.and_eq_true,decide_eq_true_eq]
  refine⟨by omega,fits_mono hk.2.2.2.2.1 f2 ?_ ?_,fits_mono hk.2.2.2.2.2 f3 ?_ ?_⟩<;>revert m1 m2<;>cases ac<;>simp only[Rc.len,AS,AO,if_true,Bool.false_eq_true,if_false]<;>intros<;>omega
end Mt
structure Ly where
 root:Mt
 R:Rc
 newest:Int
structure Ly.ok (L:Ly):Prop where
 ok:L.root.ok
 R:L.R.ok
 fits:L.root.fits L.R=true
 nd:L.root.ids.Nodup
 new:∀i∈L.root.ids,i≤L.newest
 few:L.root.ids.length≤16
end Lyc
namespace Lyc
open Go
structure Trn (o o':Nat→Prop) (w w':World):Prop where
 chg:∃F,Chg F w w'∧∀x∈F,o x
 grow:∀x,o' x→o x∨w.heap.size≤x
variable {o o' o'':Nat→Prop} {w w' w'':World}
theorem Trn.size (h:Trn o o' w w'):w.heap.size≤w'.heap.size:=let ⟨_,hc,_⟩:=h.chg;hc.size
theorem Trn.keep (h:Trn o o' w w') {b:Nat} {x:Obj} (hb:w.heap[b]?=some x) (hn:¬o b):w'.heap[b]?=some x :=
 let ⟨_,hc,hF⟩:=h.chg;hc.keep hb fun hm=>hn (hF b hm)
theorem Trn.of {F:List Nat} (hc:Chg F w w') (hF:∀x∈F,o x) (hg:∀x,o' x→o x∨w.heap.size≤x):Trn o o' w w':=⟨⟨F,hc,hF⟩,hg⟩
theorem Trn.of0 (hc:Chg [] w w') (hg:∀x,o' x→o x∨w.heap.size≤x):Trn o o' w w':=⟨⟨[],hc,by simp⟩,hg⟩
theorem Trn.refl (o:Nat→Prop) (w:World):Trn o o w w:=.of0 (Chg.refl _ _) fun _ h=>.inl h
theorem Trn.low {F:List Nat} (hc:Chg F w w') (hF:∀x∈F,o x∨w.heap.size≤x) (hg:∀x,o' x→o x∨w.heap.size≤x):Trn o o' w w':=by
 refine⟨⟨F.filter (fun x=>decide (x<w.heap.size)),hc.mono fun x hx=>?_,fun x hx=>?_⟩,hg⟩
 ·by_cases h:x<w.heap.size
  ·exact .inl (List.mem_filter.2 ⟨hx,by simpa using h⟩)
  ·exact .inr (by omega)
 ·obtain⟨h1,h2⟩:=List.mem_filter.1 hx
  have h3:x<w.heap.size:=by simpa using h2
  exact(hF x h1).elim (fun h=>h) (fun h=>by omega)
theorem Trn.trans (h:Trn o o' w w') (k:Trn o' o'' w' w''):Trn o o'' w w'':=by
 obtain⟨F,hc,hF⟩:=h.chg
 obtain⟨G,hd,hG⟩:=k.chg
 have hz:=hc.size
 refine Trn.low (F:=F++G) ((hc.mono (F':=F++G) fun x hx=>.inl (by simp [hx])).trans hd fun x hx=>.inl (by simp [hx])) (fun x hx=>?_) fun x hx=>?_
 ·rcases List.mem_append.1 hx with hx|hx
  ·exact .inl (hF x hx)
  ·exact h.grow x (hG x hx)
 ·exact(k.grow x hx).elim (h.grow x) fun h=>.inr (by omega)
theorem Trn.chg0 (h:Trn o o' w w') (hc:Chg [] w' w''):Trn o o' w w'':=h.trans (.of0 hc fun _ h=>.inl h)
theorem Trn.base {w0:World} (h:Trn o o' w w') (hc:Chg [] w0 w) (ho:∀x,o x→w0.heap.size≤x):Chg [] w0 w':=by
 obtain⟨F,hd,hF⟩:=h.chg
 exact hc.trans hd fun x hx=>.inr (ho x (hF x hx))
theorem K4 (a b:Nat) (x:Int) (hx:x=a):x.tmod b=((a % b:Nat):Int):=by subst hx;rfl
end Lyc
namespace Go.Proofs.YtelplojmbjnplaaGreatDoor
open Lyc Go
def Ap (w:World):Mt→Prop
 | .pane b id=>w.heap[b]?=some (.cells #[.int .i64 id,.bool false,.int .i64 0,.int .i64 0,.pointer none,.pointer none] 152)
 | .split b ac p q l r=>w.heap[b]?=some (.cells #[.int .i64 0,.bool ac,.int .i64 p,.int .i64 q,.pointer (some ⟨l.blk,0,none⟩),.pointer (some ⟨r.blk,0,none⟩)] 152)∧Ap w l∧Ap w r
theorem Ap.chg {w w':World} {F:List Nat} (hc:Chg F w w'):∀{t:Mt},Ap w t→(∀x∈t.blks,x∉F)→Ap w' t
 | .pane b id,h,hF=>hc.keep h (hF b (by simp [Mt.blks]))
 | .split b ac p q l r,h,hF=>⟨hc.keep h.1 (hF b (by simp [Mt.blks])),Ap.chg hc h.2.1 fun x hx=>hF x (by simp [Mt.blks,hx]),Ap.chg hc h.2.2 fun x hx=>hF x (by simp [Mt.blks,hx])⟩
theorem Ap.chg0 {w w':World} {t:Mt} (h:Ap w t) (hc:Chg [] w w'):Ap w' t:=Ap.chg hc h (by simp)
theorem Ap.tag {w:World}:∀{t:Mt},Ap w t→∀x∈t.blks,∃c fr,w.heap[x]?=some (.cells c 152 fr)
 | .pane b id,h,x,hx=>by simp [Mt.blks] at hx;subst hx;exact⟨_,_,h⟩
 | .split b ac p q l r,h,x,hx=>by
  simp only[Mt.blks,List.mem_cons,List.mem_append] at hx
  rcases hx with rfl|hx|hx
  ·exact⟨_,_,h.1⟩
  ·exact Ap.tag h.2.1 x hx
  ·exact Ap.tag h.2.2 x hx
theorem Ap.lt {w:World} {t:Mt} (h:Ap w t):∀x∈t.blks,x<w.heap.size:=fun x hx=>let ⟨_,_,e⟩:=h.tag x hx;Aa e
theorem Ap.sub {w:World}:∀{t:Mt} {R:Rc},Ap w t→∀x∈t.all R,Ap w x.1
 | .pane b id,R,h,x,hx=>by simp [Mt.all] at hx;subst hx;exact h
 | .split b ac p q l r,R,h,x,hx=>by
  simp only[Mt.all,List.mem_append,List.mem_cons] at hx
  rcases hx with hx|rfl|hx
  ·exact Ap.sub h.2.1 x hx
  ·exact h
  ·exact Ap.sub h.2.2 x hx
theorem Ap.put {w w':World} {F:List Nat} (hc:Chg F w w') {b:Nat} {new:Mt} (hb:new.blk=b) (hn:Ap w' new):∀{t:Mt},Ap w t→(∀x∈t.blks,x∈F→x=b)→Ap w' (t.put b new)
 | .pane c id,h,hF=>by
  unfold Mt.put
  split
  ·exact hn
  ·rename_i hne
   exact hc.keep h fun hm=>hne (hF c (by simp [Mt.blks]) hm)
 | .split c ac p q l r,h,hF=>by
  unfold Mt.put
  split
  ·exact hn
  ·rename_i hne
   refine⟨?_,Ap.put hc hb hn h.2.1 fun x hx=>hF x (by simp [Mt.blks,hx]),Ap.put hc hb hn h.2.2 fun x hx=>hF x (by simp [Mt.blks,hx])⟩
   rw[Mt.put_blk hb,Mt.put_blk hb]
   exact hc.keep h.1 fun hm=>hne (hF c (by simp [Mt.blks]) hm)
theorem C0 {w:World} {t:Mt} (h:Ap w t):Calls Tryz.prog 66 #[.pointer (some ⟨t.blk,0,none⟩)] w (Ac fun v w'=>v=.bool t.isPane∧w'=w):=by
 apply QB
 intro K hK
 unfold OI
 cases t with
 | pane b id =>
  simp only[Ap] at h
  simp only[Mt.blk]
  simp -dsimp (disch:=first|omega|(simp only[go_sem,seval];try omega))only[go_sem,seval,h]
  exact hK _ _ ⟨rfl,rfl⟩
 | split b ac p q l r =>
  have h:=h.1
  simp only[Mt.blk]
  simp -dsimp (disch:=first|omega|(simp only[go_sem,seval];try omega))only[go_sem,seval,h]
  exact hK _ _ ⟨rfl,rfl⟩
theorem Fx (w:World) (R:Rc) (ac:Bool):Calls Tryz.prog 124 #[R.val,.bool ac] w (Ac fun v w'=>v=.int .i64 (R.len ac)∧Chg [] w w'):=by
 apply TB
 intro K hK
 unfold Mr
 cases ac
 ·simp -dsimp (disch:=first|omega|(simp only[go_sem,seval];try omega))only[go_sem,seval,Rc.val]
  exact hK _ _ ⟨rfl,AE _ _⟩
 ·simp -dsimp (disch:=first|omega|(simp only[go_sem,seval];try omega))only[go_sem,seval,Rc.val]
  exact hK _ _ ⟨rfl,AE _ _⟩
theorem NQ {w:World} {b:Nat} {v0 v1 v4 v5:Value} {p q n:Int} (h:w.heap[b]?=some (.cells #[v0,v1,.int .i64 p,.int .i64 q,v4,v5] 152)) (hp:1≤p) (hpq:p≤q) (hq:2≤q) (hq2:q≤200) (hn:0≤n) (hn2:n≤1000) :
  Calls Tryz.prog 123 #[.pointer (some ⟨b,0,none⟩),.int .i64 n] w (Ac fun v w'=>v=.int .i64 (Ay n p q)∧Chg [] w w'):=by
 have hm1:(n-1)*p≤1000*200:=Int.le_trans (Int.mul_le_mul_of_nonneg_right (by omega:n-1≤1000) (by omega)) (Int.mul_le_mul_of_nonneg_left (by omega) (by omega))
 have hm2:-200≤(n-1)*p:=by
  have h1:(-1)*p≤(n-1)*p:=Int.mul_le_mul_of_nonneg_right (by omega) (by omega)
  omega
 have hd:-1000000≤((n-1)*p).tdiv q∧((n-1)*p).tdiv q≤1000000:=by
  have:=Int.natAbs_tdiv_le_natAbs ((n-1)*p) q
  omega
 have hq0:q≠0:=by omega
 apply Wm
 intro K hK
 unfold OV
 simp -dsimp (disch:=first|omega|(simp only[go_sem,seval];try omega))only[go_sem,seval,h,hq0]
 exact hK _ _ ⟨rfl,(Chg.refl _ _).drew⟩
theorem HT {w:World} {b:Nat} {ac:Bool} {p q:Int} {v0 v4 v5:Value} (h:w.heap[b]?=some (.cells #[v0,.bool ac,.int .i64 p,.int .i64 q,v4,v5] 152)) (hp:1≤p) (hpq:p≤q) (hq:2≤q) (hq2:q≤200) {R:Rc} (hR:R.ok) (h3:3≤R.len ac) :
  Calls Tryz.prog 77 #[.pointer (some ⟨b,0,none⟩),R.val] w (Ac fun v w'=>v=.tuple #[(AS R ac (Ay (R.len ac) p q)).val,(Hk R ac (Ay (R.len ac) p q)).val,(AO R ac (Ay (R.len ac) p q)).val]∧Chg [] w w'):=by
 obtain⟨s0,s1⟩:=DE (p:=p) (q:=q) h3
 obtain⟨r1,r2,r3,r4,r5,r6⟩:=hR
 have hl:=Aa h
 apply V6
 intro K hK
 unfold OU
 simp -dsimp (disch:=first|omega|(simp only[go_sem,seval];try omega))only[go_sem,seval,h,Rc.val]
 refine OpX.gen fun w0 hw0=>?_
 have hc0:Chg [] w w0:=by rw[hw0];(repeat (first|exact Chg.refl _ _|apply Chg.drew|apply Chg.alloc|(refine Chg.set ?_ _ _ (by first|(left;simp;done)|(right;omega)))))
 have hz0:w0.heap.size=w.heap.size+4:=by rw[hw0];simp -dsimp (disch:=first|omega|(simp only[go_sem,seval];try omega))only[go_sem,seval]
 have a3:w0.heap[w.heap.size]?=some (.cells #[.int .i64 R.x,.int .i64 R.y,.int .i64 R.w,.int .i64 R.h] 49):=by rw[hw0];simp -dsimp (disch:=first|omega|(simp only[go_sem,seval];try omega))only[go_sem,seval]
 have a4:w0.heap[w.heap.size+1]?=some (.cells #[.int .i64 0,.int .i64 0,.int .i64 0,.int .i64 0] 49):=by rw[hw0];simp -dsimp (disch:=first|omega|(simp only[go_sem,seval];try omega))only[go_sem,seval]
 have a5:w0.heap[w.heap.size+2]?=some (.cells #[.int .i64 0,.int .i64 0,.int .i64 0,.int .i64 0] 49):=by rw[hw0];simp -dsimp (disch:=first|omega|(simp only[go_sem,seval];try omega))only[go_sem,seval]
 have a6:w0.heap[w.heap.size+3]?=some (.cells #[.int .i64 0,.int .i64 0,.int .i64 0,.int .i64 0] 49):=by rw[hw0];simp -dsimp (disch:=first|omega|(simp only[go_sem,seval];try omega))only[go_sem,seval]
 clear hw0
 refine OpX.call GG rfl (Calls.ret (Fx w0 R ac) ?_)
 rintro v w1 ⟨rfl,hc1⟩
 simp -dsimp (disch:=first|omega|(simp only[go_sem,seval];try omega))only[go_sem,seval]
 refine OpX.call JP rfl (Calls.ret (NQ ((hc0.trans0 hc1).keep h (by simp)) hp hpq hq hq2 (by omega) (by cases ac<;>simp only[Rc.len,if_true,Bool.false_eq_true,if_false]<;>omega)) ?_)
 rintro v w2 ⟨rfl,hc2⟩
 have hc02:=(hc0.trans0 hc1).trans0 hc2
 have h2:=hc02.keep h (by simp)
 have hl2:=Aa h2
 have b3:=(hc1.trans0 hc2).keep a3 (by simp)
 have b4:=(hc1.trans0 hc2).keep a4 (by simp)
 have b5:=(hc1.trans0 hc2).keep a5 (by simp)
 have b6:=(hc1.trans0 hc2).keep a6 (by simp)
 have hl6:=Aa b6
 generalize Ay (R.len ac) p q=a at *
 simp -dsimp (disch:=first|omega|(simp only[go_sem,seval];try omega))only[go_sem,seval,b3,b4,b5,b6,h2]
 refine Join0.inl ?_
 cases ac
 ·simp only[Rc.len,Bool.false_eq_true,if_false] at s1 h3
  simp -dsimp (disch:=first|omega|(simp only[go_sem,seval];try omega))only[go_sem,seval,b3,b4,b5,b6,h2]
  refine hK _ _ ⟨rfl,?_⟩
  (repeat (first|with_reducible exact hc02|with_reducible exact Chg.refl _ _|(with_reducible refine Chg.set ?_ _ _ (by first|(left;simp;done)|(right;omega)))|with_reducible apply Chg.drew|with_reducible apply Chg.alloc))
 ·simp only[Rc.len,if_true] at s1 h3
  simp -dsimp (disch:=first|omega|(simp only[go_sem,seval];try omega))only[go_sem,seval,b3,b4,b5,b6,h2]
  refine hK _ _ ⟨rfl,?_⟩
  (repeat (first|with_reducible exact hc02|with_reducible exact Chg.refl _ _|(with_reducible refine Chg.set ?_ _ _ (by first|(left;simp;done)|(right;omega)))|with_reducible apply Chg.drew|with_reducible apply Chg.alloc))
theorem N8 {t:Mt}:∀{w:World} {R:Rc},Ap w t→t.ok→R.ok→Calls Tryz.prog 106 #[.pointer (some ⟨t.blk,0,none⟩),R.val] w (Ac fun v w'=>v=.bool (t.fits R)∧Chg [] w w'):=by
 induction t with
 | pane b id =>
  intro w R h hk hR
  simp only[Mt.blk]
  apply Oj
  intro K hK
  unfold Hw
  simp -dsimp (disch:=first|omega|(simp only[go_sem,seval];try omega))only[go_sem,seval,Rc.val]
  have hc1:=AE w (.cells #[.int .i64 R.x,.int .i64 R.y,.int .i64 R.w,.int .i64 R.h] 49)
  generalize w.alloc _=w1 at hc1 ⊢
  have hp:=C0 (h.chg0 hc1)
  simp only[Mt.blk,Mt.isPane] at hp
  refine OpX.call DD rfl (Calls.ret (hp) ?_)
  rintro v w2 ⟨rfl,rfl⟩
  simp -dsimp (disch:=first|omega|(simp only[go_sem,seval];try omega))only[go_sem,seval]
  exact hK _ _ ⟨rfl,hc1⟩
 | split b ac p q l r ihl ihr =>
  intro w R h hk hR
  obtain⟨k1,k2,k3,k4,k5,k6⟩:=hk
  obtain⟨g0,g1,g2⟩:=h
  have hl:=Aa g0
  simp only[Mt.blk]
  apply Oj
  intro K hK
  unfold Hw
  simp -dsimp (disch:=first|omega|(simp only[go_sem,seval];try omega))only[go_sem,seval,Rc.val]
  refine OpX.gen fun w0 hw0=>?_
  have hc0:Chg [] w w0:=by rw[hw0];(repeat (first|exact Chg.refl _ _|apply Chg.drew|apply Chg.alloc|(refine Chg.set ?_ _ _ (by first|(left;simp;done)|(right;omega)))))
  have hz0:w0.heap.size=w.heap.size+1:=by rw[hw0];simp -dsimp (disch:=first|omega|(simp only[go_sem,seval];try omega))only[go_sem,seval]
  have a3:w0.heap[w.heap.size]?=some (.cells #[.int .i64 R.x,.int .i64 R.y,.int .i64 R.w,.int .i64 R.h] 49):=by rw[hw0];simp -dsimp (disch:=first|omega|(simp only[go_sem,seval];try omega))only[go_sem,seval]
  clear hw0
  refine OpX.call DD rfl (Calls.ret (C0 (t:=.split b ac p q l r) ⟨hc0.keep g0 (by simp),g1.chg0 hc0,g2.chg0 hc0⟩) ?_)
  rintro v w1 ⟨rfl,rfl⟩
  have h1:=hc0.keep g0 (by simp)
  simp -dsimp (disch:=first|omega|(simp only[go_sem,seval];try omega))only[go_sem,seval,Mt.isPane,a3,h1]
  have hc1:=hc0.drew
  refine OpX.call GG rfl (Calls.ret (Fx w1.drew R ac) ?_)
  rintro v w2 ⟨rfl,hc2⟩
  simp -dsimp (disch:=first|omega|(simp only[go_sem,seval];try omega))only[go_sem,seval]
  refine BrW.dec (fun h3=>?_) (fun h3=>?_)
  ·refine hK _ _ ⟨?_,hc1.trans0 hc2⟩
   simp only[Mt.fits]
   rw[decide_eq_false (by omega),Bool.false_and]
  ·have h3':3≤R.len ac:=by omega
   obtain⟨s0,s1⟩:=DE (p:=p) (q:=q) h3'
   obtain⟨f1,-⟩:=Fm hR s0 s1
   obtain⟨e1,-⟩:=FM hR s0 s1
   have hc12:=hc1.trans0 hc2
   have h2:=hc12.keep g0 (by simp)
   have a32:=hc2.keep (show w1.drew.heap[w.heap.size]?=_ from a3) (by simp)
   have hz2:=hc2.size
   have hz2':w1.heap.size≤w2.heap.size:=hz2
   simp -dsimp (disch:=first|omega|(simp only[go_sem,seval];try omega))only[go_sem,seval,a32]
   refine OpX.call G5 rfl (Calls.ret (HT h2 k1 k2 k3 k4 hR h3') ?_)
   rintro v w3 ⟨rfl,hc3⟩
   have hc13:=hc12.trans0 hc3
   have h3w:=hc13.keep g0 (by simp)
   simp -dsimp (disch:=first|omega|(simp only[go_sem,seval];try omega))only[go_sem,seval,Rc.val]
   refine Join1.cut (fun v w'=>v=.bool (l.fits (AS R ac (Ay (R.len ac) p q)) && r.fits (AO R ac (Ay (R.len ac) p q)))∧Chg [] w w') ?_ ?_
   ·have hl3:=Aa h3w
    simp -dsimp (disch:=first|omega|(simp only[go_sem,seval];try omega))only[go_sem,seval,h3w]
    refine OpX.gen fun w4 hw4=>?_
    have hc4:Chg [] w3 w4:=by rw[hw4];(repeat (first|exact Chg.refl _ _|apply Chg.drew|apply Chg.alloc|(refine Chg.set ?_ _ _ (by first|(left;simp;done)|(right;omega)))))
    have a7:w4.heap[w3.heap.size+2]?=some (.cells #[.int .i64 (AO R ac (Ay (R.len ac) p q)).x,.int .i64 (AO R ac (Ay (R.len ac) p q)).y,.int .i64 (AO R ac (Ay (R.len ac) p q)).w,.int .i64 (AO R ac (Ay (R.len ac) p q)).h] 49):=by rw[hw4];simp -dsimp (disch:=first|omega|(simp only[go_sem,seval];try omega))only[go_sem,seval]
    clear hw4
    have hc04:=hc13.trans0 hc4
    refine OpX.call GK rfl (Calls.ret (ihl (g1.chg0 hc04) k5 f1) ?_)
    rintro v w5 ⟨rfl,hc5⟩
    have hc05:=hc04.trans0 hc5
    cases hlf:l.fits (AS R ac (Ay (R.len ac) p q))
    ·simp -dsimp (disch:=first|omega|(simp only[go_sem,seval];try omega))only[go_sem,seval]
     exact hc05
    ·have h5:=hc05.keep g0 (by simp)
     have a75:=hc5.keep a7 (by simp)
     simp -dsimp (disch:=first|omega|(simp only[go_sem,seval];try omega))only[go_sem,seval,h5,a75]
     refine OpX.call GK rfl (Calls.ret (ihr (g2.chg0 hc05) k6 e1) ?_)
     rintro v w6 ⟨rfl,hc6⟩
     exact⟨by rw[Bool.true_and],hc05.trans0 hc6⟩
   ·rintro v w4 ⟨rfl,hc4⟩
    refine hK _ _ ⟨?_,hc4⟩
    simp only[Mt.fits]
    rw[decide_eq_true h3',Bool.true_and]
theorem Sc {yv:Value} (I:Nat→World→Prop) (M:World→Nat→Prop) (hM:∀j w x,I j w→M w x→x<w.heap.size) (hI:∀j w w',I j w→Chg [] w w'→I j w'∧∀x,M w' x→M w x) {t:Mt}:∀{w:World} {R:Rc} (k:Nat),t.ok→R.ok→t.fits R=true→(∀j w,I j w→Ap w t)→I k w →
  (∀j x w,(t.all R)[j]?=some x→I (k+j) w→Bd Tryz.prog yv [.pointer (some ⟨x.1.blk,0,none⟩),x.2.val] (fun v w'=>v=.bool true∧I (k+j+1) w'∧Trn (M w) (M w') w w') w) →
  Calls Tryz.prog 110 #[.pointer (some ⟨t.blk,0,none⟩),R.val,yv] w (Ac fun v w'=>v=.bool true∧I (k+(t.all R).length) w'∧Trn (M w) (M w') w w'):=by
 induction t with
 | pane b id =>
  intro w R k hk hR hf hT h0 hy
  have h:=hT _ _ h0
  simp only[Mt.blk]
  apply L7
  intro K hK
  unfold HX
  simp -dsimp (disch:=first|omega|(simp only[go_sem,seval];try omega))only[go_sem,seval,Rc.val]
  have hz0:(w.alloc (.cells #[.int .i64 R.x,.int .i64 R.y,.int .i64 R.w,.int .i64 R.h] 49)).heap.size=w.heap.size+1:=by simp -dsimp (disch:=first|omega|(simp only[go_sem,seval];try omega))only[go_sem,seval]
  have a3:(w.alloc (.cells #[.int .i64 R.x,.int .i64 R.y,.int .i64 R.w,.int .i64 R.h] 49)).heap[w.heap.size]?=some (.cells #[.int .i64 R.x,.int .i64 R.y,.int .i64 R.w,.int .i64 R.h] 49):=by simp -dsimp (disch:=first|omega|(simp only[go_sem,seval];try omega))only[go_sem,seval]
  have hc1:=AE w (.cells #[.int .i64 R.x,.int .i64 R.y,.int .i64 R.w,.int .i64 R.h] 49)
  generalize w.alloc _=w1 at hc1 hz0 a3 ⊢
  have hp:=C0 (h.chg0 hc1)
  simp only[Mt.blk,Mt.isPane] at hp
  refine OpX.call DD rfl (Calls.ret (hp) ?_)
  rintro v w2 ⟨rfl,rfl⟩
  simp -dsimp (disch:=first|omega|(simp only[go_sem,seval];try omega))only[go_sem,seval,a3]
  obtain⟨i1,m1⟩:=hI _ _ _ h0 hc1
  have:=hy 0 _ w2 rfl i1
  refine(this.use (vs:=[.pointer (some ⟨b,0,none⟩),R.val])) ?_
  rintro v w3 ⟨rfl,h3,h4⟩
  exact hK _ _ ⟨rfl,h3,(Trn.of0 hc1 fun x hx=>.inl (m1 x hx)).trans h4⟩
 | split b ac p q l r ihl ihr =>
  intro w R k hk hR hf hT h0 hy
  obtain⟨k1,k2,k3,k4,k5,k6⟩:=hk
  obtain⟨h3',hfl,hfr⟩:=Mt.fits_split hf
  obtain⟨s0,s1⟩:=DE (p:=p) (q:=q) h3'
  obtain⟨f1,-⟩:=Fm hR s0 s1
  obtain⟨e1,-⟩:=FM hR s0 s1
  have g:=hT _ _ h0
  obtain⟨g0,g1,g2⟩:=hT _ _ h0
  have hl:=Aa g0
  simp only[Mt.blk]
  apply L7
  intro K hK
  unfold HX
  simp -dsimp (disch:=first|omega|(simp only[go_sem,seval];try omega))only[go_sem,seval,Rc.val]
  refine OpX.gen fun w0 hw0=>?_
  have hc0:Chg [] w w0:=by rw[hw0];(repeat (first|exact Chg.refl _ _|apply Chg.drew|apply Chg.alloc|(refine Chg.set ?_ _ _ (by first|(left;simp;done)|(right;omega)))))
  have hz0:w0.heap.size=w.heap.size+1:=by rw[hw0];simp -dsimp (disch:=first|omega|(simp only[go_sem,seval];try omega))only[go_sem,seval]
  have a3:w0.heap[w.heap.size]?=some (.cells #[.int .i64 R.x,.int .i64 R.y,.int .i64 R.w,.int .i64 R.h] 49):=by rw[hw0];simp -dsimp (disch:=first|omega|(simp only[go_sem,seval];try omega))only[go_sem,seval]
  clear hw0
  have hp:=C0 (g.chg0 hc0)
  simp only[Mt.blk,Mt.isPane] at hp
  refine OpX.call DD rfl (Calls.ret (hp) ?_)
  rintro v w1 ⟨rfl,rfl⟩
  have h1:=hc0.keep g0 (by simp)
  simp -dsimp (disch:=first|omega|(simp only[go_sem,seval];try omega))only[go_sem,seval,a3]
  refine OpX.call G5 rfl (Calls.ret (HT h1 k1 k2 k3 k4 hR h3') ?_)
  rintro v w3 ⟨rfl,hc3⟩
  have hc13:=hc0.trans0 hc3
  have h3w:=hc13.keep g0 (by simp)
  have hl3:=Aa h3w
  have a33:=hc3.keep a3 (by simp)
  simp -dsimp (disch:=first|omega|(simp only[go_sem,seval];try omega))only[go_sem,seval,Rc.val]
  refine Join1.cut (fun v w'=>v=.bool true∧I (k+((Mt.split b ac p q l r).all R).length) w'∧Trn (M w) (M w') w w') ?_ (fun v w' h=>hK _ _ h)
  generalize hF:AS R ac (Ay (R.len ac) p q)=F at *
  generalize hS:AO R ac (Ay (R.len ac) p q)=S at *
  have ea:(Mt.split b ac p q l r).all R=l.all F++(Mt.split b ac p q l r,R)::r.all S:=by rw[Mt.all,hF,hS]
  have en:((Mt.split b ac p q l r).all R).length=(l.all F).length+(r.all S).length+1:=by rw[ea];simp;omega
  simp -dsimp (disch:=first|omega|(simp only[go_sem,seval];try omega))only[go_sem,seval,h3w,a33]
  refine OpX.gen fun w4 hw4=>?_
  have hc4:Chg [] w3 w4:=by rw[hw4];(repeat (first|exact Chg.refl _ _|apply Chg.drew|apply Chg.alloc|(refine Chg.set ?_ _ _ (by first|(left;simp;done)|(right;omega)))))
  have hz4:w4.heap.size=w3.heap.size+3:=by rw[hw4];simp -dsimp (disch:=first|omega|(simp only[go_sem,seval];try omega))only[go_sem,seval]
  have a7:w4.heap[w3.heap.size+2]?=some (.cells #[.int .i64 S.x,.int .i64 S.y,.int .i64 S.w,.int .i64 S.h] 49):=by rw[hw4];simp -dsimp (disch:=first|omega|(simp only[go_sem,seval];try omega))only[go_sem,seval]
  clear hw4
  have hc04:=hc13.trans0 hc4
  have a34:=hc4.keep a33 (by simp)
  have hz3:=hc3.size
  obtain⟨i4,m4⟩:=hI _ _ _ h0 hc04
  have lt4:∀x,M w4 x→x<w.heap.size:=fun x hx=>hM _ _ _ h0 (m4 x hx)
  have T4:Trn (M w) (M w4) w w4:=Trn.of0 hc04 fun x hx=>.inl (m4 x hx)
  refine OpX.call H9 rfl (Calls.ret (ihl k k5 f1 hfl (fun j w h=>(hT j w h).2.1) i4 (fun j x w hx h=>hy j x w (by rw[ea,List.getElem?_append_left (by rcases Nat.lt_or_ge j (l.all F).length with h|h;exact h;rw[List.getElem?_eq_none h] at hx;cases hx)];exact hx) h)) ?_)
  rintro v w5 ⟨rfl,i5,t5⟩
  have T5:=T4.trans t5
  have hz5:=t5.size
  have a35:=t5.keep a34 (fun hm=>by have:=lt4 _ hm;omega)
  have a75:=t5.keep a7 (fun hm=>by have:=lt4 _ hm;omega)
  simp -dsimp (disch:=first|omega|(simp only[go_sem,seval];try omega))only[go_sem,seval,a35]
  have y:=hy (l.all F).length (Mt.split b ac p q l r,R) w5 (by rw[ea];simp) i5
  refine(y.use (vs:=[.pointer (some ⟨b,0,none⟩),R.val])) ?_
  rintro v w6 ⟨rfl,i6,t6⟩
  have T6:=T5.trans t6
  have h6:=(hT _ _ i6).1
  have a76:=t6.keep a75 (fun hm=>(t5.grow _ hm).elim (fun h=>by have:=lt4 _ h;omega) (fun h=>by omega))
  have hz6:=t6.size
  simp -dsimp (disch:=first|omega|(simp only[go_sem,seval];try omega))only[go_sem,seval,h6,a76]
  have key:∀j x w,(r.all S)[j]?=some x→I (k+(l.all F).length+1+j) w→Bd Tryz.prog yv [.pointer (some ⟨x.1.blk,0,none⟩),x.2.val] (fun v w'=>v=.bool true∧I (k+(l.all F).length+1+j+1) w'∧Trn (M w) (M w') w w') w:=by
   intro j x w hx h
   have:=hy ((l.all F).length+1+j) x w (by rw[ea,List.getElem?_append_right (by omega),show(l.all F).length+1+j-(l.all F).length=j+1 by omega];exact hx) (by rw[show k+((l.all F).length+1+j)=k+(l.all F).length+1+j by omega];exact h)
   rw[show k+((l.all F).length+1+j)+1=k+(l.all F).length+1+j+1 by omega] at this
   exact this
  refine OpX.call H9 rfl (Calls.ret (ihr (k+(l.all F).length+1) k6 e1 hfr (fun j w h=>(hT j w h).2.2) i6 key) ?_)
  rintro v w7 ⟨rfl,i7,t7⟩
  refine⟨rfl,?_,T6.trans t7⟩
  rw[en]
  have e9:k+((l.all F).length+(r.all S).length+1)=k+(l.all F).length+1+(r.all S).length:=by omega
  rw[e9]
  exact i7
structure LAt (w:World) (b:Nat) (L:Ly):Prop where
 hb:w.heap[b]?=some (.cells #[.pointer (some ⟨L.root.blk,0,none⟩),.int .i64 L.R.x,.int .i64 L.R.y,.int .i64 L.R.w,.int .i64 L.R.h,.int .i64 L.newest] 149)
 tree:Ap w L.root
 nd:L.root.blks.Nodup
section
variable {w w':World} {b:Nat} {L:Ly}
theorem LAt.chg {F:List Nat} (h:LAt w b L) (hc:Chg F w w') (hb:b∉F) (hF:∀x∈L.root.blks,x∉F):LAt w' b L:=⟨hc.keep h.hb hb,h.tree.chg hc hF,h.nd⟩
theorem LAt.chg0 (h:LAt w b L) (hc:Chg [] w w'):LAt w' b L:=h.chg hc (by simp) (by simp)
theorem EF (h:LAt w b L):Calls Tryz.prog 64 #[.pointer (some ⟨b,0,none⟩)] w (Ac fun v w'=>v=.bool false∧w'=w):=by
 have hb:=h.hb
 apply RM
 intro K hK
 unfold MC
 refine Join1.inl ?_
 simp -dsimp (disch:=first|omega|(simp only[go_sem,seval];try omega))only[go_sem,seval,hb]
 exact hK _ _ ⟨rfl,rfl⟩
theorem S9 (w:World) (t:Nat) (R:Rc):Calls Tryz.prog 65 #[.pointer (some ⟨t,0,none⟩),R.val] w (Ac fun v w'=>v=.func (.func 109) #[] #[.pointer (some ⟨w.heap.size,0,none⟩),.pointer (some ⟨w.heap.size+1,0,none⟩)] ∧
  w'.heap[w.heap.size]?=some (.cells #[.pointer (some ⟨t,0,none⟩)] 147)∧w'.heap[w.heap.size+1]?=some (.cells #[.int .i64 R.x,.int .i64 R.y,.int .i64 R.w,.int .i64 R.h] 49)∧Chg [] w w'∧w'.heap.size=w.heap.size+2):=by
 apply YH
 intro K hK
 unfold Jt
 simp -dsimp (disch:=first|omega|(simp only[go_sem,seval];try omega))only[go_sem,seval,Rc.val]
 refine hK _ _ ⟨rfl,?_,?_,by(repeat (first|exact Chg.refl _ _|apply Chg.drew|apply Chg.alloc|(refine Chg.set ?_ _ _ (by first|(left;simp;done)|(right;omega))))),?_⟩
 ·simp -dsimp (disch:=first|omega|(simp only[go_sem,seval];try omega))only[go_sem,seval]
 ·simp -dsimp (disch:=first|omega|(simp only[go_sem,seval];try omega))only[go_sem,seval]
 ·simp -dsimp (disch:=first|omega|(simp only[go_sem,seval];try omega))only[go_sem,seval]
def Ck (p:Int × Rc):List Value:=.int .i64 p.1::p.2.cells
theorem FJ (p:Int × Rc):(Ck p).length=5:=rfl
theorem Sz (p:Int × Rc):AP (Ck p)=true:=rfl
theorem Fp (h:LAt w b L) (ok:L.ok):Calls Tryz.prog 36 #[.pointer (some ⟨b,0,none⟩)] w (Ac fun v w'=>Ox w.heap.size w' 51 5 Ck v (L.root.panes L.R)∧Chg [] w w'):=by
 have hal:=Mt.all_len L.root L.R
 have hfew:=ok.few
 apply R0
 intro K hK
 unfold LV
 have hKo:=hK
 simp -dsimp (disch:=first|omega|(simp only[go_sem,seval];try omega))only[go_sem,seval]
 have hc0:=AE w (.cells #[.slice none 0 0] 37)
 have hb0:=Lyc.heap_alloc_new w (.cells #[.slice none 0 0] 37) _ rfl
 have hz0:(w.alloc (.cells #[.slice none 0 0] 37)).heap.size=w.heap.size+1:=by simp -dsimp (disch:=first|omega|(simp only[go_sem,seval];try omega))only[go_sem,seval]
 generalize w.alloc (.cells #[.slice none 0 0] 37)=w0 at hc0 hb0 hz0 ⊢
 have h0:=h.chg0 hc0
 refine OpX.call E4 rfl (Calls.ret (EF h0) ?_)
 rintro v w1 ⟨rfl,rfl⟩
 have hh:=h0.hb
 simp -dsimp (disch:=first|omega|(simp only[go_sem,seval];try omega))only[go_sem,seval,hh]
 refine OpX.call Wj rfl (Calls.ret (S9 w1.drew L.root.blk L.R) ?_)
 rintro v w2 ⟨rfl,p0,p1,hc2,hz2⟩
 have hc2:Chg [] w1 w2:=hc2.low_drew
 have hz2:w2.heap.size=w1.heap.size+2:=hz2
 refine⟨fun Lp yv hyv=>⟨_,[],_,rfl,UJ,?_⟩⟩
 have hl:((w2.alloc (.deferred (some []))).alloc (Lp .ready)).heap[w2.heap.size+1]?=some (Lp .ready):=by simp -dsimp (disch:=first|omega|(simp only[go_sem,seval];try omega))only[go_sem,seval]
 have hr:((w2.alloc (.deferred (some []))).alloc (Lp .ready)).heap[w2.heap.size]?=some (.deferred (some [])):=by simp -dsimp (disch:=first|omega|(simp only[go_sem,seval];try omega))only[go_sem,seval]
 have hc3:=Cm w2 (.deferred (some [])) (Lp .ready)
 have hz3:((w2.alloc (.deferred (some []))).alloc (Lp .ready)).heap.size=w2.heap.size+2:=by simp -dsimp (disch:=first|omega|(simp only[go_sem,seval];try omega))only[go_sem,seval]
 generalize (w2.alloc (.deferred (some []))).alloc (Lp .ready)=w3 at hl hr hc3 hz3 ⊢
 have hc13:=hc2.trans0 hc3
 have hc03:=hc0.trans0 hc13
 have hb3:=hc13.keep hb0 (by simp)
 have q0:=hc3.keep (show w2.heap[w1.heap.size]?=_ from p0) (by simp)
 have q1:=hc3.keep (show w2.heap[w1.heap.size+1]?=_ from p1) (by simp)
 have hlb:=Aa hb0
 have hz1:w1.heap.size=w.heap.size+1:=hz0
 let I:Nat→World→Prop:=fun j w'=>w3.heap.size≤w'.heap.size∧w'.heap[w2.heap.size+1]?=some (Lp .ready)∧w'.heap[w2.heap.size]?=some (.deferred (some []))∧Ap w' L.root∧∃v,w'.heap[w.heap.size]?=some (.cells #[v] 37)∧Ox w3.heap.size w' 51 5 Ck v (((L.root.all L.R).take j).filterMap Mt.onePane)
 let M:World→Nat→Prop:=fun w' x=>x=w.heap.size∨x=w2.heap.size+1∨∃v,w'.heap[w.heap.size]?=some (.cells #[v] 37)∧v.ownBlock=some x
 have hM:∀j w' x,I j w'→M w' x→x<w'.heap.size:=by
  rintro j w' x ⟨i0,i1,i2,i3,v,i4,i5⟩ (rfl|rfl|⟨v',e,ho⟩)
  ·exact Aa i4
  ·exact Aa i1
  ·rw[i4] at e
   simp only[Option.some.injEq,Obj.cells.injEq,Array.mk.injEq,List.cons.injEq,and_true] at e
   obtain⟨rfl,-⟩:=e
   obtain⟨-,-,-,-,-,hown,-⟩:=i5.form
   exact(hown x ho.symm).2
 have hI:∀j w' w'',I j w'→Chg [] w' w''→I j w''∧∀x,M w'' x→M w' x:=by
  rintro j w' w'' ⟨i0,i1,i2,i3,v,i4,i5⟩ hc
  refine⟨⟨Nat.le_trans i0 hc.size,hc.keep i1 (by simp),hc.keep i2 (by simp),i3.chg0 hc,v,hc.keep i4 (by simp),i5.chg0 hc⟩,?_⟩
  rintro x (rfl|rfl|⟨v',e,ho⟩)
  ·exact .inl rfl
  ·exact .inr (.inl rfl)
  ·rw[hc.keep i4 (by simp)] at e
   simp only[Option.some.injEq,Obj.cells.injEq,Array.mk.injEq,List.cons.injEq,and_true] at e
   obtain⟨rfl,-⟩:=e
   exact .inr (.inr ⟨v,i4,ho⟩)
 have h3:I 0 w3:=⟨Nat.le_refl _,hl,hr,h0.tree.chg0 hc13,_,hb3,Ox.nil _ _ _ _ _⟩
 have hstep:∀j x w',(L.root.all L.R)[j]?=some x→I (0+j) w'→Bd Tryz.prog yv [.pointer (some ⟨x.1.blk,0,none⟩),x.2.val] (fun v w''=>v=.bool true∧I (0+j+1) w''∧Trn (M w') (M w'') w' w'') w':=by
  rintro j ⟨m,S⟩ w' hx ⟨i0,i1,i2,i3,v,i4,i5⟩
  rw[Nat.zero_add] at *
  refine hyv _ _ _ rfl i1 ?_
  have l1:=Aa i1
  have l4:=Aa i4
  have hT:=i3.sub _ (List.mem_of_getElem? hx)
  dsimp only at hT
  simp -dsimp (disch:=first|omega|(simp only[go_sem,seval];try omega))only[go_sem,seval,Rc.val]
  refine⟨i1,?_⟩
  refine OpX.gen fun w5 hw5=>?_
  have hc5:Chg [w2.heap.size+1] w' w5:=by rw[hw5];(repeat (first|exact Chg.refl _ _|apply Chg.drew|apply Chg.alloc|(refine Chg.set ?_ _ _ (by first|(left;simp;done)|(right;omega)))))
  have hz5:w5.heap.size=w'.heap.size+1:=by rw[hw5];simp -dsimp (disch:=first|omega|(simp only[go_sem,seval];try omega))only[go_sem,seval]
  have a5:w5.heap[w'.heap.size]?=some (.cells #[.int .i64 S.x,.int .i64 S.y,.int .i64 S.w,.int .i64 S.h] 49):=by rw[hw5];simp -dsimp (disch:=first|omega|(simp only[go_sem,seval];try omega))only[go_sem,seval]
  have b5:w5.heap[w2.heap.size+1]?=some (Lp .busy):=by rw[hw5];simp -dsimp (disch:=first|omega|(simp only[go_sem,seval];try omega))only[go_sem,seval]
  clear hw5
  have hbl:∀x∈L.root.blks,x≠w2.heap.size+1∧x≠w.heap.size:=fun x hx=>by
   have h9:=h.tree.lt x hx
   have:=hc13.size
   omega
  have hmb:∀x∈m.blks,x∈L.root.blks:=Mt.all_blk _ (List.mem_of_getElem? hx)
  have j2:=hc5.keep i2 (by simp)
  have j3:=Ap.chg hc5 i3 (fun x hx=>by simpa using (hbl x hx).1)
  have j4:=hc5.keep i4 (by simp;omega)
  have j5:=i5.low hc5 (by simp;omega)
  have hT5:=Ap.chg hc5 hT (fun x hx=>by simpa using (hbl x (hmb x hx)).1)
  refine OpX.call DD rfl (Calls.ret (C0 hT5) ?_)
  rintro v' w6 ⟨rfl,rfl⟩
  have ht:(L.root.all L.R).take (j+1)=(L.root.all L.R).take j++[(m,S)]:=by
   rw[List.take_add_one,hx];rfl
  cases m with
  | split mb mac mp mq ml mr =>
   simp -dsimp (disch:=first|omega|(simp only[go_sem,seval];try omega))only[go_sem,seval,Mt.isPane]
   refine⟨b5,?_⟩
   have hc6:Chg [w2.heap.size+1] w6 (Ab w6 (w2.heap.size+1) (Lp .ready)):=(Chg.refl _ _).set _ _ (by simp)
   have hc56:=hc5.trans hc6 (fun x hx=>.inl hx)
   have e9:((L.root.all L.R).take (j+1)).filterMap Mt.onePane=((L.root.all L.R).take j).filterMap Mt.onePane:=by rw[ht,List.filterMap_append];simp [Mt.onePane]
   have k4:=hc6.keep j4 (by simp;omega)
   refine⟨⟨Nat.le_trans i0 hc56.size,Au _ _ _ _ rfl (Aa b5),hc6.keep j2 (by simp),Ap.chg hc6 j3 (fun x hx=>by simpa using (hbl x hx).1),v,k4,?_⟩,Trn.of hc56 (fun x hx=>by simp at hx;exact .inr (.inl hx)) fun x hx=>?_⟩
   ·rw[e9];exact j5.low hc6 (by simp;omega)
   ·rcases hx with hx|hx|⟨v',e,ho⟩
    ·exact .inl (.inl hx)
    ·exact .inl (.inr (.inl hx))
    ·rw[k4] at e
     simp only[Option.some.injEq,Obj.cells.injEq,Array.mk.injEq,List.cons.injEq,and_true] at e
     exact .inl (.inr (.inr ⟨v,i4,e ▸ ho⟩))
  | pane mb mid =>
   simp only[Ap,Mt.blk] at hT5
   obtain⟨a,cap,rfl,hcp,hsx,hown,-⟩:=j5.form
   have e9:((L.root.all L.R).take (j+1)).filterMap Mt.onePane=((L.root.all L.R).take j).filterMap Mt.onePane++[(mid,S)]:=by rw[ht,List.filterMap_append];simp [Mt.onePane]
   have hln:(((L.root.all L.R).take j).filterMap Mt.onePane).length≤100:=by
    have h1:=List.length_filterMap_le Mt.onePane ((L.root.all L.R).take j)
    have h2:((L.root.all L.R).take j).length≤(L.root.all L.R).length:=by rw[List.length_take];omega
    omega
   simp -dsimp (disch:=first|omega|(simp only[go_sem,seval];try omega))only[go_sem,seval,Mt.isPane,Mt.blk,j4,hT5,a5]
   have hw6:=hc5.size
   refine OpX.gen fun w7 hw7=>?_
   have hc7:Chg [] w6 w7:=by rw[hw7];(repeat (first|exact Chg.refl _ _|apply Chg.drew|apply Chg.alloc|(refine Chg.set ?_ _ _ (by first|(left;simp;done)|(right;omega)))))
   have hsa:Sx w7 (some 51) Ck (some ⟨w6.heap.size,0,none⟩) [(mid,S)]:=Sx.built (c:=Ck (mid,S)) (by rw[hw7];simp only[Ck,Rc.cells];simp -dsimp (disch:=first|omega|(simp only[go_sem,seval];try omega))only[go_sem,seval]) rfl
   clear hw7
   have ho7:=j5.chg0 hc7
   have j47:=hc7.keep j4 (by simp)
   have b57:=hc7.keep b5 (by simp)
   have j37:=j3.chg0 hc7
   have j27:=hc7.keep j2 (by simp)
   have hw7:=hc7.size
   refine BL XN FJ Sz ho7 hsa rfl (by rw[List.length_singleton];omega) (by omega) (by omega) ?_
   intro v' w8 ho8 hc8 hown8
   have hge:=ho7.own_ge
   have j48:=hc8.keep j47 (fun hm=>by have:=hge _ hm;omega)
   have b58:=hc8.keep b57 (fun hm=>by have:=hge _ hm;omega)
   have j28:=hc8.keep j27 (fun hm=>by have:=hge _ hm;omega)
   have j38:=Ap.chg hc8 j37 (fun x hx hm=>by have h1:=hge _ hm;have h2:=h.tree.lt x hx;have:=hc03.size;omega)
   have hl8:=Aa j48
   have hlb8:=Aa b58
   obtain⟨a8,cap8,rfl,-,-,hown8',-⟩:=ho8.form
   simp -dsimp (disch:=first|omega|(simp only[go_sem,seval];try omega))only[go_sem,seval,j48,b58]
   have hc9:Chg [w.heap.size,w2.heap.size+1] w8 (Ab (Ab w8 w.heap.size (.cells #[.slice a8 ((((L.root.all L.R).take j).filterMap Mt.onePane)++[(mid,S)]).length cap8] 37)) (w2.heap.size+1) (Lp .ready)):=((Chg.refl _ _).set _ _ (by simp)).set _ _ (by simp)
   have hc59:Chg ([w.heap.size,w2.heap.size+1]++(Value.slice a (((L.root.all L.R).take j).filterMap Mt.onePane).length cap).ownBlock.toList) w' (Ab (Ab w8 w.heap.size (.cells #[.slice a8 ((((L.root.all L.R).take j).filterMap Mt.onePane)++[(mid,S)]).length cap8] 37)) (w2.heap.size+1) (Lp .ready)) :=
    (((hc5.mono (F':=[w.heap.size,w2.heap.size+1]++(Value.slice a (((L.root.all L.R).take j).filterMap Mt.onePane).length cap).ownBlock.toList) (by simp)).trans0 hc7).trans hc8 (fun x hx=>.inl (List.mem_append_right _ hx))).trans hc9 (fun x hx=>.inl (List.mem_append_left _ hx))
   have k4:(Ab (Ab w8 w.heap.size (.cells #[.slice a8 ((((L.root.all L.R).take j).filterMap Mt.onePane)++[(mid,S)]).length cap8] 37)) (w2.heap.size+1) (Lp .ready)).heap[w.heap.size]?=some (.cells #[.slice a8 ((((L.root.all L.R).take j).filterMap Mt.onePane)++[(mid,S)]).length cap8] 37):=by
    rw[AZ _ _ _ _ (by omega)];exact Au _ _ _ _ rfl hl8
   refine⟨⟨Nat.le_trans i0 hc59.size,Au _ _ _ _ rfl (by rw[Dv];exact hlb8),hc9.keep j28 (by simp;omega),Ap.chg hc9 j38 (fun x hx=>by simpa using ⟨(hbl x hx).2,(hbl x hx).1⟩),_,k4,?_⟩,Trn.of hc59 (fun x hx=>?_) fun x hx=>?_⟩
   ·rw[e9];exact ho8.low hc9 (by simp;omega)
   ·simp only[List.cons_append,List.nil_append,List.mem_cons,Option.mem_toList] at hx
    rcases hx with hx|hx|hx
    ·exact .inl hx
    ·exact .inr (.inl hx)
    ·exact .inr (.inr ⟨_,i4,hx⟩)
   ·rcases hx with hx|hx|⟨v',e,ho⟩
    ·exact .inl (.inl hx)
    ·exact .inl (.inr (.inl hx))
    ·rw[k4] at e
     simp only[Option.some.injEq,Obj.cells.injEq,Array.mk.injEq,List.cons.injEq,and_true] at e
     obtain⟨rfl,-⟩:=e
     rcases hown8 with h9|h9
     ·exact .inl (.inr (.inr ⟨_,i4,h9 ▸ ho⟩))
     ·rw[h9] at ho
      cases ho
      exact .inr (by omega)
 apply WU
 intro K hK
 unfold My
 simp -dsimp (disch:=first|omega|(simp only[go_sem,seval];try omega))only[go_sem,seval,q0,q1]
 refine OpX.call H9 rfl (Calls.ret (Sc I M hM hI 0 ok.ok ok.R ok.fits (fun j w h=>h.2.2.2.1) h3 hstep) ?_)
 rintro v w4 ⟨rfl,i4,t4⟩
 rw[Nat.zero_add] at i4
 obtain⟨i0,i1,i2,i3,v,i4,i5⟩:=i4
 rw[List.take_length,Mt.all_panes] at i5
 refine hK _ _ (.inl ⟨i1,?_⟩)
 have l1:=Aa i1
 have hc5:Chg [w2.heap.size+1] w4 (Ab w4 (w2.heap.size+1) (Lp (.over .normal))):=(Chg.refl _ _).set _ _ (by simp)
 have k4:=hc5.keep i4 (by simp;omega)
 have k2:=hc5.keep i2 (by simp)
 have k5:=i5.low hc5 (by simp;omega)
 have t5:=t4
 generalize Ab w4 _ _=w5 at hc5 k4 k2 k5 ⊢
 simp -dsimp (disch:=first|omega|(simp only[go_sem,seval];try omega))only[go_sem,seval,k4]
 refine ER k2 ?_
 have hc6:Chg [w2.heap.size] w5 (Ab w5 w2.heap.size (.deferred none)):=(Chg.refl _ _).set _ _ (by simp)
 refine hKo _ _ ⟨(k5.low hc6 (by simp;omega)).base_le (by omega),?_⟩
 have hc34:Chg [] w w4:=t4.base hc03 (fun x hx=>?_)
 ·exact(hc34.trans hc5 (by simp;omega)).trans hc6 (by simp;omega)
 ·rcases hx with rfl|rfl|⟨v',e,ho⟩
  ·omega
  ·omega
  ·rw[hb3] at e
   simp only[Option.some.injEq,Obj.cells.injEq,Array.mk.injEq,List.cons.injEq,and_true] at e
   obtain⟨rfl,-⟩:=e
   simp [Value.ownBlock] at ho
end
def Dd (l:List Int) (id:Int):Int:=match l.findIdx? (· == id) with
 | none=>0
 | some i=>l.getD ((i+1) % l.length) 0
section
variable {w w':World} {b:Nat} {L:Ly}
theorem Np (h:LAt w b L) (ok:L.ok) (id:Int):Calls Tryz.prog 94 #[.pointer (some ⟨b,0,none⟩),.int .i64 id] w (Ac fun v w'=>v=.int .i64 (Dd L.root.ids id)∧Chg [] w w'):=by
 have hpl:=Mt.panes_len L.root L.R
 have hpi:=Mt.panes_ids L.root L.R
 have hfew:=ok.few
 have hpos:=Mt.ids_pos L.root
 apply PW
 intro K hK
 unfold MD
 refine OpX.call Gb rfl (Calls.ret (Fp h ok) ?_)
 rintro v w1 ⟨ho,hc1⟩
 obtain⟨a,cap,rfl,-,hs,-,-⟩:=ho.form
 simp -dsimp (disch:=first|omega|(simp only[go_sem,seval];try omega))only[go_sem,seval]
 refine Loop1.st (fun q:Nat=>.int .i64 (q:Int)) (fun q w'=>q≤(L.root.panes L.R).length∧Chg [] w1 w'∧∀j,j<q→L.root.ids[j]?≠some id) (fun q=>(L.root.panes L.R).length-q) 0 rfl ⟨by simp,Chg.refl _ _,by simp⟩ ?_
 rintro next i wi hn ⟨hi,hc,hne⟩
 simp -dsimp (disch:=first|omega|(simp only[go_sem,seval];try omega))only[go_sem,seval]
 refine BrW.dec (fun g=>?_) (fun g=>?_)
 ·have hi':i<(L.root.panes L.R).length:=by omega
  obtain⟨b',o,rfl,hbl,hcell⟩:=(hs.chg0 hc).get FJ (List.getElem?_eq_getElem hi')
  have hidi:L.root.ids[i]?=some (L.root.panes L.R)[i].1:=by rw[←hpi,List.getElem?_map,List.getElem?_eq_getElem hi'];rfl
  generalize (L.root.panes L.R)[i]=x at *
  simp only[Ck,Rc.cells] at hcell
  simp -dsimp (disch:=first|omega|(simp only[go_sem,seval];try omega))only[go_sem,seval,hcell]
  have hca:=AE wi (.cells #[.int .i64 x.1,.int .i64 x.2.x,.int .i64 x.2.y,.int .i64 x.2.w,.int .i64 x.2.h] 51)
  generalize wi.alloc _=wj at hca ⊢
  have hcj:=hc.trans0 hca
  refine BrW.dec (fun g2=>?_) (fun g2=>?_)
  ·have hk:(i+1) % (L.root.panes L.R).length<(L.root.panes L.R).length:=Nat.mod_lt _ (by omega)
   obtain⟨b2,o2,e2,hbl2,hcell2⟩:=(hs.chg0 hcj).get FJ (List.getElem?_eq_getElem hk)
   have hidk:L.root.ids[(i+1) % (L.root.panes L.R).length]?=some (L.root.panes L.R)[(i+1) % (L.root.panes L.R).length].1:=by rw[←hpi,List.getElem?_map,List.getElem?_eq_getElem hk];rfl
   generalize (L.root.panes L.R)[(i+1) % (L.root.panes L.R).length]=y at *
   simp only[Option.some.injEq,Addr.mk.injEq,and_true] at e2
   obtain⟨rfl,rfl⟩:=e2
   have hc0:=Cc hcell2 0 (by omega)
   rw[Nat.add_zero] at hc0
   have hy:(Ck y).toArray[0]?=some (.int .i64 y.1):=rfl
   rw[hy] at hc0
   have em:=K4 (i+1) (L.root.panes L.R).length ((i:Int)+1) (by omega)
   simp -dsimp (disch:=first|omega|(simp only[go_sem,seval];try omega))only[go_sem,seval,em,hc0]
   refine hK _ _ ⟨?_,hc1.trans0 hcj⟩
   have hfi:L.root.ids.findIdx? (· == id)=some i:=by
    rw[List.findIdx?_eq_some_iff_getElem]
    obtain⟨hlt,hv⟩:=List.getElem?_eq_some_iff.1 hidi
    refine⟨hlt,by simp [hv,g2],fun j hj=>?_⟩
    have:=hne j hj
    rw[List.getElem?_eq_getElem (by omega)] at this
    simpa using this
   unfold Dd
   rw[hfi]
   dsimp only
   rw[List.getD_eq_getElem?_getD,←hpl,hidk]
   rfl
  ·have e1:(i:Int)+1=((i+1:Nat):Int):=by omega
   simp -dsimp (disch:=first|omega|(simp only[go_sem,seval];try omega))only[go_sem,seval,e1]
   refine hn (i+1) _ ⟨by omega,hcj,fun j hj=>?_⟩ (by omega)
   rcases Nat.lt_or_ge j i with h1|h1
   ·exact hne j h1
   ·have:j=i:=by omega
    subst this
    rw[hidi]
    simpa using g2
 ·have hil:i=(L.root.panes L.R).length:=by omega
  refine hK _ _ ⟨?_,hc1.trans0 hc⟩
  have hfi:L.root.ids.findIdx? (· == id)=none:=by
   rw[List.findIdx?_eq_none_iff]
   intro x hx
   obtain⟨j,hj,e⟩:=List.mem_iff_getElem.1 hx
   have:=hne j (by omega)
   rw[List.getElem?_eq_getElem hj,e] at this
   simpa using this
  unfold Dd
  rw[hfi]
def Cd (x:Mt × Rc):List Value:=.pointer (some ⟨x.1.blk,0,none⟩)::x.2.cells
theorem Dk (x:Mt × Rc):(Cd x).length=5:=rfl
theorem Va (x:Mt × Rc):AP (Cd x)=true:=rfl
theorem HY {t:Mt}:∀{w:World} {R:Rc} (id:Int),Ap w t→t.ok→R.ok→t.fits R=true→t.ids.length≤100→Calls Tryz.prog 176 #[.pointer (some ⟨t.blk,0,none⟩),R.val,.int .i64 id] w (Ac fun v w'=>Ox w.heap.size w' 287 5 Cd v (t.way id R)∧(t.way id R=[]→v=.slice none 0 0)∧Chg [] w w'):=by
 induction t with
 | pane b i =>
  intro w R id h hk hR hf hl
  have hp:=C0 h
  simp only[Mt.blk,Mt.isPane] at hp ⊢
  apply Lf
  intro K hK
  unfold Hj
  simp -dsimp (disch:=first|omega|(simp only[go_sem,seval];try omega))only[go_sem,seval,Rc.val]
  refine OpX.gen fun w0 hw0=>?_
  have hc0:Chg [] w w0:=by rw[hw0];(repeat (first|exact Chg.refl _ _|apply Chg.drew|apply Chg.alloc|(refine Chg.set ?_ _ _ (by first|(left;simp;done)|(right;omega)))))
  have hz0:w0.heap.size=w.heap.size+2:=by rw[hw0];simp -dsimp (disch:=first|omega|(simp only[go_sem,seval];try omega))only[go_sem,seval]
  have a7:w0.heap[w.heap.size+1]?=some (.cells #[.pointer (some ⟨b,0,none⟩),.int .i64 R.x,.int .i64 R.y,.int .i64 R.w,.int .i64 R.h] 287):=by rw[hw0];simp -dsimp (disch:=first|omega|(simp only[go_sem,seval];try omega))only[go_sem,seval]
  clear hw0
  have h0:=h.chg0 hc0
  have hp:=C0 h0
  simp only[Mt.blk,Mt.isPane,Ap] at hp h0
  refine OpX.call DD rfl (Calls.ret (hp) ?_)
  rintro v w1 ⟨rfl,rfl⟩
  simp -dsimp (disch:=first|omega|(simp only[go_sem,seval];try omega))only[go_sem,seval,h0]
  refine BrW.dec (fun g=>?_) (fun g=>?_)
  ·have e:(Mt.pane b i).way id R=[(.pane b i,R)]:=by simp [Mt.way,g]
   simp -dsimp (disch:=first|omega|(simp only[go_sem,seval];try omega))only[go_sem,seval,a7]
   refine hK _ _ ⟨?_,fun h=>by rw[e] at h;simp at h,by(repeat (first|with_reducible exact hc0|with_reducible exact Chg.refl _ _|(with_reducible refine Chg.set ?_ _ _ (by first|(left;simp;done)|(right;omega)))|with_reducible apply Chg.drew|with_reducible apply Chg.alloc))⟩
   rw[e]
   exact Ox.built (c:=Cd (.pane b i,R)) (by simp only[Cd,Rc.cells,Mt.blk];simp -dsimp (disch:=first|omega|(simp only[go_sem,seval];try omega))only[go_sem,seval]) Dk (by omega) rfl rfl (by omega) rfl
  ·have e:(Mt.pane b i).way id R=[]:=by simp [Mt.way,g]
   refine hK _ _ ⟨?_,fun _=>rfl,hc0⟩
   rw[e]
   exact Ox.nil _ _ _ _ _
 | split b ac p q l r ihl ihr =>
  intro w R id h hk hR hf hl
  obtain⟨k1,k2,k3,k4,k5,k6⟩:=hk
  obtain⟨h3',hfl,hfr⟩:=Mt.fits_split hf
  obtain⟨s0,s1⟩:=DE (p:=p) (q:=q) h3'
  obtain⟨f1,-⟩:=Fm hR s0 s1
  obtain⟨e1,-⟩:=FM hR s0 s1
  obtain⟨g0,g1,g2⟩:=h
  have hl0:=Aa g0
  simp only[Mt.ids,List.length_append] at hl
  simp only[Mt.blk]
  apply Lf
  intro K hK
  unfold Hj
  simp -dsimp (disch:=first|omega|(simp only[go_sem,seval];try omega))only[go_sem,seval,Rc.val]
  refine OpX.gen fun w0 hw0=>?_
  have hc0:Chg [] w w0:=by rw[hw0];(repeat (first|exact Chg.refl _ _|apply Chg.drew|apply Chg.alloc|(refine Chg.set ?_ _ _ (by first|(left;simp;done)|(right;omega)))))
  have hz0:w0.heap.size=w.heap.size+2:=by rw[hw0];simp -dsimp (disch:=first|omega|(simp only[go_sem,seval];try omega))only[go_sem,seval]
  have a4:w0.heap[w.heap.size]?=some (.cells #[.int .i64 R.x,.int .i64 R.y,.int .i64 R.w,.int .i64 R.h] 49):=by rw[hw0];simp -dsimp (disch:=first|omega|(simp only[go_sem,seval];try omega))only[go_sem,seval]
  have a7:w0.heap[w.heap.size+1]?=some (.cells #[.pointer (some ⟨b,0,none⟩),.int .i64 R.x,.int .i64 R.y,.int .i64 R.w,.int .i64 R.h] 287):=by rw[hw0];simp -dsimp (disch:=first|omega|(simp only[go_sem,seval];try omega))only[go_sem,seval]
  clear hw0
  have hp:=C0 (t:=.split b ac p q l r) ⟨hc0.keep g0 (by simp),g1.chg0 hc0,g2.chg0 hc0⟩
  simp only[Mt.blk,Mt.isPane] at hp
  refine OpX.call DD rfl (Calls.ret (hp) ?_)
  rintro v w1 ⟨rfl,rfl⟩
  have h1:=hc0.keep g0 (by simp)
  simp -dsimp (disch:=first|omega|(simp only[go_sem,seval];try omega))only[go_sem,seval,a4]
  refine OpX.call G5 rfl (Calls.ret (HT h1 k1 k2 k3 k4 hR h3') ?_)
  rintro v w3 ⟨rfl,hc3⟩
  have hc13:=hc0.trans0 hc3
  have h3w:=hc13.keep g0 (by simp)
  have hl3:=Aa h3w
  have a73:=hc3.keep a7 (by simp)
  have hws:=Mt.way_split (id:=id) (b:=b) (ac:=ac) (p:=p) (q:=q) (l:=l) (r:=r) (R:=R)
  generalize hF:AS R ac (Ay (R.len ac) p q)=F at *
  generalize hS:AO R ac (Ay (R.len ac) p q)=S at *
  simp -dsimp (disch:=first|omega|(simp only[go_sem,seval];try omega))only[go_sem,seval,Rc.val,h3w]
  refine OpX.gen fun w4 hw4=>?_
  have hc4:Chg [] w3 w4:=by rw[hw4];(repeat (first|exact Chg.refl _ _|apply Chg.drew|apply Chg.alloc|(refine Chg.set ?_ _ _ (by first|(left;simp;done)|(right;omega)))))
  have hz4:w4.heap.size=w3.heap.size+3:=by rw[hw4];simp -dsimp (disch:=first|omega|(simp only[go_sem,seval];try omega))only[go_sem,seval]
  have a10:w4.heap[w3.heap.size+2]?=some (.cells #[.int .i64 S.x,.int .i64 S.y,.int .i64 S.w,.int .i64 S.h] 49):=by rw[hw4];simp -dsimp (disch:=first|omega|(simp only[go_sem,seval];try omega))only[go_sem,seval]
  clear hw4
  have hc04:=hc13.trans0 hc4
  have a74:=hc4.keep a73 (by simp)
  refine OpX.call Fe rfl (Calls.ret (ihl id (g1.chg0 hc04) k5 f1 hfl (by omega)) ?_)
  rintro v w5 ⟨ho5,hn5,hc5⟩
  have hc05:=hc04.trans0 hc5
  have a75:=hc5.keep a74 (by simp)
  have a105:=hc5.keep a10 (by simp)
  have h5:=hc05.keep g0 (by simp)
  refine Join1.cut (fun v' w'=>∃V,Ox w.heap.size w' 287 5 Cd v' V∧(V=[]→v'=.slice none 0 0)∧Chg [] w w'∧w'.heap[w.heap.size+1]?=some (.cells #[.pointer (some ⟨b,0,none⟩),.int .i64 R.x,.int .i64 R.y,.int .i64 R.w,.int .i64 R.h] 287) ∧
   V.length≤100∧(Mt.split b ac p q l r).way id R=(if V.isEmpty then[] else(Mt.split b ac p q l r,R)::V)) ?_ ?_
  ·have hwl:=Mt.way_len (id:=id) (t:=l) (R:=F)
   have hwr:=Mt.way_len (id:=id) (t:=r) (R:=S)
   obtain⟨a,cap,rfl,-,hsx,-,hne⟩:=ho5.form
   by_cases hL:l.way id F=[]
   ·have:=hn5 hL
    rw[Value.slice.injEq] at this
    obtain⟨rfl,h9,rfl⟩:=this
    rw[h9]
    simp -dsimp (disch:=first|omega|(simp only[go_sem,seval];try omega))only[go_sem,seval,h5,a105]
    refine OpX.call Fe rfl (Calls.ret (ihr id (g2.chg0 hc05.drew) k6 e1 hfr (by omega)) ?_)
    rintro v w6 ⟨ho6,hn6,hc6⟩
    refine⟨_,ho6.base_le hc05.size,hn6,hc05.trans0 hc6.low_drew,hc6.low_drew.keep a75 (by simp),by omega,?_⟩
    rcases hws with ⟨e,e2⟩|⟨e,e2,e3⟩|⟨e,e2,e3⟩
    ·exact absurd hL e2
    ·rw[e2,if_neg (by simpa using e3)]
    ·rw[e3,e2];rfl
   ·obtain⟨gb,rfl,-,-⟩:=hne hL
    simp -dsimp (disch:=first|omega|(simp only[go_sem,seval];try omega))only[go_sem,seval]
    refine⟨_,ho5.base_le hc04.size,fun h=>absurd h hL,hc05,a75,by omega,?_⟩
    rcases hws with ⟨e,e2⟩|⟨e,e2,e3⟩|⟨e,e2,e3⟩
    ·rw[e,if_neg (by simpa using e2)]
    ·exact absurd e hL
    ·exact absurd e hL
  ·rintro v w6 ⟨V,ho6,hn6,hc6,a76,hVl,hway⟩
   obtain⟨a,cap,rfl,-,hsx,-,hne⟩:=ho6.form
   by_cases hV:V=[]
   ·subst hV
    have:=hn6 rfl
    rw[Value.slice.injEq] at this
    obtain⟨rfl,-,rfl⟩:=this
    simp -dsimp (disch:=first|omega|(simp only[go_sem,seval];try omega))only[go_sem,seval]
    refine hK _ _ ⟨?_,fun _=>rfl,hc6⟩
    rw[hway]
    exact Ox.nil _ _ _ _ _
   ·obtain⟨gb,rfl,-,-⟩:=hne hV
    simp -dsimp (disch:=first|omega|(simp only[go_sem,seval];try omega))only[go_sem,seval,a76]
    refine OpX.gen fun w7 hw7=>?_
    have hc7:Chg [] w6 w7:=by rw[hw7];(repeat (first|exact Chg.refl _ _|apply Chg.drew|apply Chg.alloc|(refine Chg.set ?_ _ _ (by first|(left;simp;done)|(right;omega)))))
    have ho7:Ox w.heap.size w7 287 5 Cd (.slice (some ⟨w6.heap.size,0,none⟩) 1 1) [(Mt.split b ac p q l r,R)]:=Ox.built (c:=Cd (.split b ac p q l r,R)) (by rw[hw7];simp only[Cd,Rc.cells,Mt.blk];simp -dsimp (disch:=first|omega|(simp only[go_sem,seval];try omega))only[go_sem,seval]) Dk hc6.size rfl rfl (by omega) rfl
    clear hw7
    refine BL Uk Dk Va ho7 (hsx.chg0 hc7) rfl (by rw[List.length_singleton];omega) (by omega) (Nat.le_trans hc6.size hc7.size) ?_
    intro v' w8 ho8 hc8 hown8
    refine hK _ _ ⟨?_,fun h=>?_,(hc6.trans0 hc7).trans hc8 (fun x hx=>.inr (ho7.own_ge x hx))⟩
    ·rw[hway,if_neg (by simpa using hV)]
     exact ho8
    ·rw[hway,if_neg (by simpa using hV)] at h
     simp at h
end
set_option maxRecDepth 100000
def Nj (p0 p1:Value) (K:Value→World→Prop):World→Prop :=
 xO .eql 99 p0 (.pointer none) fun t8 =>
 xW t8
 (K (.tuple #[])) <|
 xU p1 108 fun t10 =>
 Loop1 (.int .i64 0) fun t11 next1 =>
 xO .lss 3 t11 t10 fun t12 =>
 xW t12
 (xI 108 p1 t11 fun t13 =>
 xL 9 t13 fun t14 =>
 Loop1 t14 fun t5 next2 =>
 xU t5 9 fun t16 =>
 xO .gtr 3 t16 (.int .i64 0) fun t17 =>
 xW t17
 (xU t5 9 fun t19 =>
 OpX Tryz.prog (.call { callee:=.builtin .min,args:=#[.const t19,.const (.int .i64 4096)],argTypes:=#[3,3] }) 3 fun t20 =>
 Aj <|
 xP (.nilCheck (.const p0)) 0 fun t22 =>
 qF 163 t22 0 fun t23 =>
 qL 155 t23 fun t24 =>
 xP (.nilCheck (.const p0)) 0 fun t26 =>
 qF 163 t26 2 fun t27 =>
 xP (.nilCheck (.const p0)) 0 fun t29 =>
 qF 163 t29 1 fun t30 =>
 xP (.slice 9 (.const t5) none (some (.const t20)) none) 9 fun t33 =>
 xC 102 [.const t30,.const t33] [157,9] 200 fun t34 =>
 xT (qZ 155 t23 t24) <|
 xC 101 [.const t27,.const t34] [160,200] 198 fun t35 =>
 xT (qZ 155 t23 t24) <|
 xC 100 [.const t24,.const t35] [155,198] 0 fun _ =>
 OpX Tryz.prog (.slice 9 (.const t5) (some (.const t20)) none none) 9 fun t39 =>
 next2 t39) <|
 xO .add 3 t11 (.int .i64 1) fun t40 =>
 next1 t40) <|
 Aj <|
 xP (.nilCheck (.const p0)) 0 fun t42 =>
 qF 163 t42 3 fun t43 =>
 qL 161 t43 fun t44 =>
 xP (.nilCheck (.const p0)) 0 fun t46 =>
 qF 163 t46 0 fun t47 =>
 qL 155 t47 fun t48 =>
 xC 104 [.const t48] [155] 203 fun t49 =>
 xT (qZ 161 t43 t44) <|
 xC 103 [.const t44,.const t49] [161,203] 0 fun _ =>
 K (.tuple #[])
theorem T7 (p0 p1:Value):Lk 57 #[p0,p1] (Nj p0 p1):=lk [p0,p1] [(10,[11]),(22,[5])] Tryz.func57
theorem Zh:Ad Tryz.prog 57:=bd Tryz.func57
def IT (p0 p1 p2:Value) (K:Value→World→Prop):World→Prop :=
 xO .eql 99 p0 (.pointer none) fun t8 =>
 xW t8
 (K (.bool false)) <|
 OpX Tryz.prog (.nilCheck (.const p0)) 0 fun t10 =>
 xF 163 t10 0 fun t11 =>
 xL 155 t11 fun t12 =>
 xC 127 [.const t12,.const p1,.const p2] [155,3,3] 4 fun t15 =>
 K t15
theorem ZB (p0 p1 p2:Value):Lk 84 #[p0,p1,p2] (IT p0 p1 p2):=lk [p0,p1,p2] [] Tryz.func84
theorem YA:Ad Tryz.prog 84:=bd Tryz.func84
def OK (p0:Value) (K:Value→World→Prop):World→Prop :=
 xO .eql 99 p0 (.pointer none) fun t4 =>
 xW t4
 (K (.int .i64 0)) <|
 OpX Tryz.prog (.nilCheck (.const p0)) 0 fun t6 =>
 xF 163 t6 3 fun t7 =>
 xL 161 t7 fun t8 =>
 xC 115 [.const t8] [161] 3 fun t9 =>
 K t9
theorem Yp (p0:Value):Lk 105 #[p0] (OK p0):=lk [p0] [] Tryz.func105
theorem Py:Ad Tryz.prog 105:=bd Tryz.func105
def NF (p0 p1 p2:Value) (K:Value→World→Prop):World→Prop :=
 xC 128 [.const p0,.const p1] [3,3] 155 fun t10 =>
 xO .eql 155 t10 (.pointer none) fun t12 =>
 xW t12
 (K (.pointer none)) <|
 xC 129 [.const p2] [3] 161 fun t15 =>
 OpX Tryz.prog (.build 163 #[(0,.const t10),(3,.const t15)]) 163 fun t16 =>
 OpX Tryz.prog (.box 163 (.const t16)) 99 fun t17 =>
 K t17
theorem QC (p0 p1 p2:Value):Lk 85 #[p0,p1,p2] (NF p0 p1 p2):=lk [p0,p1,p2] [] Tryz.func85
theorem TC:Ad Tryz.prog 85:=bd Tryz.func85
def M6 (p0 p1:Value) (K:Value→World→Prop):World→Prop :=
 xU p1 200 fun t11 =>
 Loop2 (.slice none 0 0) (.int .i64 0) fun t5 t12 next1 =>
 xO .lss 3 t12 t11 fun t13 =>
 xW t13
 (Join1 (fun k2 =>
 xI 200 p1 t12 fun t14 =>
 xL 21 t14 fun t15 =>
 xC 139 [.const p0,.const t15] [250,21] 251 fun t19 =>
 xE t19 0 247 fun t20 =>
 xE t19 1 4 fun t21 =>
 xA 247 fun t8 =>
 xS 247 t8 t20 <|
 xW t21
 (xL 247 t8 fun t24 =>
 OpX Tryz.prog (.buildSlice 198 1 #[(0,.const t24)]) 198 fun t25 =>
 OpX Tryz.prog (.call { callee:=.builtin .append,args:=#[.const t5,.const t25],argTypes:=#[198,198] }) 198 fun t26 =>
 k2 t26) <|
 k2 t5) fun t5_1 =>
 xO .add 3 t12 (.int .i64 1) fun t27 =>
 next1 t5_1 t27) <|
 K t5
theorem Tn (p0 p1:Value):Lk 101 #[p0,p1] (M6 p0 p1):=lk [p0,p1] [(8,[5,12]),(15,[5])] Tryz.func101
theorem SF:Ad Tryz.prog 101:=bd Tryz.func101
def NZ (p0 p1:Value) (K:Value→World→Prop):World→Prop :=
 xA 247 fun t4 =>
 xO .eql 250 p0 (.pointer none) fun t7 =>
 xW t7
 (OpX Tryz.prog (.build 247 #[]) 247 fun t8 =>
 xS 247 t4 t8 <|
 xD 247 t4 fun t4_1 =>
 K (.tuple #[t4_1,(.bool false)])) <|
 xO .eql 21 p1 (.int .i32 27) fun t11 =>
 xW t11
 (OpX Tryz.prog (.build 160 #[(0,.const (.int .i64 1))]) 160 fun t13 =>
 OpX Tryz.prog (.nilCheck (.const p0)) 0 fun t14 =>
 xS 160 t14 t13 <|
 OpX Tryz.prog (.build 247 #[]) 247 fun t15 =>
 xS 247 t4 t15 <|
 xD 247 t4 fun t4_2 =>
 K (.tuple #[t4_2,(.bool false)])) <|
 Join1 (fun k1 =>
 xO .eql 21 p1 (.int .i32 24) fun t18 =>
 xW t18
 (k1 (.bool true)) <|
 xO .eql 21 p1 (.int .i32 26) fun t21 =>
 k1 t21) fun t16 =>
 xW t16
 (xC 190 [.const p0] [250] 0 fun _ =>
 OpX Tryz.prog (.build 247 #[]) 247 fun t25 =>
 xS 247 t4 t25 <|
 xD 247 t4 fun t4_3 =>
 K (.tuple #[t4_3,(.bool false)])) <|
 Join1 (fun k2 =>
 xO .lss 21 p1 (.int .i32 0) fun t28 =>
 xW t28
 (k2 (.bool true)) <|
 xO .geq 21 p1 (.int .i32 127) fun t31 =>
 xW t31
 (xO .leq 21 p1 (.int .i32 159) fun t34 =>
 xW t34
 (k2 (.bool true)) <|
 xO .gtr 21 p1 (.int .i32 1114111) fun t39 =>
 k2 t39) <|
 xO .gtr 21 p1 (.int .i32 1114111) fun t39_1 =>
 k2 t39_1) fun t26 =>
 xW t26
 (OpX Tryz.prog (.build 247 #[]) 247 fun t41 =>
 xS 247 t4 t41 <|
 xD 247 t4 fun t4_4 =>
 K (.tuple #[t4_4,(.bool false)])) <|
 Join1 (fun k3 =>
 xO .lss 21 p1 (.int .i32 32) fun t44 =>
 xW t44
 (OpX Tryz.prog (.nilCheck (.const p0)) 0 fun t47 =>
 xF 160 t47 0 fun t48 =>
 xL 3 t48 fun t49 =>
 xO .eql 3 t49 (.int .i64 4) fun t50 =>
 k3 t50) <|
 k3 (.bool false)) fun t42 =>
 xW t42
 (Join0 (fun k4 =>
 xO .eql 21 p1 (.int .i32 7) fun t53 =>
 xW t53
 (xC 190 [.const p0] [250] 0 fun _ =>
 k4) <|
 k4) <|
 OpX Tryz.prog (.build 247 #[]) 247 fun t56 =>
 xS 247 t4 t56 <|
 xD 247 t4 fun t4_5 =>
 K (.tuple #[t4_5,(.bool false)])) <|
 xO .lss 21 p1 (.int .i32 32) fun t59 =>
 xW t59
 (OpX Tryz.prog (.build 247 #[(0,.const (.int .i64 2)),(1,.const p1)]) 247 fun t61 =>
 xS 247 t4 t61 <|
 xD 247 t4 fun t4_6 =>
 K (.tuple #[t4_6,(.bool true)])) <|
 Join0 (fun k5 =>
 OpX Tryz.prog (.nilCheck (.const p0)) 0 fun t63 =>
 xF 160 t63 0 fun t64 =>
 xL 3 t64 fun t65 =>
 xO .eql 3 t65 (.int .i64 0) fun t67 =>
 xW t67
 (OpX Tryz.prog (.build 247 #[(0,.const (.int .i64 1)),(1,.const p1)]) 247 fun t69 =>
 xS 247 t4 t69 <|
 xD 247 t4 fun t4_7 =>
 K (.tuple #[t4_7,(.bool true)])) <|
 xO .eql 3 t65 (.int .i64 1) fun t71 =>
 xW t71
 (xC 191 [.const p0,.const p1] [250,21] 251 fun t74 =>
 xE t74 0 247 fun t75 =>
 xE t74 1 4 fun t76 =>
 xS 247 t4 t75 <|
 xD 247 t4 fun t4_8 =>
 K (.tuple #[t4_8,t76])) <|
 xO .eql 3 t65 (.int .i64 2) fun t78 =>
 xW t78
 (xC 192 [.const p0,.const p1] [250,21] 251 fun t81 =>
 xE t81 0 247 fun t82 =>
 xE t81 1 4 fun t83 =>
 xS 247 t4 t82 <|
 xD 247 t4 fun t4_9 =>
 K (.tuple #[t4_9,t83])) <|
 xO .eql 3 t65 (.int .i64 3) fun t85 =>
 xW t85
 (Join1 (fun k6 =>
 xO .geq 21 p1 (.int .i32 64) fun t87 =>
 xW t87
 (xO .leq 21 p1 (.int .i32 126) fun t90 =>
 k6 t90) <|
 k6 (.bool false)) fun t91 =>
 xW t91
 (xC 190 [.const p0] [250] 0 fun _ =>
 k5) <|
 k5) <|
 k5) <|
 OpX Tryz.prog (.build 247 #[]) 247 fun t94 =>
 xS 247 t4 t94 <|
 xD 247 t4 fun t4_10 =>
 K (.tuple #[t4_10,(.bool false)])
theorem PZ (p0 p1:Value):Lk 139 #[p0,p1] (NZ p0 p1):=lk [p0,p1] [(21,[16]),(29,[26]),(35,[42]),(37,[]),(53,[]),(79,[91])] Tryz.func139
theorem Zi:Ad Tryz.prog 139:=bd Tryz.func139
def Od (p0:Value) (K:Value→World→Prop):World→Prop :=
 xO .neq 250 p0 (.pointer none) fun t3 =>
 xW t3
 (OpX Tryz.prog (.build 160 #[]) 160 fun t5 =>
 OpX Tryz.prog (.nilCheck (.const p0)) 0 fun t6 =>
 xS 160 t6 t5 <|
 K (.tuple #[])) <|
 K (.tuple #[])
theorem Rl (p0:Value):Lk 190 #[p0] (Od p0):=lk [p0] [] Tryz.func190
theorem Ek:Ad Tryz.prog 190:=bd Tryz.func190
def JW (p0 p1:Value) (K:Value→World→Prop):World→Prop :=
 xA 247 fun t4 =>
 OpX Tryz.prog (.nilCheck (.const p0)) 0 fun t8 =>
 xF 160 t8 2 fun t9 =>
 xL 5 t9 fun t10 =>
 Join0 (fun k1 =>
 Join1 (fun k2 =>
 xO .leq 21 p1 (.int .i32 47) fun t15 =>
 xW t15
 (xO .eql 5 t10 (.int .u8 0) fun t18 =>
 k2 t18) <|
 k2 (.bool false)) fun t13 =>
 xW t13
 (OpX Tryz.prog (.convert 21 5 (.const p1)) 5 fun t22 =>
 OpX Tryz.prog (.nilCheck (.const p0)) 0 fun t23 =>
 xF 160 t23 2 fun t24 =>
 xS 5 t24 t22 <|
 k1) <|
 xO .leq 21 p1 (.int .i32 47) fun t27 =>
 xW t27
 (OpX Tryz.prog (.nilCheck (.const p0)) 0 fun t29 =>
 xF 160 t29 2 fun t30 =>
 xS 5 t30 (.int .u8 255) <|
 k1) <|
 Join1 (fun k3 =>
 xO .eql 21 p1 (.int .i32 91) fun t33 =>
 xW t33
 (xO .eql 5 t10 (.int .u8 0) fun t36 =>
 k3 t36) <|
 k3 (.bool false)) fun t31 =>
 xW t31
 (OpX Tryz.prog (.build 160 #[(0,.const (.int .i64 2))]) 160 fun t39 =>
 OpX Tryz.prog (.nilCheck (.const p0)) 0 fun t40 =>
 xS 160 t40 t39 <|
 k1) <|
 Join1 (fun k4 =>
 xO .eql 21 p1 (.int .i32 80) fun t43 =>
 xW t43
 (xO .eql 5 t10 (.int .u8 0) fun t58 =>
 k4 t58) <|
 xO .eql 21 p1 (.int .i32 88) fun t46 =>
 xW t46
 (xO .eql 5 t10 (.int .u8 0) fun t58_1 =>
 k4 t58_1) <|
 xO .geq 21 p1 (.int .i32 93) fun t50 =>
 xW t50
 (xO .leq 21 p1 (.int .i32 95) fun t53 =>
 xW t53
 (xO .eql 5 t10 (.int .u8 0) fun t58_2 =>
 k4 t58_2) <|
 k4 (.bool false)) <|
 k4 (.bool false)) fun t41 =>
 xW t41
 (OpX Tryz.prog (.build 160 #[(0,.const (.int .i64 4))]) 160 fun t61 =>
 OpX Tryz.prog (.nilCheck (.const p0)) 0 fun t62 =>
 xS 160 t62 t61 <|
 k1) <|
 Join1 (fun k5 =>
 xO .leq 21 p1 (.int .i32 126) fun t65 =>
 xW t65
 (xO .neq 5 t10 (.int .u8 255) fun t68 =>
 k5 t68) <|
 k5 (.bool false)) fun t63 =>
 xW t63
 (xC 190 [.const p0] [250] 0 fun _ =>
 OpX Tryz.prog (.build 247 #[(0,.const (.int .i64 3)),(1,.const p1),(3,.const t10)]) 247 fun t74 =>
 xS 247 t4 t74 <|
 xD 247 t4 fun t4_1 =>
 K (.tuple #[t4_1,(.bool true)])) <|
 xC 190 [.const p0] [250] 0 fun _ =>
 k1) <|
 OpX Tryz.prog (.build 247 #[]) 247 fun t75 =>
 xS 247 t4 t75 <|
 xD 247 t4 fun t4_2 =>
 K (.tuple #[t4_2,(.bool false)])
theorem RV (p0 p1:Value):Lk 191 #[p0,p1] (JW p0 p1):=lk [p0,p1] [(4,[]),(7,[13]),(15,[31]),(19,[41]),(23,[63])] Tryz.func191
theorem WB:Ad Tryz.prog 191:=bd Tryz.func191
def L0 (p0 p1:Value) (K:Value→World→Prop):World→Prop :=
 xA 247 fun t4 =>
 Join0 (fun k1 =>
 Join1 (fun k2 =>
 xO .geq 21 p1 (.int .i32 48) fun t12 =>
 xW t12
 (xO .leq 21 p1 (.int .i32 57) fun t15 =>
 xW t15
 (OpX Tryz.prog (.nilCheck (.const p0)) 0 fun t19 =>
 xF 160 t19 2 fun t20 =>
 xL 5 t20 fun t21 =>
 xO .eql 5 t21 (.int .u8 0) fun t22 =>
 k2 t22) <|
 k2 (.bool false)) <|
 k2 (.bool false)) fun t10 =>
 xW t10
 (OpX Tryz.prog (.nilCheck (.const p0)) 0 fun t26 =>
 xF 160 t26 3 fun t27 =>
 xL 3 t27 fun t28 =>
 OpX Tryz.prog (.call { callee:=.builtin .max,args:=#[.const t28,.const (.int .i64 1)],argTypes:=#[3,3] }) 3 fun t29 =>
 OpX Tryz.prog (.nilCheck (.const p0)) 0 fun t30 =>
 xF 160 t30 3 fun t31 =>
 xS 3 t31 t29 <|
 OpX Tryz.prog (.nilCheck (.const p0)) 0 fun t33 =>
 xF 160 t33 3 fun t34 =>
 xL 3 t34 fun t35 =>
 xO .leq 3 t35 (.int .i64 8) fun t36 =>
 xW t36
 (Aj <|
 xP (.nilCheck (.const p0)) 0 fun t39 =>
 qF 160 t39 3 fun t40 =>
 qL 3 t40 fun t41 =>
 qP .sub 3 t41 (.int .i64 1) fun t42 =>
 xP (.nilCheck (.const p0)) 0 fun t45 =>
 qF 160 t45 3 fun t46 =>
 qL 3 t46 fun t47 =>
 qP .sub 3 t47 (.int .i64 1) fun t48 =>
 xP (.nilCheck (.const p0)) 0 fun t49 =>
 qF 160 t49 4 fun t50 =>
 xP (.indexAddr 158 (.const t50) (.const t48)) 0 fun t51 =>
 qL 3 t51 fun t52 =>
 qP .mul 3 t52 (.int .i64 10) fun t53 =>
 qP .sub 21 p1 (.int .i32 48) fun t55 =>
 xP (.convert 21 3 (.const t55)) 3 fun t56 =>
 qP .add 3 t53 t56 fun t57 =>
 xP (.call { callee:=.builtin .min,args:=#[.const t57,.const (.int .i64 9999)],argTypes:=#[3,3] }) 3 fun t58 =>
 xP (.nilCheck (.const p0)) 0 fun t59 =>
 qF 160 t59 4 fun t60 =>
 xP (.indexAddr 158 (.const t60) (.const t42)) 0 fun t61 =>
 xS 3 t61 t58 <|
 k1) <|
 k1) <|
 Join1 (fun k3 =>
 xO .eql 21 p1 (.int .i32 58) fun t64 =>
 xW t64
 (OpX Tryz.prog (.nilCheck (.const p0)) 0 fun t71 =>
 xF 160 t71 2 fun t72 =>
 xL 5 t72 fun t73 =>
 xO .eql 5 t73 (.int .u8 0) fun t74 =>
 k3 t74) <|
 xO .eql 21 p1 (.int .i32 59) fun t67 =>
 xW t67
 (OpX Tryz.prog (.nilCheck (.const p0)) 0 fun t71_1 =>
 xF 160 t71_1 2 fun t72_1 =>
 xL 5 t72_1 fun t73_1 =>
 xO .eql 5 t73_1 (.int .u8 0) fun t74_1 =>
 k3 t74_1) <|
 k3 (.bool false)) fun t62 =>
 xW t62
 (OpX Tryz.prog (.nilCheck (.const p0)) 0 fun t78 =>
 xF 160 t78 3 fun t79 =>
 xL 3 t79 fun t80 =>
 OpX Tryz.prog (.call { callee:=.builtin .max,args:=#[.const t80,.const (.int .i64 1)],argTypes:=#[3,3] }) 3 fun t81 =>
 xO .add 3 t81 (.int .i64 1) fun t82 =>
 OpX Tryz.prog (.call { callee:=.builtin .min,args:=#[.const t82,.const (.int .i64 9)],argTypes:=#[3,3] }) 3 fun t83 =>
 OpX Tryz.prog (.nilCheck (.const p0)) 0 fun t84 =>
 xF 160 t84 3 fun t85 =>
 xS 3 t85 t83 <|
 k1) <|
 Join1 (fun k4 =>
 xO .geq 21 p1 (.int .i32 60) fun t88 =>
 xW t88
 (xO .leq 21 p1 (.int .i32 63) fun t91 =>
 xW t91
 (OpX Tryz.prog (.nilCheck (.const p0)) 0 fun t95 =>
 xF 160 t95 1 fun t96 =>
 xL 5 t96 fun t97 =>
 xO .eql 5 t97 (.int .u8 0) fun t98 =>
 xW t98
 (OpX Tryz.prog (.nilCheck (.const p0)) 0 fun t102 =>
 xF 160 t102 2 fun t103 =>
 xL 5 t103 fun t104 =>
 xO .eql 5 t104 (.int .u8 0) fun t105 =>
 xW t105
 (OpX Tryz.prog (.nilCheck (.const p0)) 0 fun t109 =>
 xF 160 t109 3 fun t110 =>
 xL 3 t110 fun t111 =>
 xO .eql 3 t111 (.int .i64 0) fun t112 =>
 k4 t112) <|
 k4 (.bool false)) <|
 k4 (.bool false)) <|
 k4 (.bool false)) <|
 k4 (.bool false)) fun t86 =>
 xW t86
 (OpX Tryz.prog (.convert 21 5 (.const p1)) 5 fun t116 =>
 OpX Tryz.prog (.nilCheck (.const p0)) 0 fun t117 =>
 xF 160 t117 1 fun t118 =>
 xS 5 t118 t116 <|
 k1) <|
 Join1 (fun k5 =>
 xO .leq 21 p1 (.int .i32 47) fun t121 =>
 xW t121
 (OpX Tryz.prog (.nilCheck (.const p0)) 0 fun t124 =>
 xF 160 t124 2 fun t125 =>
 xL 5 t125 fun t126 =>
 xO .eql 5 t126 (.int .u8 0) fun t127 =>
 k5 t127) <|
 k5 (.bool false)) fun t119 =>
 xW t119
 (OpX Tryz.prog (.convert 21 5 (.const p1)) 5 fun t131 =>
 OpX Tryz.prog (.nilCheck (.const p0)) 0 fun t132 =>
 xF 160 t132 2 fun t133 =>
 xS 5 t133 t131 <|
 k1) <|
 Join1 (fun k6 =>
 xO .geq 21 p1 (.int .i32 64) fun t136 =>
 xW t136
 (xO .leq 21 p1 (.int .i32 126) fun t139 =>
 k6 t139) <|
 k6 (.bool false)) fun t134 =>
 xW t134
 (Aj <|
 Join1 (fun k7 =>
 xP (.nilCheck (.const p0)) 0 fun t143 =>
 qF 160 t143 1 fun t144 =>
 qL 5 t144 fun t145 =>
 xP (.nilCheck (.const p0)) 0 fun t147 =>
 qF 160 t147 2 fun t148 =>
 qL 5 t148 fun t149 =>
 xP (.nilCheck (.const p0)) 0 fun t151 =>
 qF 160 t151 3 fun t152 =>
 qL 3 t152 fun t153 =>
 xP (.call { callee:=.builtin .min,args:=#[.const t153,.const (.int .i64 8)],argTypes:=#[3,3] }) 3 fun t154 =>
 xP (.nilCheck (.const p0)) 0 fun t156 =>
 qF 160 t156 4 fun t157 =>
 qL 158 t157 fun t158 =>
 xT (OpX Tryz.prog (.build 247 #[(0,.const (.int .i64 4)),(1,.const p1),(2,.const t145),(3,.const t149),(4,.const t154),(5,.const t158)]) 247 fun t159 =>
 xA 247 fun t6 =>
 xS 247 t6 t159 <|
 k7 t6) <|
 xA 247 fun t6_1 =>
 xT (qZ 158 t157 t158) <|
 xT (qZ 3 t152 t153) <|
 xT (qZ 5 t148 t149) <|
 xT (qZ 5 t144 t145) <|
 OpX Tryz.prog (.build 247 #[(0,.const (.int .i64 4)),(1,.const p1),(2,.const t145),(3,.const t149),(4,.const t154),(5,.const t158)]) 247 fun t159_1 =>
 xS 247 t6_1 t159_1 <|
 k7 t6_1) fun t6_2 =>
 xC 190 [.const p0] [250] 0 fun _ =>
 xL 247 t6_2 fun t162 =>
 xS 247 t4 t162 <|
 xD 247 t4 fun t4_1 =>
 K (.tuple #[t4_1,(.bool true)])) <|
 OpX Tryz.prog (.build 160 #[(0,.const (.int .i64 3))]) 160 fun t8 =>
 OpX Tryz.prog (.nilCheck (.const p0)) 0 fun t9 =>
 xS 160 t9 t8 <|
 k1) <|
 OpX Tryz.prog (.build 247 #[]) 247 fun t163 =>
 xS 247 t4 t163 <|
 xD 247 t4 fun t4_2 =>
 K (.tuple #[t4_2,(.bool false)])
theorem Vh (p0 p1:Value):Lk 192 #[p0,p1] (L0 p0 p1):=lk [p0,p1] [(2,[]),(5,[10]),(15,[62]),(19,[86]),(23,[119]),(27,[134]),(30,[6])] Tryz.func192
theorem Ui:Ad Tryz.prog 192:=bd Tryz.func192
def MI (p0:Value) (K:Value→World→Prop):World→Prop :=
 xC 194 [.const p0] [9] 9 fun t4 =>
 K t4
theorem YR (p0:Value):Lk 141 #[p0] (MI p0):=lk [p0] [] Tryz.func141
theorem RW:Ad Tryz.prog 141:=bd Tryz.func141
theorem SR:Ad Tryz.prog 194:=bd Tryz.func194
end Go.Proofs.YtelplojmbjnplaaGreatDoor
namespace Lyc
open Go
@[go_sem] theorem cw (p:Prop) [Decidable p]:(!decide p)=decide (¬p):=by by_cases h:p<;>simp [h]
attribute [go_sem] Decidable.not_not
structure Cel where
 r:Int
 fg:BitVec 8
 bg:BitVec 8
 a:BitVec 8
deriving DecidableEq
@[go_sem] def Cel.cells (c:Cel):List Value:=[.int .i32 c.r,.int .u8 c.fg.toNat,.int .u8 c.bg.toNat,.int .u8 c.a.toNat]
@[go_sem] def Cel.val (c:Cel):Value:=.agg #[.int .i32 c.r,.int .u8 c.fg.toNat,.int .u8 c.bg.toNat,.int .u8 c.a.toNat]
theorem Cel.len (c:Cel):c.cells.length=4:=rfl
theorem Cel.ok (c:Cel):AP c.cells=true:=rfl
def BD:List (Int × Int × Int):=[(0x7f,0x9f,0),(0x300,0x36f,0),(0x200b,0x200f,0),(0xd800,0xdfff,0),(0xfe00,0xfe0f,0),(0x1100,0x115f,2),(0x2e80,0x303e,2),(0x3041,0xa4cf,2),(0xac00,0xd7a3,2),(0xf900,0xfaff,2),(0xfe30,0xfe6f,2),(0xff01,0xff60,2),(0xffe0,0xffe6,2),(0x1f300,0x1f64f,2),(0x1f900,0x1f9ff,2),(0x20000,0x3fffd,2)]
def Cn:List (Int × Int × Int)→Int→Int
 | [],_=>1
 | s::l,r=>if s.1≤r∧r≤s.2.1 then s.2.2 else Cn l r
def Ba (r:Int):Int:=if r<32∨1114111<r then 0 else if r<127 then 1 else Cn BD r
def Cel.wide (c:Cel):Bool:=decide (¬c.a &&& 64#8=0#8)
def Cel.tail (c:Cel):Bool:=decide (¬c.a &&& 128#8=0#8)
def Cel.plain (c:Cel):Bool:=decide (c.a &&& 192#8=0#8)
def Cel.check (c:Cel):Bool:=if c.tail then !c.wide && decide (c.r=0) else if c.wide then decide (Ba c.r=2) else decide (Ba c.r=1)
def Cel.tailOf (c:Cel):Cel:=⟨0,c.fg,c.bg,(c.a &&& ~~~64#8) ||| 128#8⟩
def Cel.single (c:Cel):Bool:=c.plain && c.check
def BH (c d:Cel):Bool:=c.wide && c.check && decide (d=c.tailOf)
def Bl (l:List Cel) (x:Nat):Bool:=match l[x]?,l[x+1]? with|some c,some d=>BH c d|_,_=>false
def Cel.blank:Cel:=⟨32,0,0,0⟩
def Cel.fix (c:Cel):Cel:=if c.single then c else⟨32,c.fg,c.bg,0⟩
def Co (r:Int) (p:Cel):List Cel :=
 if Ba r=1 then[⟨r,p.fg,p.bg,p.a &&& 63#8⟩] else if Ba r=2 then[⟨r,p.fg,p.bg,(p.a &&& 63#8) ||| 64#8⟩,⟨0,p.fg,p.bg,(p.a &&& 63#8) ||| 128#8⟩] else[]
def right:List Cel→Bool
 | []=>true
 | [c]=>c.single
 | c::d::l=>if BH c d then right l else c.single && right (d::l)
def AN:List Cel→List Cel
 | []=>[]
 | [c]=>[c.fix]
 | c::d::l=>if BH c d then c::d::AN l else c.fix::AN (d::l)
theorem DX:∀l:List Cel,(AN l).length=l.length
 | []=>rfl
 | [c]=>rfl
 | c::d::l=>by
  unfold AN
  split
  ·simp [DX l]
  ·simp [DX (d::l)]
theorem Og (x y:BitVec 8):IntKind.u8.wrap (((x &&& y).toNat:Nat):Int)=((x &&& y).toNat:Int):=ID _ (by omega) (by have:=(x &&& y).isLt;omega)
theorem Iv (x:BitVec 8) (k:Int):AR .and .u8 (x.toNat:Int) k=((x &&& BitVec.ofInt 8 k).toNat:Int):=by
 show IntKind.u8.wrap ((BitVec.ofInt 8 (x.toNat:Int) &&& BitVec.ofInt 8 k).toNat:Int)=_
 rw[show BitVec.ofInt 8 (x.toNat:Int)=x by simp]
 exact Og _ _
theorem GS (x:BitVec 8) (k:Int):AR .or .u8 (x.toNat:Int) k=((x ||| BitVec.ofInt 8 k).toNat:Int):=by
 show IntKind.u8.wrap ((BitVec.ofInt 8 (x.toNat:Int) ||| BitVec.ofInt 8 k).toNat:Int)=_
 rw[show BitVec.ofInt 8 (x.toNat:Int)=x by simp]
 exact ID _ (by omega) (by have:=(x ||| BitVec.ofInt 8 k).isLt;omega)
theorem F4 (x:BitVec 8) (k:Int):AR .andNot .u8 (x.toNat:Int) k=((x &&& ~~~BitVec.ofInt 8 k).toNat:Int):=by
 show IntKind.u8.wrap ((BitVec.ofInt 8 (x.toNat:Int) &&& ~~~BitVec.ofInt 8 k).toNat:Int)=_
 rw[show BitVec.ofInt 8 (x.toNat:Int)=x by simp]
 exact Og _ _
theorem bv0 (x:BitVec 8):((x.toNat:Int)=0)=(x=0#8):=by
 apply propext
 constructor
 ·intro h;apply BitVec.eq_of_toNat_eq;simp;omega
 ·rintro rfl;rfl
@[go_sem] theorem fc (x:BitVec 8):(AR .and .u8 (x.toNat:Int) 64=0)=(x &&& 64#8=0#8):=by rw[Iv,bv0];rfl
@[go_sem] theorem bK (x:BitVec 8):(AR .and .u8 (x.toNat:Int) 128=0)=(x &&& 128#8=0#8):=by rw[Iv,bv0];rfl
@[go_sem] theorem eA (x:BitVec 8):(AR .and .u8 (x.toNat:Int) 192=0)=(x &&& 192#8=0#8):=by rw[Iv,bv0];rfl
@[go_sem] theorem bP (x:BitVec 8):AR .andNot .u8 (x.toNat:Int) 64=((x &&& ~~~64#8).toNat:Int):=F4 x 64
@[go_sem] theorem fN (x:BitVec 8):AR .andNot .u8 (x.toNat:Int) 192=((x &&& ~~~192#8).toNat:Int):=F4 x 192
@[go_sem] theorem dw (x:BitVec 8):AR .or .u8 (x.toNat:Int) 128=((x ||| 128#8).toNat:Int):=GS x 128
@[go_sem] theorem fY (x:BitVec 8):AR .or .u8 (x.toNat:Int) 64=((x ||| 64#8).toNat:Int):=GS x 64
theorem VW (x y:BitVec 8):((x.toNat:Int)=y.toNat)=(x=y):=propext ⟨fun h=>BitVec.eq_of_toNat_eq (by omega),fun h=>by rw[h]⟩
theorem Rn (c d:Cel):decide (c=d)=(decide (c.r=d.r) && (decide ((c.fg.toNat:Int)=d.fg.toNat) && (decide ((c.bg.toNat:Int)=d.bg.toNat) && (decide ((c.a.toNat:Int)=d.a.toNat) && true)))):=by
 obtain⟨r,f,b,a⟩:=c
 obtain⟨r',f',b',a'⟩:=d
 simp only[Cel.mk.injEq,VW,Bool.decide_and,Bool.and_true]
abbrev SxC (w:World) (e:Option TypeId) (a:Option Addr) (l:List Cel):Prop:=Sx w e Cel.cells a l
theorem SxC.cel {w:World} {e:Option TypeId} {a:Option Addr} {l:List Cel} (h:Sx w e Cel.cells a l) {i:Nat} {c:Cel} (hi:l[i]?=some c) :
  ∃b o,a=some ⟨b,o,none⟩∧b<w.heap.size∧AU w.heap[b]? (o+i*4) 4=some #[.int .i32 c.r,.int .u8 c.fg.toNat,.int .u8 c.bg.toNat,.int .u8 c.a.toNat] ∧
   Av w.heap[b]? (o+i*4)=some (.int .i32 c.r)∧Av w.heap[b]? (o+i*4+1)=some (.int .u8 c.fg.toNat)∧Av w.heap[b]? (o+i*4+2)=some (.int .u8 c.bg.toNat)∧Av w.heap[b]? (o+i*4+3)=some (.int .u8 c.a.toNat):=by
 obtain⟨b,o,h1,h2,h3⟩:=h.get (m:=4) Cel.len hi
 exact⟨b,o,h1,h2,h3,Cc h3 0 (by omega),Cc h3 1 (by omega),Cc h3 2 (by omega),Cc h3 3 (by omega)⟩
theorem Pq {l:List Cel} {k:Nat} (hk:k<l.length):AN (l.drop k)=if Bl l k then(l.drop k).take 2++AN (l.drop (k+2)) else(l[k].fix::AN (l.drop (k+1))):=by
 have e1:l.drop k=l[k]::l.drop (k+1):=List.drop_eq_getElem_cons hk
 unfold Bl
 rw[List.getElem?_eq_getElem hk]
 by_cases h2:k+1<l.length
 ·have e2:l.drop (k+1)=l[k+1]::l.drop (k+2):=List.drop_eq_getElem_cons h2
  rw[List.getElem?_eq_getElem h2,e1,e2]
  simp only[AN]
  split<;>rfl
 ·rw[List.getElem?_eq_none (by omega),e1,List.drop_eq_nil_of_le (by omega)]
  simp [AN]
theorem UW {l:List Cel} {k:Nat} (hk:k<l.length):right (l.drop k)=if Bl l k then right (l.drop (k+2)) else(l[k].single && right (l.drop (k+1))):=by
 have e1:l.drop k=l[k]::l.drop (k+1):=List.drop_eq_getElem_cons hk
 unfold Bl
 rw[List.getElem?_eq_getElem hk]
 by_cases h2:k+1<l.length
 ·have e2:l.drop (k+1)=l[k+1]::l.drop (k+2):=List.drop_eq_getElem_cons h2
  rw[List.getElem?_eq_getElem h2,e1,e2]
  simp only[right]
 ·rw[List.getElem?_eq_none (by omega),e1,List.drop_eq_nil_of_le (by omega)]
  simp [right]
theorem Nq {l:List Cel} {k:Nat} (h:Bl l k=true):k+1<l.length:=by
 unfold Bl at h
 by_cases h2:k+1<l.length
 ·exact h2
 ·rw[List.getElem?_eq_none (l:=l) (i:=k+1) (by omega)] at h
  cases l[k]?<;>simp at h
def Ce (w h:Int):Bool:=decide (1≤w∧w≤200∧1≤h∧h≤60)
def AT (at' n size:Int):Int × Int :=
 if n≤0∨size≤at'∨(at'<0∧at'+n≤0) then(0,0) else if at'<0 then(0,min (at'+n) size) else(at',at'+min n (size-at'))
def Cel.usual (c:Cel):Bool:=c.check && c.plain
structure Gr where
 w:Nat
 h:Nat
 cs:List Cel
 deriving DecidableEq
def Gr.val (g:Gr) (a:Option Addr) (cap:Nat):Value:=.agg #[.int .i64 g.w,.int .i64 g.h,.slice a g.cs.length cap]
def Gr.row (g:Gr) (y:Nat):List Cel:=(g.cs.drop (y*g.w)).take g.w
structure Gr.ok (g:Gr):Prop where
 w0:0<g.w
 w1:g.w≤200
 h0:0<g.h
 h1:g.h≤60
 len:g.cs.length=g.w*g.h
theorem Gr.ok.le {g:Gr} (h:g.ok):g.cs.length≤12000:=by
 rw[h.len]
 have:=Nat.mul_le_mul h.w1 h.h1
 omega
theorem Gr.ok.row_lt {g:Gr} (h:g.ok) {y:Nat} (hy:y<g.h):y*g.w+g.w≤g.cs.length:=by
 rw[h.len,Nat.mul_comm g.w g.h]
 have:=Nat.mul_le_mul_right g.w (show y+1≤g.h by omega)
 rw[Nat.add_mul] at this
 omega
theorem Gr.ok.row_len {g:Gr} (h:g.ok) {y:Nat} (hy:y<g.h):(g.row y).length=g.w:=by
 have:=h.row_lt hy
 simp [Gr.row];omega
def Gr.right (g:Gr):Bool:=(List.range g.h).all fun y=>Lyc.right (g.row y)
theorem Gr.right_of {g:Gr} (h:∀y,y<g.h→Lyc.right (g.row y)=true):g.right=true:=by
 unfold Gr.right;rw[List.all_eq_true];intro y hy;exact h y (List.mem_range.1 hy)
theorem Gr.right_not {g:Gr} {y:Nat} (hy:y<g.h) (h:Lyc.right (g.row y)=false):g.right=false:=by
 unfold Gr.right;rw[List.all_eq_false];exact⟨y,List.mem_range.2 hy,by simp [h]⟩
theorem Gr.right.at {g:Gr} (h:g.right=true) {y:Nat} (hy:y<g.h):Lyc.right (g.row y)=true:=by
 unfold Gr.right at h;rw[List.all_eq_true] at h;exact h y (List.mem_range.2 hy)
theorem Gr.ok.fits {g:Gr} (h:g.ok):Ce g.w g.h=true:=by
 have:=h.w0;have:=h.w1;have:=h.h0;have:=h.h1
 unfold Ce;apply decide_eq_true;omega
theorem Gr.ok.ne {g:Gr} (h:g.ok):g.cs≠[]:=by
 intro hn
 have:=h.len;rw[hn] at this
 have h1:=h.w0;have h2:=h.h0
 have:=Nat.mul_pos h1 h2
 simp at *
 omega
variable {α:Type}
def Bq (R:Nat→List α):Nat→List α
 | 0=>[]
 | h+1=>Bq R h++R h
theorem Gc {R:Nat→List α} {w:Nat}:∀{h:Nat},(∀y,y<h→(R y).length=w)→(Bq R h).length=h*w
 | 0,_=>by simp [Bq]
 | h+1,hR=>by simp [Bq,Gc (h:=h) (fun y hy=>hR y (by omega)),hR h (by omega),Nat.add_mul]
theorem Eb {R S:Nat→List α}:∀{h:Nat},(∀y,y<h→R y=S y)→Bq R h=Bq S h
 | 0,_=>rfl
 | h+1,hR=>by simp [Bq,Eb (h:=h) (fun y hy=>hR y (by omega)),hR h (by omega)]
theorem GX (R:Nat→List α) (y:Nat):∀d:Nat,∃post,∀S:Nat→List α,(∀k,k≠y→S k=R k)→Bq S (y+1+d)=Bq R y++S y++post
 | 0=>⟨[],fun S hS=>by simp [Bq,Eb (h:=y) (fun k hk=>hS k (by omega))]⟩
 | d+1=>by
  obtain⟨post,h⟩:=GX R y d
  refine⟨post++R (y+1+d),fun S hS=>?_⟩
  rw[←Nat.add_assoc]
  simp only[Bq]
  rw[h S hS,hS (y+1+d) (by omega)]
  simp
theorem R6 {R:Nat→List α} {w h:Nat} (hR:∀y,y<h→(R y).length=w) {y:Nat} (hy:y<h):((Bq R h).drop (y*w)).take w=R y:=by
 obtain⟨d,rfl⟩:∃d,h=y+1+d:=⟨h-(y+1),by omega⟩
 obtain⟨post,hp⟩:=GX R y d
 rw[hp R (fun _ _=>rfl)]
 have h1:=Gc (R:=R) (w:=w) (h:=y) (fun k hk=>hR k (by omega))
 rw[List.append_assoc,List.drop_append,h1]
 have h2:=hR y (by omega)
 simp [List.drop_eq_nil_of_le,h1,h2]
theorem Nz {w:Nat}:∀{h:Nat} (l:List α),l.length=h*w→Bq (fun y=>(l.drop (y*w)).take w) h=l
 | 0,l,hl=>by simp at hl;subst hl;rfl
 | h+1,l,hl=>by
  rw[Nat.add_mul] at hl
  have ih:=Nz (w:=w) (h:=h) (l.take (h*w)) (by simp;omega)
  have hc:Bq (fun y=>(l.drop (y*w)).take w) h=Bq (fun y=>((l.take (h*w)).drop (y*w)).take w) h:=by
   refine Eb fun y hy=>?_
   have:=Nat.mul_le_mul_right w (show y+1≤h by omega)
   rw[Nat.add_mul] at this
   rw[List.drop_take,List.take_take,Nat.min_eq_left (by omega)]
  show Bq _ h++(l.drop (h*w)).take w=l
  rw[hc,ih,List.take_of_length_le (l:=l.drop (h*w)) (by simp;omega),List.take_append_drop]
theorem Gr.ok.rows {g:Gr} (h:g.ok):Bq g.row g.h=g.cs:=by
 have:=Nz (w:=g.w) (h:=g.h) g.cs (by rw[h.len,Nat.mul_comm])
 exact this
def Gr.of (w h:Nat) (R:Nat→List Cel):Gr:=⟨w,h,Bq R h⟩
theorem Gr.of_ok {w h:Nat} {R:Nat→List Cel} (w0:0<w) (w1:w≤200) (h0:0<h) (h1:h≤60) (hR:∀y,y<h→(R y).length=w):(Gr.of w h R).ok :=
 ⟨w0,w1,h0,h1,by simp [Gr.of,Gc hR,Nat.mul_comm]⟩
theorem Gr.of_row {w h:Nat} {R:Nat→List Cel} (hR:∀y,y<h→(R y).length=w) {y:Nat} (hy:y<h):(Gr.of w h R).row y=R y:=R6 hR hy
def Gr.chg (g:Gr) (top fin:Int) (f:Nat→List Cel):Gr:=Gr.of g.w g.h fun y=>if top≤y∧(y:Int)<fin then AN (f y) else g.row y
theorem Gr.chg_rows {g:Gr} (h:g.ok) {top fin:Int} {f:Nat→List Cel} (hf:∀y,y<g.h→top≤(y:Int)→(y:Int)<fin→(f y).length=g.w) (y:Nat) (hy:y<g.h):(if top≤y∧(y:Int)<fin then AN (f y) else g.row y).length=g.w:=by
 split
 ·rename_i h1;rw[DX,hf y hy h1.1 h1.2]
 ·exact h.row_len hy
theorem Gr.chg_ok {g:Gr} (h:g.ok) {top fin:Int} {f:Nat→List Cel} (hf:∀y,y<g.h→top≤(y:Int)→(y:Int)<fin→(f y).length=g.w):(g.chg top fin f).ok :=
 Gr.of_ok h.w0 h.w1 h.h0 h.h1 (Gr.chg_rows h hf)
theorem Gr.chg_len {g:Gr} (h:g.ok) {top fin:Int} {f:Nat→List Cel} (hf:∀y,y<g.h→top≤(y:Int)→(y:Int)<fin→(f y).length=g.w):(g.chg top fin f).cs.length=g.cs.length:=by
 rw[(Gr.chg_ok h hf).len,h.len];rfl
theorem Gr.chg_row {g:Gr} (h:g.ok) {top fin:Int} {f:Nat→List Cel} (hf:∀y,y<g.h→top≤(y:Int)→(y:Int)<fin→(f y).length=g.w) {y:Nat} (hy:y<g.h):(g.chg top fin f).row y=if top≤y∧(y:Int)<fin then AN (f y) else g.row y :=
 Gr.of_row (Gr.chg_rows h hf) hy
def AL (n:Nat) (c:Nat→α):List α:=(List.range n).map c
theorem Bi (n:Nat) (c:Nat→α):(AL n c).length=n:=by simp [AL]
theorem Gt {n:Nat} {c:Nat→α} {i:Nat} (h:i<n):(AL n c)[i]?=some (c i):=by simp [AL,h]
theorem Ep {n:Nat} {c d:Nat→α} (h:∀i,i<n→c i=d i):AL n c=AL n d:=List.map_congr_left fun i hi=>h i (List.mem_range.1 hi)
theorem TM {n:Nat} {c d:Nat→α} {i:Nat} {v:α} (hi:i<n) (hd:d i=v) (h:∀k,k<n→k≠i→d k=c k):(AL n c).set i v=AL n d:=by
 apply List.ext_getElem?
 intro k
 by_cases hk:k<n
 ·rw[Gt hk,List.getElem?_set]
  by_cases he:i=k
  ·subst he;rw[if_pos rfl,if_pos (by rw[Bi];exact hi),hd]
  ·rw[if_neg he,Gt hk,h k hk (Ne.symm he)]
 ·rw[List.getElem?_eq_none (by rw[List.length_set,Bi];omega),List.getElem?_eq_none (by rw[Bi];omega)]
theorem GM {l:List α} {n:Nat} (h:l.length=n) {c:Nat→α} (hc:∀i,i<n→l[i]?=some (c i)):l=AL n c:=by
 apply List.ext_getElem?
 intro k
 by_cases hk:k<n
 ·rw[Gt hk,hc k hk]
 ·rw[List.getElem?_eq_none (by omega),List.getElem?_eq_none (by rw[Bi];omega)]
def Cel.none:Cel:=⟨0,0,0,0⟩
def Gr.at (g:Gr) (x y:Nat):Cel:=g.cs.getD (y*g.w+x) Cel.none
theorem Gr.ok.at_some {g:Gr} (h:g.ok) {x y:Nat} (hx:x<g.w) (hy:y<g.h):g.cs[y*g.w+x]?=some (g.at x y):=by
 have:=h.row_lt hy
 unfold Gr.at
 rw[List.getD_eq_getElem?_getD,List.getElem?_eq_getElem (by omega)];rfl
theorem Gr.ok.row_get {g:Gr} (h:g.ok) {x y:Nat} (hx:x<g.w) (hy:y<g.h):(g.row y)[x]?=some (g.at x y):=by
 unfold Gr.row
 rw[List.getElem?_take_of_lt hx,List.getElem?_drop,h.at_some hx hy]
theorem Gr.ok.row_line {g:Gr} (h:g.ok) {y:Nat} (hy:y<g.h):g.row y=AL g.w fun x=>g.at x y :=
 GM (h.row_len hy) fun _ hx=>h.row_get hx hy
theorem Ez {x n size:Int} (h:0≤size):0≤(AT x n size).1∧(AT x n size).1≤(AT x n size).2∧(AT x n size).2≤size:=by
 unfold AT
 split
 ·simp;omega
 ·split<;>simp<;>omega
theorem Zo {x n size:Int} {i:Int} (h0:0≤i) (h1:i<size):((AT x n size).1≤i∧i<(AT x n size).2)↔(x≤i∧i<x+n):=by
 unfold AT
 split
 ·simp;omega
 ·split<;>simp<;>omega
def Gr.fill (g:Gr) (X Y W H:Int) (c:Cel):Gr :=
 g.chg (AT Y H g.h).1 (AT Y H g.h).2 fun y=>AL g.w fun x=>if(AT X W g.w).1≤(x:Int)∧(x:Int)<(AT X W g.w).2 then c else g.at x y
def Gr.plain (w h:Nat) (c:Cel):Gr:=⟨w,h,List.replicate (w*h) c⟩
theorem Gr.plain_ok {w h:Nat} (w0:0<w) (w1:w≤200) (h0:0<h) (h1:h≤60) (c:Cel):(Gr.plain w h c).ok:=⟨w0,w1,h0,h1,by simp [Gr.plain]⟩
def Gr.put (g:Gr) (X Y:Int) (l:List Cel):Gr :=
 g.chg (AT Y 1 g.h).1 (AT Y 1 g.h).2 fun y=>AL g.w fun x=>if(AT X l.length g.w).1≤(x:Int)∧(x:Int)<(AT X l.length g.w).2 then l.getD ((x:Int)-X).toNat Cel.none else g.at x y
def Gr.scrollF (g:Gr) (top fin n:Int) (c:Cel) (y:Nat):List Cel:=if(y:Int)+n<top∨fin≤(y:Int)+n then AL g.w fun _=>c else g.row ((y:Int)+n).toNat
def Gr.scroll (g:Gr) (top fin n:Int) (c:Cel):Gr :=
 g.chg (min (max top 0) g.h) (min (max fin 0) g.h) (g.scrollF (min (max top 0) g.h) (min (max fin 0) g.h) (min (max n (-g.h)) g.h) c)
def Gr.shiftF (g:Gr) (X n:Int) (c:Cel) (y:Nat):List Cel :=
 AL g.w fun x=>if X≤(x:Int) then(if X≤(x:Int)-n∧(x:Int)-n<g.w then g.at ((x:Int)-n).toNat y else c) else g.at x y
def Gr.shift (g:Gr) (X Y n:Int) (c:Cel):Gr :=
 g.chg (AT Y 1 g.h).1 (AT Y 1 g.h).2 (g.shiftF (max X 0) (min (max n (-g.w)) g.w) c)
def Gr.resize (g:Gr) (w h:Nat) (c:Cel):Gr :=
 (Gr.plain w h c).chg 0 (min (h:Int) g.h) fun y=>AL w fun x=>if x<g.w then g.at x y else(Gr.plain w h c).at x y
theorem Gr.ok.scrollF_len {g:Gr} (hg:g.ok) {T E N:Int} {c:Cel} (ht:0≤T) (he:E≤g.h) (y:Nat):(g.scrollF T E N c y).length=g.w:=by
 unfold Gr.scrollF
 by_cases h:(y:Int)+N<T∨E≤(y:Int)+N
 ·rw[if_pos h];exact Bi _ _
 ·rw[if_neg h];exact hg.row_len (by omega)
structure Act' where
  kind:Int
  r:Int
  priv:Int
  mid:Int
  n:Int
  n0:Int
  n1:Int
  n2:Int
  n3:Int
  n4:Int
  n5:Int
  n6:Int
  n7:Int
deriving DecidableEq
def Act'.nums (a:Act'):List Int:=[a.n0,a.n1,a.n2,a.n3,a.n4,a.n5,a.n6,a.n7]
@[go_sem] def Act'.cells (a:Act'):List Value:=[.int .i64 a.kind,.int .i32 a.r,.int .u8 a.priv,.int .u8 a.mid,.int .i64 a.n,.int .i64 a.n0,.int .i64 a.n1,.int .i64 a.n2,.int .i64 a.n3,.int .i64 a.n4,.int .i64 a.n5,.int .i64 a.n6,.int .i64 a.n7]
@[go_sem] def Act'.val (a:Act'):Value:=.agg #[.int .i64 a.kind,.int .i32 a.r,.int .u8 a.priv,.int .u8 a.mid,.int .i64 a.n,.int .i64 a.n0,.int .i64 a.n1,.int .i64 a.n2,.int .i64 a.n3,.int .i64 a.n4,.int .i64 a.n5,.int .i64 a.n6,.int .i64 a.n7]
theorem Act'.len (a:Act'):a.cells.length=13:=rfl
theorem Act'.ok (a:Act'):AP a.cells=true:=rfl
def Bs (n:Int):Prop:=-9223372036854775808≤n∧n≤9223372036854775807
structure Act'.fits (a:Act'):Prop where
  r0:-2147483648≤a.r
  r1:a.r≤2147483647
  n:Bs a.n
  nums:∀x∈a.nums,Bs x
def Act'.num (a:Act') (i:Nat) (Bk:Int):Int:=if 8≤i∨a.n≤i then Bk else max (a.nums.getD i 0) Bk
structure Sav where
  x:Nat
  y:Nat
  pen:Cel
deriving DecidableEq
@[go_sem] def Sav.cells (s:Sav):List Value:=[.int .i64 s.x,.int .i64 s.y,.int .i32 s.pen.r,.int .u8 s.pen.fg.toNat,.int .u8 s.pen.bg.toNat,.int .u8 s.pen.a.toNat]
def Sav.zero:Sav:=⟨0,0,Cel.none⟩
structure Scr where
  w:Nat
  h:Nat
  g0:Gr
  g1:Gr
  s0:Sav
  s1:Sav
  alt:Bool
  now:Sav
  top:Nat
  fin:Nat
  tabs:List Bool
  wraps:Bool
  waits:Bool
  shown:Bool
  gone:List (List Cel)
def DS:List Bool:=(List.range 200).map fun x=>decide (x % 8=0∧8≤x)
def Scr.renew (S:Scr):Scr:=⟨S.w,S.h,Gr.plain S.w S.h Cel.blank,Gr.plain S.w S.h Cel.blank,.zero,.zero,false,.zero,0,S.h,DS,true,false,true,S.gone⟩
def Scr.new (w h:Nat):Scr:=⟨w,h,Gr.plain w h Cel.blank,Gr.plain w h Cel.blank,.zero,.zero,false,.zero,0,h,DS,true,false,true,[]⟩
def Scr.cur (S:Scr):Gr:=bif S.alt then S.g1 else S.g0
def Scr.setCur (S:Scr) (g:Gr):Scr:=bif S.alt then { S with g1:=g } else { S with g0:=g }
def Scr.free (S:Scr):Cel:=⟨32,0,S.now.pen.bg,0⟩
def AH (x:Int) (n:Nat):Nat:=(min (max x 0) ((n:Int)-1)).toNat
def Scr.at (S:Scr) (x y:Nat):Scr:={ S with now:={ S.now with x:=x,y:=y } }
def Scr.move (S:Scr) (x y:Int):Scr:=S.at (AH x S.w) (AH y S.h)
def Scr.save (S:Scr):Scr:=bif S.alt then { S with s1:=S.now } else { S with s0:=S.now }
def Scr.restore (S:Scr):Scr:={ S with now:=bif S.alt then S.s1 else S.s0,waits:=false }
def Scr.line (S:Scr) (f:Gr→Gr):Scr:=S.setCur (Gr.of S.w S.h fun y=>if y=S.now.y then(f ⟨S.w,1,S.cur.row y⟩).cs else S.cur.row y)
def Scr.erase (S:Scr) (x n:Int):Scr:=S.line fun g=>g.fill x 0 n 1 S.free
def Scr.clear (S:Scr) (y n:Int):Scr:=S.setCur (S.cur.fill 0 y S.w n S.free)
def Scr.scroll (S:Scr) (top n:Int):Scr:=S.setCur (S.cur.scroll top S.fin n S.free)
def DJ (l:List (List Cel)):List (List Cel):=l.drop (l.length-500)
def Scr.keep (S:Scr) (n:Int):Scr:=if S.top=0∧S.alt=false then { S with gone:=DJ (S.gone++(List.range (min n S.fin).toNat).map S.g0.row) } else S
def Scr.up (S:Scr) (n:Int):Scr:=(S.keep n).scroll S.top n
def Scr.below (S:Scr):Scr:=if S.now.y+1=S.fin then S.up 1 else if S.now.y+1<S.h then S.at S.now.x (S.now.y+1) else S
def Scr.above (S:Scr):Scr:=if S.now.y=S.top then S.scroll S.top (-1) else if 0<S.now.y then S.at S.now.x (S.now.y-1) else S
def Scr.wrapped (S:Scr):Scr:=if S.waits then(S.at 0 S.now.y).below else S
def Scr.roomFor (S:Scr) (n:Nat):Scr:=if S.w<S.now.x+n then(if S.wraps then(S.at 0 S.now.y).below else S.at (S.w-n) S.now.y) else S
def Scr.lay (S:Scr) (r:Int) (n:Nat):Scr :=
  let T:=(S.line fun g=>g.put S.now.x 0 (Co r S.now.pen))
  if S.now.x+n=S.w then { T.at (S.w-1) S.now.y with waits:=S.wraps } else { T.at (S.now.x+n) S.now.y with waits:=false }
def Scr.print (S:Scr) (r:Int):Scr :=
  if Ba r=0∨(S.w:Int)<Ba r then S else((S.wrapped).roomFor (Ba r).toNat).lay r (Ba r).toNat
def Dw (tabs:List Bool) (w:Nat):Nat→Nat→Nat
  | 0,x=>x
  | k+1,x=>if x<w∧tabs.getD x false=false then Dw tabs w k (x+1) else x
def Scr.tab (S:Scr):Scr:=S.at (min (Dw S.tabs S.w (S.w-(S.now.x+1)) (S.now.x+1)) (S.w-1)) S.now.y
def Scr.calm (S:Scr):Scr:={ S with waits:=false }
def Scr.ctl (S:Scr) (r:Int):Scr :=
  if r=8 then(S.at (S.now.x-1) S.now.y).calm
  else if r=9 then S.tab.calm
  else if r=10∨r=11∨r=12 then S.below.calm
  else if r=13 then(S.at 0 S.now.y).calm
  else S
def Scr.esc (S:Scr) (r:Int):Scr :=
  if r=55 then S.save
  else if r=72 then { S with tabs:=S.tabs.set S.now.x true }
  else if r=69 then(S.at 0 S.now.y).below.calm
  else if r=68 then S.below.calm
  else if r=77 then S.above.calm
  else if r=56 then S.restore.calm
  else if r=99 then S.renew.calm
  else S
def Scr.mode (S:Scr) (n:Int) (on:Bool):Scr :=
  if n=7 then { S with wraps:=on,waits:=S.waits && on }
  else if n=25 then { S with shown:=on }
  else if n=47∨n=1047∨n=1049 then
    (if on=true∧S.alt=false then { S.save with alt:=true,g1:=Gr.plain S.w S.h Cel.blank,waits:=false }
     else if on=false∧S.alt=true then { S with alt:=false }.restore
     else S)
  else S
def Scr.modes (S:Scr) (l:List Int) (on:Bool):Scr:=l.foldl (fun S n=>S.mode n on) S
def Scr.moved (S:Scr) (a:Act'):Option Scr :=
  let n:=min (a.num 0 1) 9999
  let up:=fun(S:Scr)=>S.at S.now.x (max ((S.now.y:Int)-n) (if S.top≤S.now.y then S.top else 0)).toNat
  let dn:=fun(S:Scr)=>S.at S.now.x (min ((S.now.y:Int)+n) (if S.now.y+1≤S.fin then S.fin-1 else S.h-1)).toNat
  if a.r=70 then some (up (S.at 0 S.now.y))
  else if a.r=65 then some (up S)
  else if a.r=69 then some (dn (S.at 0 S.now.y))
  else if a.r=66 then some (dn S)
  else if a.r=67 then some (S.move (S.now.x+n) S.now.y)
  else if a.r=68 then some (S.move (S.now.x-n) S.now.y)
  else if a.r=71∨a.r=96 then some (S.move (n-1) S.now.y)
  else if a.r=100 then some (S.move S.now.x (n-1))
  else if a.r=72∨a.r=102 then some (S.move (a.num 1 1-1) (n-1))
  else if a.r=117 then some S.restore
  else none
def Scr.region (S:Scr) (top fin:Int):Scr :=
  let f:=if fin=0∨(S.h:Int)<fin then(S.h:Int) else fin
  if top<f-1 then { S with top:=top.toNat,fin:=f.toNat }.move 0 0 else S
def Scr.wipeRows (S:Scr) (k:Int):Scr:=if k=0 then S.clear ((S.now.y:Int)+1) S.h else if k=1 then S.clear 0 S.now.y else if k=2 then S.clear 0 S.h else S
def Scr.wipeLine (S:Scr) (k:Int):Scr:=if k=0 then S.erase S.now.x S.w else if k=1 then S.erase 0 ((S.now.x:Int)+1) else if k=2 then S.erase 0 S.w else S
def Scr.shiftRows (S:Scr) (n:Int):Scr:=if S.top≤S.now.y∧S.now.y<S.fin then(S.scroll S.now.y (-n)).at 0 S.now.y else S
def Scr.changed (S:Scr) (a:Act'):Option Scr :=
  let n:=min (a.num 0 1) 9999
  if a.r=74 then some ((S.wipeRows (a.num 0 0)).wipeLine (a.num 0 0))
  else if a.r=75 then some (S.wipeLine (a.num 0 0))
  else if a.r=77 then some (S.shiftRows (-n))
  else if a.r=76 then some (S.shiftRows n)
  else if a.r=80 then some (S.line fun g=>g.shift S.now.x 0 (-n) S.free)
  else if a.r=64 then some (S.line fun g=>g.shift S.now.x 0 n S.free)
  else if a.r=88 then some (S.erase S.now.x n)
  else if a.r=83 then some (S.up n)
  else if a.r=84 then some (S.scroll S.top (-n))
  else if a.r=114 then some (S.region (n-1) (a.num 1 0))
  else none
def way (n:Nat):BitVec 8:=[0#8,1#8,2#8,4#8,8#8,16#8,0#8,32#8].getD n 0#8
def hue (n:Int):BitVec 8:=BitVec.ofInt 8 (max n 1)
def E9 (c:Cel) (n:Int):Cel :=
  if n=0 then { c with fg:=0,bg:=0,a:=0 }
  else if 0<n∧n<8 then { c with a:=c.a ||| way n.toNat }
  else if n=22 then { c with a:=c.a &&& ~~~3#8 }
  else if 23≤n∧n≤27 then { c with a:=c.a &&& ~~~(way (n-20).toNat) }
  else if 30≤n∧n≤37 then { c with fg:=hue (n-30) }
  else if n=39 then { c with fg:=0 }
  else if 40≤n∧n≤47 then { c with bg:=hue (n-40) }
  else if n=49 then { c with bg:=0 }
  else if 90≤n∧n≤97 then { c with fg:=hue (n-82) }
  else if 100≤n∧n≤107 then { c with bg:=hue (n-92) }
  else c
def Cp (n:Int):Int:=(min (max n 0) 255) / 43
def rgb (r g b:Int):BitVec 8:=BitVec.ofInt 8 (16+36*Cp r+6*Cp g+Cp b)
def AV:List Int→Option (BitVec 8) × List Int
  | 5::n::l=>(if 0≤n∧n≤255 then some (hue n) else none,l)
  | 2::r::g::b::l=>(some (rgb r g b),l)
  | _=>(none,[])
theorem Pp (l:List Int):(AV l).2.length≤l.length:=by
  unfold AV
  split<;>simp<;>omega
def CS:Nat→List Int→Cel→Cel
  | 0,_,c=>c
  | _+1,[],c=>c
  | k+1,n::l,c =>
    if n=38 then CS k (AV l).2 (match (AV l).1 with|some x=>{ c with fg:=x }|none=>c)
    else if n=48 then CS k (AV l).2 (match (AV l).1 with|some x=>{ c with bg:=x }|none=>c)
    else CS k l (E9 c n)
def Act'.left (a:Act'):List Int:=let l:=a.nums.take (min (max a.n 0) 8).toNat;if l=[] then[0] else l
def F9 (c:Cel) (a:Act'):Cel:=if a.kind≠4∨a.r≠109∨a.priv≠0∨a.mid≠0 then c else CS 9 a.left c
def Scr.set (S:Scr) (a:Act'):Option Scr :=
  if a.r=109 then some { S with now:={ S.now with pen:=F9 S.now.pen a } }
  else if a.r=103 then some (if a.num 0 0=0 then { S with tabs:=S.tabs.set S.now.x false } else if a.num 0 0=3 then { S with tabs:=List.replicate 200 false } else S)
  else if a.r=115 then some S.save
  else none
def Scr.csi (S:Scr) (a:Act'):Scr :=
  if a.priv=63∧a.mid=0∧(a.r=104∨a.r=108) then S.modes (a.nums.take (min (max a.n 0) 8).toNat) (decide (a.r=104))
  else if a.priv≠0∨a.mid≠0 then S
  else match S.set a with
    | some T=>T
    | none=>match S.moved a with
      | some T=>T.calm
      | none=>match S.changed a with
        | some T=>T.calm
        | none=>S
def Scr.act (S:Scr) (a:Act'):Scr :=
  if a.kind=1 then S.print a.r
  else if a.kind=2 then S.ctl a.r
  else if a.kind=3 then(if a.mid=0 then S.esc a.r else S)
  else if a.kind=4 then S.csi a
  else S
def Scr.acts (S:Scr) (l:List Act'):Scr:=l.foldl Scr.act S
def Scr.resize (S:Scr) (w h:Nat):Scr :=
  { (⟨w,h,S.g0.resize w h Cel.blank,S.g1.resize w h Cel.blank,⟨AH S.s0.x w,AH S.s0.y h,S.s0.pen⟩,⟨AH S.s1.x w,AH S.s1.y h,S.s1.pen⟩,S.alt,S.now,0,h,S.tabs,S.wraps,false,S.shown,S.gone⟩:Scr).move S.now.x S.now.y with waits:=false }
def GI (r:Int) (b:UInt8):Int:=AR .or .i32 (IntKind.i32.wrap (r*64)) (IntKind.i32.wrap (AR .and .u8 b.toNat 63))
def BF (s:List UInt8):Nat→Int→Nat→Nat→Nat→Int × Nat × Bool
 | 0,r,n,_,_=>(r,n,false)
 | k+1,r,n,lo,hi =>
  match s[n]? with
  | none=>(65533,n,true)
  | some b=>if b.toNat<lo∨hi<b.toNat then(65533,n,false) else BF s k (GI r b) (n+1) 128 191
def DV (h:Nat):Nat:=if h=224 then 160 else if h=240 then 144 else 128
def Ee (h:Nat):Nat:=if h=237 then 159 else if h=244 then 143 else 191
def Bb (h:Nat):Nat:=if 194≤h∧h≤223 then 1 else if 224≤h∧h≤239 then 2 else if 240≤h∧h≤244 then 3 else 0
def C6 (h:Nat):Int:=IntKind.i32.wrap (AR .and .u8 h (if Bb h=1 then 31 else if Bb h=2 then 15 else 7))
def first (s:List UInt8):Int × Nat × Bool :=
 match s[0]? with
 | none=>(0,0,false)
 | some b =>
  if b.toNat≤127 then((b.toNat:Int),1,false)
  else if Bb b.toNat=0 then(65533,1,false)
  else BF s (Bb b.toNat) (C6 b.toNat) 1 (DV b.toNat) (Ee b.toNat)
def A9 (r:Int):Prop:=-2147483648≤r∧r≤2147483647
theorem Lg (r:Int):A9 (IntKind.i32.wrap r):=by
 unfold A9 IntKind.wrap
 simp [IntKind.bits,IntKind.signed]
 omega
theorem Jm (r:Int) (b:UInt8):A9 (GI r b):=Lg _
theorem OZ (h:Nat):A9 (C6 h):=Lg _
theorem Mg (s:List UInt8):∀(k:Nat) (r:Int) (n lo hi:Nat),A9 r→n≤s.length →
  A9 (BF s k r n lo hi).1∧n≤(BF s k r n lo hi).2.1∧(BF s k r n lo hi).2.1≤s.length∧(BF s k r n lo hi).2.1≤n+k∧((BF s k r n lo hi).2.2=true→s.length≤n+k)
 | 0,r,n,lo,hi,h,hn=>⟨h,Nat.le_refl _,hn,by simp [BF],by simp [BF]⟩
 | k+1,r,n,lo,hi,h,hn=>by
  unfold BF
  cases hb:s[n]? with
  | none =>
   have:=List.getElem?_eq_none_iff.1 hb
   exact⟨by show A9 65533;unfold A9;omega,Nat.le_refl _,hn,by dsimp only;omega,fun _=>by omega⟩
  | some b =>
   have hlt:=(List.getElem?_eq_some_iff.1 hb).1
   dsimp only
   split
   ·exact⟨by show A9 65533;unfold A9;omega,Nat.le_refl _,hn,by dsimp only;omega,by simp⟩
   ·obtain⟨a,b',c,d,e⟩:=Mg s k (GI r b) (n+1) 128 191 (Jm r b) hlt
    exact⟨a,by omega,c,by omega,fun h=>by have:=e h;omega⟩
theorem Em (s:List UInt8) (h:s≠[]):A9 (first s).1∧1≤(first s).2.1∧(first s).2.1≤s.length∧((first s).2.2=true→s.length≤4):=by
 cases s with
 | nil=>exact absurd rfl h
 | cons b l =>
  have hb:=b.toNat_lt
  unfold first
  show A9 (if b.toNat≤127 then((b.toNat:Int),1,false) else _).1∧_
  simp only[List.getElem?_cons_zero]
  split
  ·exact⟨by show A9 (b.toNat:Int);unfold A9;omega,Nat.le_refl _,by simp,by simp⟩
  split
  ·exact⟨by show A9 65533;unfold A9;omega,Nat.le_refl _,by simp,by simp⟩
  ·have hm:Bb b.toNat≤3:=by unfold Bb;split<;>(try split)<;>(try split)<;>omega
   obtain⟨a,b',c,d,e⟩:=Mg (b::l) (Bb b.toNat) (C6 b.toNat) 1 (DV b.toNat) (Ee b.toNat) (OZ _) (by simp)
   exact⟨a,b',c,fun h=>by have:=e h;omega⟩
theorem J7 (s t:List UInt8):∀(k:Nat) (r:Int) (n lo hi:Nat),(BF s k r n lo hi).2.2=false→BF (s++t) k r n lo hi=BF s k r n lo hi
 | 0,_,_,_,_,_=>rfl
 | k+1,r,n,lo,hi,h=>by
  unfold BF at h ⊢
  cases hb:s[n]? with
  | none=>rw[hb] at h;simp at h
  | some b =>
   have hlt:=(List.getElem?_eq_some_iff.1 hb).1
   rw[List.getElem?_append_left hlt,hb]
   rw[hb] at h
   dsimp only at h ⊢
   split
   ·rfl
   ·rename_i hc
    rw[if_neg hc] at h
    exact J7 s t k _ _ _ _ h
theorem PN (s t:List UInt8) (h:s≠[]) (ho:(first s).2.2=false):first (s++t)=first s:=by
 cases s with
 | nil=>exact absurd rfl h
 | cons b l =>
  unfold first at ho ⊢
  rw[List.cons_append]
  simp only[List.getElem?_cons_zero] at ho ⊢
  split
  ·rfl
  split
  ·rfl
  ·rename_i h1 h2
   rw[if_neg h1,if_neg h2] at ho
   exact J7 (b::l) t _ _ _ _ _ ho
def CF:Nat→List UInt8→List Int × List UInt8
 | 0,s=>([],s)
 | k+1,s=>match s with
  | []=>([],[])
  | b::l=>if(first (b::l)).2.2 then([],b::l) else((first (b::l)).1::(CF k ((b::l).drop (first (b::l)).2.1)).1,(CF k ((b::l).drop (first (b::l)).2.1)).2)
def dec (s:List UInt8):List Int × List UInt8:=CF s.length s
theorem Q4:∀(k:Nat) (s:List UInt8),s.length≤k→CF k s=dec s:=by
 have key:∀(n:Nat) (s:List UInt8),s.length=n→∀k,n≤k→CF k s=CF n s:=by
  intro n
  induction n using Nat.strongRecOn with
  | ind n ih =>
   intro s hs k hk
   cases n with
   | zero =>
    have:s=[]:=List.eq_nil_of_length_eq_zero hs
    subst this
    cases k<;>rfl
   | succ n =>
    cases k with
    | zero=>omega
    | succ k =>
     cases s with
     | nil=>rfl
     | cons b l =>
      have hf:=Em (b::l) (by simp)
      have hd:((b::l).drop (first (b::l)).2.1).length≤n:=by rw[List.length_drop];omega
      unfold CF
      dsimp only
      rw[ih _ (by omega) _ rfl k (by omega),ih _ (by omega) _ rfl n (by omega)]
 intro k s h
 exact key s.length s rfl k h
theorem GO:dec []=([],[]):=rfl
theorem E0 {s:List UInt8} (h:s≠[]) (ho:(first s).2.2=true):dec s=([],s):=by
 cases s with
 | nil=>exact absurd rfl h
 | cons b l=>unfold dec;rw[List.length_cons];unfold CF;dsimp only;rw[if_pos ho]
theorem EC {s:List UInt8} (h:s≠[]) (ho:(first s).2.2=false):dec s=((first s).1::(dec (s.drop (first s).2.1)).1,(dec (s.drop (first s).2.1)).2):=by
 cases s with
 | nil=>exact absurd rfl h
 | cons b l =>
  have hf:=Em (b::l) (by simp)
  have hd:((b::l).drop (first (b::l)).2.1).length≤l.length:=by rw[List.length_drop];simp;omega
  show CF (b::l).length (b::l)=_
  rw[List.length_cons]
  unfold CF
  dsimp only
  rw[if_neg (by simp [ho]),Q4 _ _ hd]
theorem I8 (s:List UInt8):(∀r∈(dec s).1,A9 r)∧(dec s).1.length≤s.length∧(dec s).2.length≤4:=by
 have key:∀(n:Nat) (s:List UInt8),s.length=n→(∀r∈(dec s).1,A9 r)∧(dec s).1.length≤s.length∧(dec s).2.length≤4:=by
  intro n
  induction n using Nat.strongRecOn with
  | ind n ih =>
   intro s hs
   by_cases h:s=[]
   ·subst h;simp [GO]
   have hf:=Em s h
   cases ho:(first s).2.2 with
   | true=>rw[E0 h ho];exact⟨by simp,by simp,hf.2.2.2 ho⟩
   | false =>
    obtain⟨a,b,c⟩:=ih _ (show(s.drop (first s).2.1).length<n by rw[List.length_drop];omega) _ rfl
    rw[EC h ho]
    refine⟨fun r hr=>?_,?_,c⟩
    ·rcases List.mem_cons.1 hr with rfl|hr
     ·exact hf.1
     ·exact a r hr
    ·rw[List.length_drop] at b
     simp
     omega
 exact key _ s rfl
theorem Xn (s t:List UInt8):dec (s++t)=((dec s).1++(dec ((dec s).2++t)).1,(dec ((dec s).2++t)).2):=by
 have key:∀(n:Nat) (s:List UInt8),s.length=n→dec (s++t)=((dec s).1++(dec ((dec s).2++t)).1,(dec ((dec s).2++t)).2):=by
  intro n
  induction n using Nat.strongRecOn with
  | ind n ih =>
   intro s hs
   by_cases h:s=[]
   ·subst h;simp [GO]
   have hf:=Em s h
   cases ho:(first s).2.2 with
   | true=>rw[E0 h ho];simp
   | false =>
    have hne:s++t≠[]:=by simp [h]
    have hm:=PN s t h ho
    rw[EC hne (by rw[hm];exact ho),hm,EC h ho,List.drop_append_of_le_length hf.2.2.1,ih _ (by rw[List.length_drop];omega) _ rfl]
    rfl
 exact key _ s rfl
theorem KG (s:List UInt8):dec (dec s).2=([],(dec s).2):=by
 have key:∀(n:Nat) (s:List UInt8),s.length=n→dec (dec s).2=([],(dec s).2):=by
  intro n
  induction n using Nat.strongRecOn with
  | ind n ih =>
   intro s hs
   by_cases h:s=[]
   ·subst h;rfl
   have hf:=Em s h
   cases ho:(first s).2.2 with
   | true=>rw[E0 h ho];exact E0 h ho
   | false =>
    rw[EC h ho]
    exact ih _ (by rw[List.length_drop];omega) _ rfl
 exact key _ s rfl
structure Esc where
 inn:Int
 priv:Int
 mid:Int
 n:Int
 nums:List Int
def Esc.new:Esc:=⟨0,0,0,0,[0,0,0,0,0,0,0,0]⟩
structure Esc.ok (E:Esc):Prop where
 len:E.nums.length=8
 n0:0≤E.n
 n9:E.n≤9
 k:∀x∈E.nums,0≤x∧x≤9999
theorem Esc.new_ok:Esc.new.ok:=⟨rfl,by decide,by decide,by decide⟩
def CQ (kind r priv mid n:Int) (l:List Int):Act':=⟨kind,r,priv,mid,n,l.getD 0 0,l.getD 1 0,l.getD 2 0,l.getD 3 0,l.getD 4 0,l.getD 5 0,l.getD 6 0,l.getD 7 0⟩
def DN:List Int:=[0,0,0,0,0,0,0,0]
def noA:Act':=⟨0,0,0,0,0,0,0,0,0,0,0,0,0⟩
def Esc.escape (E:Esc) (r:Int):Esc × Option Act' :=
 if r≤47∧E.mid=0 then({ E with mid:=IntKind.u8.wrap r },none)
 else if r≤47 then({ E with mid:=255 },none)
 else if r=91∧E.mid=0 then({ Esc.new with inn:=2 },none)
 else if(r=80∨r=88∨93≤r∧r≤95)∧E.mid=0 then({ Esc.new with inn:=4 },none)
 else if r≤126∧E.mid≠255 then(Esc.new,some (CQ 3 r 0 E.mid 0 DN))
 else(Esc.new,none)
def Esc.control (E:Esc) (r:Int):Esc × Option Act' :=
 if 48≤r∧r≤57∧E.mid=0 then
  (if max E.n 1≤8 then { E with n:=max E.n 1,nums:=E.nums.set (max E.n 1-1).toNat (min (E.nums.getD (max E.n 1-1).toNat 0*10+(r-48)) 9999) } else { E with n:=max E.n 1 },none)
 else if(r=58∨r=59)∧E.mid=0 then({ E with n:=min (max E.n 1+1) 9 },none)
 else if 60≤r∧r≤63∧E.priv=0∧E.mid=0∧E.n=0 then({ E with priv:=IntKind.u8.wrap r },none)
 else if r≤47∧E.mid=0 then({ E with mid:=IntKind.u8.wrap r },none)
 else if 64≤r∧r≤126 then(Esc.new,some (CQ 4 r E.priv E.mid (min E.n 8) E.nums))
 else({ Esc.new with inn:=3 },none)
def Esc.step (E:Esc) (r:Int):Esc × Option Act' :=
 if r=27 then({ Esc.new with inn:=1 },none)
 else if r=24∨r=26 then(Esc.new,none)
 else if r<0∨127≤r∧r≤159∨1114111<r then(E,none)
 else if r<32∧E.inn=4 then(if r=7 then Esc.new else E,none)
 else if r<32 then(E,some (CQ 2 r 0 0 0 DN))
 else if E.inn=0 then(E,some (CQ 1 r 0 0 0 DN))
 else if E.inn=1 then E.escape r
 else if E.inn=2 then E.control r
 else if E.inn=3 then(if 64≤r∧r≤126 then Esc.new else E,none)
 else(E,none)
def Esc.feed (E:Esc):List Int→Esc × List Act'
 | []=>(E,[])
 | r::l=>((Esc.feed (E.step r).1 l).1,(E.step r).2.toList++(Esc.feed (E.step r).1 l).2)
theorem Esc.feed_append (E:Esc) (l m:List Int):E.feed (l++m)=(((E.feed l).1.feed m).1,(E.feed l).2++((E.feed l).1.feed m).2):=by
 induction l generalizing E with
 | nil=>rfl
 | cons r l ih=>simp only[List.cons_append,Esc.feed];rw[ih];simp
theorem Fo {kind r priv mid n:Int} {l:List Int} (hr:A9 r) (n0:0≤n) (n1:n≤9) (hk:∀x∈l,0≤x∧x≤9999):(CQ kind r priv mid n l).fits:=by
 have g:∀i,0≤l.getD i 0∧l.getD i 0≤9999:=fun i=>by
  rw[List.getD_eq_getElem?_getD]
  cases h:l[i]? with
  | none=>simp
  | some x=>exact hk x (List.mem_of_getElem? h)
 refine⟨hr.1,hr.2,by unfold Bs;show -9223372036854775808≤n∧n≤9223372036854775807;omega,fun x hx=>?_⟩
 have:∃i,x=l.getD i 0:=by
  simp only[Act'.nums,CQ,List.mem_cons,List.not_mem_nil,or_false] at hx
  rcases hx with rfl|rfl|rfl|rfl|rfl|rfl|rfl|rfl<;>exact⟨_,rfl⟩
 obtain⟨i,rfl⟩:=this
 have:=g i
 unfold Bs
 omega
theorem HU:∀x∈DN,0≤x∧x≤9999:=by decide
theorem Esc.step_ok {E:Esc} (h:E.ok) {r:Int} (hr:A9 r):(E.step r).1.ok∧∀a∈(E.step r).2.toList,a.fits:=by
 have hn:∀i:Int,({ Esc.new with inn:=i }:Esc).ok:=fun i=>⟨rfl,by show(0:Int)≤0;decide,by show(0:Int)≤9;decide,Esc.new_ok.k⟩
 unfold Esc.step
 split
 ·exact⟨hn 1,by simp⟩
 split
 ·exact⟨Esc.new_ok,by simp⟩
 split
 ·exact⟨h,by simp⟩
 split
 ·refine⟨?_,by simp⟩
  split
  ·exact Esc.new_ok
  ·exact h
 split
 ·exact⟨h,by simp;exact Fo hr (by decide) (by decide) HU⟩
 split
 ·exact⟨h,by simp;exact Fo hr (by decide) (by decide) HU⟩
 split
 ·unfold Esc.escape
  split
  ·exact⟨⟨h.len,h.n0,h.n9,h.k⟩,by simp⟩
  split
  ·exact⟨⟨h.len,h.n0,h.n9,h.k⟩,by simp⟩
  split
  ·exact⟨hn 2,by simp⟩
  split
  ·exact⟨hn 4,by simp⟩
  split
  ·exact⟨Esc.new_ok,by simp;exact Fo hr (by decide) (by decide) HU⟩
  ·exact⟨Esc.new_ok,by simp⟩
 split
 ·have n0:=h.n0
  have n9:=h.n9
  unfold Esc.control
  split
  ·refine⟨?_,by simp⟩
   split
   ·rename_i hd h8
    refine⟨by simp [h.len],by show 0≤max E.n 1;omega,by show max E.n 1≤9;omega,fun x hx=>?_⟩
    rcases List.mem_or_eq_of_mem_set hx with hx|rfl
    ·exact h.k x hx
    ·have:0≤E.nums.getD (max E.n 1-1).toNat 0:=by
      rw[List.getD_eq_getElem?_getD]
      cases hg:E.nums[(max E.n 1-1).toNat]? with
      | none=>simp
      | some y=>exact(h.k y (List.mem_of_getElem? hg)).1
     omega
   ·exact⟨h.len,by show 0≤max E.n 1;omega,by show max E.n 1≤9;omega,h.k⟩
  split
  ·exact⟨⟨h.len,by show 0≤min (max E.n 1+1) 9;omega,by show min (max E.n 1+1) 9≤9;omega,h.k⟩,by simp⟩
  split
  ·exact⟨⟨h.len,h.n0,h.n9,h.k⟩,by simp⟩
  split
  ·exact⟨⟨h.len,h.n0,h.n9,h.k⟩,by simp⟩
  split
  ·exact⟨Esc.new_ok,by simp;exact Fo hr (by omega) (by omega) h.k⟩
  ·exact⟨hn 3,by simp⟩
 split
 ·refine⟨?_,by simp⟩
  split
  ·exact Esc.new_ok
  ·exact h
 ·exact⟨h,by simp⟩
theorem Esc.feed_ok {E:Esc} (h:E.ok):∀{l:List Int},(∀r∈l,A9 r)→(E.feed l).1.ok∧(∀a∈(E.feed l).2,a.fits)∧(E.feed l).2.length≤l.length:=by
 intro l
 induction l generalizing E with
 | nil=>intro _;exact⟨h,by simp [Esc.feed],by simp [Esc.feed]⟩
 | cons r l ih =>
  intro hl
  have hs:=Esc.step_ok h (hl r (by simp))
  obtain⟨a,b,c⟩:=ih hs.1 (fun x hx=>hl x (by simp [hx]))
  refine⟨a,fun x hx=>?_,?_⟩
  ·rcases List.mem_append.1 hx with hx|hx
   ·exact hs.2 x hx
   ·exact b x hx
  ·simp only[Esc.feed,List.length_append,List.length_cons]
   have:(E.step r).2.toList.length≤1:=by cases (E.step r).2<;>simp
   omega
end Lyc
namespace Go.Proofs.YtelplojmbjnplaaGreatDoor
open Lyc Go
set_option maxRecDepth 100000
def NG (p0 p1:Value) (K:Value→World→Prop):World→Prop :=
 xC 122 [.const p0] [155] 4 fun t7 =>
 xW t7
 (K (.tuple #[])) <|
 xU p1 198 fun t9 =>
 Loop1 (.int .i64 0) fun t10 next1 =>
 xO .lss 3 t10 t9 fun t11 =>
 xW t11
 (Join0 (fun k2 =>
 xI 198 p1 t10 fun t12 =>
 xL 247 t12 fun t13 =>
 xA 247 fun t5 =>
 xS 247 t5 t13 <|
 xF 247 t5 0 fun t14 =>
 xL 3 t14 fun t15 =>
 xO .eql 3 t15 (.int .i64 1) fun t17 =>
 xW t17
 (xF 247 t5 1 fun t19 =>
 xL 21 t19 fun t20 =>
 xC 135 [.const p0,.const t20] [155,21] 0 fun _ =>
 k2) <|
 xO .eql 3 t15 (.int .i64 2) fun t23 =>
 xW t23
 (xF 247 t5 1 fun t25 =>
 xL 21 t25 fun t26 =>
 xC 136 [.const p0,.const t26] [155,21] 0 fun _ =>
 k2) <|
 xO .eql 3 t15 (.int .i64 3) fun t29 =>
 xW t29
 (xF 247 t5 3 fun t30 =>
 xL 5 t30 fun t31 =>
 xO .eql 5 t31 (.int .u8 0) fun t32 =>
 xW t32
 (xF 247 t5 1 fun t34 =>
 xL 21 t34 fun t35 =>
 xC 137 [.const p0,.const t35] [155,21] 0 fun _ =>
 k2) <|
 k2) <|
 xO .eql 3 t15 (.int .i64 4) fun t38 =>
 xW t38
 (xL 247 t5 fun t40 =>
 xC 138 [.const p0,.const t40] [155,247] 0 fun _ =>
 k2) <|
 k2) <|
 xO .add 3 t10 (.int .i64 1) fun t42 =>
 next1 t42) <|
 K (.tuple #[])
theorem Vv (p0 p1:Value):Lk 100 #[p0,p1] (NG p0 p1):=lk [p0,p1] [(9,[10]),(16,[])] Tryz.func100
theorem Wq:Ad Tryz.prog 100:=bd Tryz.func100
def Ow (p0:Value) (K:Value→World→Prop):World→Prop :=
 xC 122 [.const p0] [155] 4 fun t5 =>
 xW t5
 (K (.slice none 0 0)) <|
 OpX Tryz.prog (.nilCheck (.const p0)) 0 fun t7 =>
 xF 236 t7 12 fun t8 =>
 xL 203 t8 fun t9 =>
 OpX Tryz.prog (.nilCheck (.const p0)) 0 fun t11 =>
 xF 236 t11 12 fun t12 =>
 xS 203 t12 (.slice none 0 0) <|
 K t9
theorem PC (p0:Value):Lk 104 #[p0] (Ow p0):=lk [p0] [] Tryz.func104
theorem Tr:Ad Tryz.prog 104:=bd Tryz.func104
def ME (p0:Value) (K:Value→World→Prop):World→Prop :=
 Join1 (fun k1 =>
 xO .eql 155 p0 (.pointer none) fun t4 =>
 xW t4
 (k1 (.bool true)) <|
 OpX Tryz.prog (.nilCheck (.const p0)) 0 fun t7 =>
 xF 236 t7 0 fun t8 =>
 xL 3 t8 fun t9 =>
 xO .eql 3 t9 (.int .i64 0) fun t10 =>
 k1 t10) fun t2 =>
 K t2
theorem ZT (p0:Value):Lk 122 #[p0] (ME p0):=lk [p0] [(3,[2])] Tryz.func122
theorem IA:Ad Tryz.prog 122:=bd Tryz.func122
def MX (p0 p1 p2:Value) (K:Value→World→Prop):World→Prop :=
 Join1 (fun k1 =>
 xC 122 [.const p0] [155] 4 fun t9 =>
 xW t9
 (k1 (.bool true)) <|
 xC 167 [.const p1,.const p2] [3,3] 59 fun t13 =>
 xC 114 [.const t13] [59] 4 fun t14 =>
 xN 4 t14 fun t15 =>
 k1 t15) fun t16 =>
 xW t16
 (K (.bool false)) <|
 OpX Tryz.prog (.nilCheck (.const p0)) 0 fun t21 =>
 xF 236 t21 0 fun t22 =>
 xS 3 t22 p1 <|
 OpX Tryz.prog (.nilCheck (.const p0)) 0 fun t23 =>
 xF 236 t23 1 fun t24 =>
 xS 3 t24 p2 <|
 OpX Tryz.prog (.nilCheck (.const p0)) 0 fun t28 =>
 xF 236 t28 6 fun t29 =>
 xS 3 t29 (.int .i64 0) <|
 OpX Tryz.prog (.nilCheck (.const p0)) 0 fun t30 =>
 xF 236 t30 7 fun t31 =>
 xS 3 t31 p2 <|
 Loop1 (.int .i64 0) fun t32 next2 =>
 xO .lss 3 t32 (.int .i64 2) fun t33 =>
 xW t33
 (Aj <|
 xP (.nilCheck (.const p0)) 0 fun t39 =>
 qF 236 t39 2 fun t40 =>
 xP (.indexAddr 232 (.const t40) (.const t32)) 0 fun t41 =>
 qL 59 t41 fun t42 =>
 xP (.nilCheck (.const p0)) 0 fun t47 =>
 qF 236 t47 2 fun t48 =>
 xC 162 [] [] 167 fun t45 =>
 xT (qZ 59 t41 t42) <|
 xC 168 [.const t42,.const p1,.const p2,.const t45] [59,3,3,167] 59 fun t46 =>
 xP (.indexAddr 232 (.const t48) (.const t32)) 0 fun t49 =>
 xS 59 t49 t46 <|
 Aj <|
 xP (.nilCheck (.const p0)) 0 fun t58 =>
 qF 236 t58 3 fun t59 =>
 xP (.indexAddr 233 (.const t59) (.const t32)) 0 fun t60 =>
 qF 231 t60 0 fun t61 =>
 qL 3 t61 fun t62 =>
 xP (.nilCheck (.const p0)) 0 fun t65 =>
 qF 236 t65 3 fun t66 =>
 xP (.indexAddr 233 (.const t66) (.const t32)) 0 fun t67 =>
 qF 231 t67 1 fun t68 =>
 qL 3 t68 fun t69 =>
 xP (.nilCheck (.const p0)) 0 fun t73 =>
 qF 236 t73 3 fun t74 =>
 xP (.nilCheck (.const p0)) 0 fun t77 =>
 qF 236 t77 3 fun t78 =>
 xC 169 [.const p0,.const t62,.const t69] [155,3,3] 25 fun t70 =>
 xP (.extract (.const t70) 0) 3 fun t71 =>
 xP (.extract (.const t70) 1) 3 fun t72 =>
 xP (.indexAddr 233 (.const t74) (.const t32)) 0 fun t75 =>
 qF 231 t75 0 fun t76 =>
 xS 3 t76 t71 <|
 xP (.indexAddr 233 (.const t78) (.const t32)) 0 fun t79 =>
 qF 231 t79 1 fun t80 =>
 xS 3 t80 t72 <|
 xO .add 3 t32 (.int .i64 1) fun t81 =>
 next2 t81) <|
 Aj <|
 xP (.nilCheck (.const p0)) 0 fun t84 =>
 qF 236 t84 5 fun t85 =>
 qF 231 t85 0 fun t86 =>
 qL 3 t86 fun t87 =>
 xP (.nilCheck (.const p0)) 0 fun t89 =>
 qF 236 t89 5 fun t90 =>
 qF 231 t90 1 fun t91 =>
 qL 3 t91 fun t92 =>
 xC 170 [.const p0,.const t87,.const t92] [155,3,3] 0 fun _ =>
 OpX Tryz.prog (.nilCheck (.const p0)) 0 fun t95 =>
 xF 236 t95 10 fun t96 =>
 xS 4 t96 (.bool false) <|
 K (.bool true)
theorem Tv (p0 p1 p2:Value):Lk 127 #[p0,p1,p2] (MX p0 p1 p2):=lk [p0,p1,p2] [(4,[16]),(18,[32])] Tryz.func127
theorem Q7:Ad Tryz.prog 127:=bd Tryz.func127
def Ml (p0 p1:Value) (K:Value→World→Prop):World→Prop :=
 xC 167 [.const p0,.const p1] [3,3] 59 fun t9 =>
 xA 59 fun t5 =>
 xS 59 t5 t9 <|
 xL 59 t5 fun t10 =>
 xC 114 [.const t10] [59] 4 fun t11 =>
 xN 4 t11 fun t12 =>
 xW t12
 (K (.pointer none)) <|
 OpX Tryz.prog (.build 236 #[(0,.const p0),(1,.const p1)]) 236 fun t15 =>
 OpX Tryz.prog (.box 236 (.const t15)) 155 fun t16 =>
 xC 171 [.const t16] [155] 0 fun _ =>
 K t16
theorem PS (p0 p1:Value):Lk 128 #[p0,p1] (Ml p0 p1):=lk [p0,p1] [] Tryz.func128
theorem O8:Ad Tryz.prog 128:=bd Tryz.func128
def OT (p0 p1:Value) (K:Value→World→Prop):World→Prop :=
 xB 155 p0 fun t2 =>
 xB 21 p1 fun t3 =>
 xL 21 t3 fun t5 =>
 xC 177 [.const t5] [21] 3 fun t6 =>
 Join1 (fun k1 =>
 xO .eql 3 t6 (.int .i64 0) fun t8 =>
 xW t8
 (k1 (.bool true)) <|
 xL 155 t2 fun t11 =>
 OpX Tryz.prog (.nilCheck (.const t11)) 0 fun t12 =>
 xF 236 t12 0 fun t13 =>
 xL 3 t13 fun t14 =>
 xO .gtr 3 t6 t14 fun t15 =>
 k1 t15) fun t16 =>
 xW t16
 (K (.tuple #[])) <|
 Join0 (fun k2 =>
 xL 155 t2 fun t17 =>
 OpX Tryz.prog (.nilCheck (.const t17)) 0 fun t18 =>
 xF 236 t18 10 fun t19 =>
 xL 4 t19 fun t20 =>
 xW t20
 (xL 155 t2 fun t21 =>
 OpX Tryz.prog (.nilCheck (.const t21)) 0 fun t22 =>
 xF 236 t22 5 fun t23 =>
 xF 231 t23 0 fun t24 =>
 xS 3 t24 (.int .i64 0) <|
 xL 155 t2 fun t25 =>
 xC 178 [.const t25] [155] 0 fun _ =>
 k2) <|
 k2) <|
 Join0 (fun k3 =>
 Aj <|
 qL 155 t2 fun t27 =>
 xP (.nilCheck (.const t27)) 0 fun t28 =>
 qF 236 t28 5 fun t29 =>
 qF 231 t29 0 fun t30 =>
 qL 3 t30 fun t31 =>
 qP .add 3 t31 t6 fun t33 =>
 qL 155 t2 fun t34 =>
 xP (.nilCheck (.const t34)) 0 fun t35 =>
 qF 236 t35 0 fun t36 =>
 qL 3 t36 fun t37 =>
 qP .gtr 3 t33 t37 fun t38 =>
 xW t38
 (xL 155 t2 fun t39 =>
 OpX Tryz.prog (.nilCheck (.const t39)) 0 fun t40 =>
 xF 236 t40 9 fun t41 =>
 xL 4 t41 fun t42 =>
 xW t42
 (xL 155 t2 fun t43 =>
 OpX Tryz.prog (.nilCheck (.const t43)) 0 fun t44 =>
 xF 236 t44 5 fun t45 =>
 xF 231 t45 0 fun t46 =>
 xS 3 t46 (.int .i64 0) <|
 xL 155 t2 fun t47 =>
 xC 178 [.const t47] [155] 0 fun _ =>
 k3) <|
 Aj <|
 qL 155 t2 fun t49 =>
 qL 155 t2 fun t50 =>
 xP (.nilCheck (.const t50)) 0 fun t51 =>
 qF 236 t51 0 fun t52 =>
 qL 3 t52 fun t53 =>
 qP .sub 3 t53 t6 fun t55 =>
 xP (.nilCheck (.const t49)) 0 fun t56 =>
 qF 236 t56 5 fun t57 =>
 qF 231 t57 0 fun t58 =>
 xS 3 t58 t55 <|
 k3) <|
 k3) <|
 xL 155 t2 fun t59 =>
 OpX Tryz.prog (.makeFunc (.func 180) #[] #[.const t2,.const t3]) 291 fun t60 =>
 xC 179 [.const t59,.const t60] [155,291] 0 fun _ =>
 xL 155 t2 fun t62 =>
 OpX Tryz.prog (.nilCheck (.const t62)) 0 fun t63 =>
 xF 236 t63 5 fun t64 =>
 xF 231 t64 0 fun t65 =>
 xL 3 t65 fun t66 =>
 xO .add 3 t66 t6 fun t68 =>
 OpX Tryz.prog (.nilCheck (.const t62)) 0 fun t69 =>
 xF 236 t69 5 fun t70 =>
 xF 231 t70 0 fun t71 =>
 xS 3 t71 t68 <|
 xL 155 t2 fun t72 =>
 OpX Tryz.prog (.nilCheck (.const t72)) 0 fun t73 =>
 xF 236 t73 10 fun t74 =>
 xS 4 t74 (.bool false) <|
 Aj <|
 qL 155 t2 fun t75 =>
 xP (.nilCheck (.const t75)) 0 fun t76 =>
 qF 236 t76 5 fun t77 =>
 qF 231 t77 0 fun t78 =>
 qL 3 t78 fun t79 =>
 qL 155 t2 fun t80 =>
 xP (.nilCheck (.const t80)) 0 fun t81 =>
 qF 236 t81 0 fun t82 =>
 qL 3 t82 fun t83 =>
 qR .eql 3 t79 t83 fun t84 =>
 xW t84
 (Aj <|
 qL 155 t2 fun t85 =>
 qL 155 t2 fun t86 =>
 xP (.nilCheck (.const t86)) 0 fun t87 =>
 qF 236 t87 0 fun t88 =>
 qL 3 t88 fun t89 =>
 qP .sub 3 t89 (.int .i64 1) fun t90 =>
 xP (.nilCheck (.const t85)) 0 fun t91 =>
 qF 236 t91 5 fun t92 =>
 qF 231 t92 0 fun t93 =>
 xS 3 t93 t90 <|
 Aj <|
 qL 155 t2 fun t94 =>
 qL 155 t2 fun t95 =>
 xP (.nilCheck (.const t95)) 0 fun t96 =>
 qF 236 t96 9 fun t97 =>
 qL 4 t97 fun t98 =>
 xP (.nilCheck (.const t94)) 0 fun t99 =>
 qF 236 t99 10 fun t100 =>
 xS 4 t100 t98 <|
 K (.tuple #[])) <|
 K (.tuple #[])
theorem Q8 (p0 p1:Value):Lk 135 #[p0,p1] (OT p0 p1):=lk [p0,p1] [(6,[16]),(10,[]),(18,[])] Tryz.func135
theorem U0:Ad Tryz.prog 135:=bd Tryz.func135
def IQ (p0 p1:Value) (K:Value→World→Prop):World→Prop :=
 Join0 (fun k1 =>
 xO .eql 21 p1 (.int .i32 8) fun t7 =>
 xW t7
 (OpX Tryz.prog (.nilCheck (.const p0)) 0 fun t10 =>
 xF 236 t10 5 fun t11 =>
 xF 231 t11 0 fun t12 =>
 xL 3 t12 fun t13 =>
 xO .sub 3 t13 (.int .i64 1) fun t14 =>
 OpX Tryz.prog (.call { callee:=.builtin .max,args:=#[.const t14,.const (.int .i64 0)],argTypes:=#[3,3] }) 3 fun t15 =>
 OpX Tryz.prog (.nilCheck (.const p0)) 0 fun t16 =>
 xF 236 t16 5 fun t17 =>
 xF 231 t17 0 fun t18 =>
 xS 3 t18 t15 <|
 k1) <|
 xO .eql 21 p1 (.int .i32 9) fun t20 =>
 xW t20
 (OpX Tryz.prog (.nilCheck (.const p0)) 0 fun t22 =>
 xF 236 t22 5 fun t23 =>
 xF 231 t23 0 fun t24 =>
 xL 3 t24 fun t25 =>
 xO .add 3 t25 (.int .i64 1) fun t26 =>
 Loop1 t26 fun t4 next2 =>
 Join1 (fun k3 =>
 OpX Tryz.prog (.nilCheck (.const p0)) 0 fun t29 =>
 xF 236 t29 0 fun t30 =>
 xL 3 t30 fun t31 =>
 xO .lss 3 t4 t31 fun t32 =>
 xW t32
 (OpX Tryz.prog (.nilCheck (.const p0)) 0 fun t36 =>
 xF 236 t36 8 fun t37 =>
 xI 234 t37 t4 fun t38 =>
 xL 4 t38 fun t39 =>
 xN 4 t39 fun t40 =>
 k3 t40) <|
 k3 (.bool false)) fun t41 =>
 xW t41
 (xO .add 3 t4 (.int .i64 1) fun t43 =>
 next2 t43) <|
 OpX Tryz.prog (.nilCheck (.const p0)) 0 fun t47 =>
 xF 236 t47 0 fun t48 =>
 xL 3 t48 fun t49 =>
 xO .sub 3 t49 (.int .i64 1) fun t50 =>
 OpX Tryz.prog (.call { callee:=.builtin .min,args:=#[.const t4,.const t50],argTypes:=#[3,3] }) 3 fun t51 =>
 OpX Tryz.prog (.nilCheck (.const p0)) 0 fun t52 =>
 xF 236 t52 5 fun t53 =>
 xF 231 t53 0 fun t54 =>
 xS 3 t54 t51 <|
 k1) <|
 Join1 (fun k4 =>
 xO .eql 21 p1 (.int .i32 10) fun t56 =>
 xW t56
 (k4 (.bool true)) <|
 xO .eql 21 p1 (.int .i32 11) fun t57 =>
 xW t57
 (k4 (.bool true)) <|
 xO .eql 21 p1 (.int .i32 12) fun t58 =>
 k4 t58) fun t55 =>
 xW t55
 (xC 178 [.const p0] [155] 0 fun _ =>
 k1) <|
 xO .eql 21 p1 (.int .i32 13) fun t62 =>
 xW t62
 (OpX Tryz.prog (.nilCheck (.const p0)) 0 fun t64 =>
 xF 236 t64 5 fun t65 =>
 xF 231 t65 0 fun t66 =>
 xS 3 t66 (.int .i64 0) <|
 k1) <|
 K (.tuple #[])) <|
 OpX Tryz.prog (.nilCheck (.const p0)) 0 fun t68 =>
 xF 236 t68 10 fun t69 =>
 xS 4 t69 (.bool false) <|
 K (.tuple #[])
theorem SU (p0 p1:Value):Lk 136 #[p0,p1] (IQ p0 p1):=lk [p0,p1] [(0,[]),(15,[4]),(18,[41]),(25,[55])] Tryz.func136
theorem Re:Ad Tryz.prog 136:=bd Tryz.func136
def Jo (p0 p1:Value) (K:Value→World→Prop):World→Prop :=
 Join0 (fun k1 =>
 Join0 (fun k2 =>
 xO .eql 21 p1 (.int .i32 55) fun t6 =>
 xW t6
 (xC 183 [.const p0] [155] 0 fun _ =>
 K (.tuple #[])) <|
 xO .eql 21 p1 (.int .i32 72) fun t8 =>
 xW t8
 (Aj <|
 xP (.nilCheck (.const p0)) 0 fun t23 =>
 qF 236 t23 5 fun t24 =>
 qF 231 t24 0 fun t25 =>
 qL 3 t25 fun t26 =>
 xP (.nilCheck (.const p0)) 0 fun t27 =>
 qF 236 t27 8 fun t28 =>
 xP (.indexAddr 234 (.const t28) (.const t26)) 0 fun t29 =>
 xS 4 t29 (.bool true) <|
 K (.tuple #[])) <|
 xO .eql 21 p1 (.int .i32 69) fun t10 =>
 xW t10
 (OpX Tryz.prog (.nilCheck (.const p0)) 0 fun t31 =>
 xF 236 t31 5 fun t32 =>
 xF 231 t32 0 fun t33 =>
 xS 3 t33 (.int .i64 0) <|
 k2) <|
 xO .eql 21 p1 (.int .i32 68) fun t12 =>
 xW t12
 (k2) <|
 xO .eql 21 p1 (.int .i32 77) fun t14 =>
 xW t14
 (xC 184 [.const p0] [155] 0 fun _ =>
 k1) <|
 xO .eql 21 p1 (.int .i32 56) fun t16 =>
 xW t16
 (xC 185 [.const p0] [155] 0 fun _ =>
 k1) <|
 xO .eql 21 p1 (.int .i32 99) fun t18 =>
 xW t18
 (xC 171 [.const p0] [155] 0 fun _ =>
 k1) <|
 K (.tuple #[])) <|
 xC 178 [.const p0] [155] 0 fun _ =>
 k1) <|
 OpX Tryz.prog (.nilCheck (.const p0)) 0 fun t43 =>
 xF 236 t43 10 fun t44 =>
 xS 4 t44 (.bool false) <|
 K (.tuple #[])
theorem TE (p0 p1:Value):Lk 137 #[p0,p1] (Jo p0 p1):=lk [p0,p1] [(3,[]),(13,[])] Tryz.func137
theorem Q1:Ad Tryz.prog 137:=bd Tryz.func137
def OQ (p0 p1:Value) (K:Value→World→Prop):World→Prop :=
 xB 247 p1 fun t3 =>
 Join1 (fun k1 =>
 xF 247 t3 2 fun t7 =>
 xL 5 t7 fun t8 =>
 xO .eql 5 t8 (.int .u8 63) fun t9 =>
 xW t9
 (xF 247 t3 3 fun t11 =>
 xL 5 t11 fun t12 =>
 xO .eql 5 t12 (.int .u8 0) fun t13 =>
 xW t13
 (xF 247 t3 1 fun t16 =>
 xL 21 t16 fun t17 =>
 xO .eql 21 t17 (.int .i32 104) fun t18 =>
 xW t18
 (k1 (.bool true)) <|
 xF 247 t3 1 fun t20 =>
 xL 21 t20 fun t21 =>
 xO .eql 21 t21 (.int .i32 108) fun t22 =>
 k1 t22) <|
 k1 (.bool false)) <|
 k1 (.bool false)) fun t6 =>
 xW t6
 (xF 247 t3 5 fun t25 =>
 xF 247 t3 4 fun t26 =>
 xL 3 t26 fun t27 =>
 OpX Tryz.prog (.call { callee:=.builtin .max,args:=#[.const t27,.const (.int .i64 0)],argTypes:=#[3,3] }) 3 fun t28 =>
 OpX Tryz.prog (.call { callee:=.builtin .min,args:=#[.const t28,.const (.int .i64 8)],argTypes:=#[3,3] }) 3 fun t29 =>
 OpX Tryz.prog (.slice 158 (.const t25) none (some (.const t29)) none) 40 fun t30 =>
 xU t30 40 fun t31 =>
 Loop1 (.int .i64 0) fun t32 next2 =>
 xO .lss 3 t32 t31 fun t33 =>
 xW t33
 (xI 40 t30 t32 fun t34 =>
 xL 3 t34 fun t35 =>
 xF 247 t3 1 fun t38 =>
 xL 21 t38 fun t39 =>
 xO .eql 21 t39 (.int .i32 104) fun t40 =>
 xC 186 [.const p0,.const t35,.const t40] [155,3,4] 0 fun _ =>
 xO .add 3 t32 (.int .i64 1) fun t42 =>
 next2 t42) <|
 K (.tuple #[])) <|
 Join1 (fun k3 =>
 xF 247 t3 2 fun t44 =>
 xL 5 t44 fun t45 =>
 xO .neq 5 t45 (.int .u8 0) fun t46 =>
 xW t46
 (k3 (.bool true)) <|
 xF 247 t3 3 fun t48 =>
 xL 5 t48 fun t49 =>
 xO .neq 5 t49 (.int .u8 0) fun t50 =>
 k3 t50) fun t43 =>
 xW t43
 (K (.tuple #[])) <|
 xL 247 t3 fun t54 =>
 xC 187 [.const p0,.const t54] [155,247] 4 fun t55 =>
 xW t55
 (K (.tuple #[])) <|
 Join1 (fun k4 =>
 xL 247 t3 fun t58 =>
 xC 188 [.const p0,.const t58] [155,247] 4 fun t59 =>
 xW t59
 (k4 (.bool true)) <|
 xL 247 t3 fun t62 =>
 xC 189 [.const p0,.const t62] [155,247] 4 fun t63 =>
 k4 t63) fun t56 =>
 xW t56
 (OpX Tryz.prog (.nilCheck (.const p0)) 0 fun t66 =>
 xF 236 t66 10 fun t67 =>
 xS 4 t67 (.bool false) <|
 K (.tuple #[])) <|
 K (.tuple #[])
theorem RS (p0 p1:Value):Lk 138 #[p0,p1] (OQ p0 p1):=lk [p0,p1] [(4,[6]),(9,[32]),(23,[43]),(31,[56])] Tryz.func138
theorem Xo:Ad Tryz.prog 138:=bd Tryz.func138
def NJ (p0 p1 p2:Value) (K:Value→World→Prop):World→Prop :=
 Aj <|
 xP (.call { callee:=.builtin .max,args:=#[.const p1,.const (.int .i64 0)],argTypes:=#[3,3] }) 3 fun t9 =>
 xP (.nilCheck (.const p0)) 0 fun t11 =>
 qF 236 t11 0 fun t12 =>
 qL 3 t12 fun t13 =>
 qP .sub 3 t13 (.int .i64 1) fun t14 =>
 xP (.call { callee:=.builtin .min,args:=#[.const t9,.const t14],argTypes:=#[3,3] }) 3 fun t15 =>
 xP (.call { callee:=.builtin .max,args:=#[.const p2,.const (.int .i64 0)],argTypes:=#[3,3] }) 3 fun t17 =>
 xP (.nilCheck (.const p0)) 0 fun t19 =>
 qF 236 t19 1 fun t20 =>
 qL 3 t20 fun t21 =>
 qP .sub 3 t21 (.int .i64 1) fun t22 =>
 xP (.call { callee:=.builtin .min,args:=#[.const t17,.const t22],argTypes:=#[3,3] }) 3 fun t23 =>
 K (.tuple #[t15,t23])
theorem Pf (p0 p1 p2:Value):Lk 169 #[p0,p1,p2] (NJ p0 p1 p2):=lk [p0,p1,p2] [] Tryz.func169
theorem F3:Ad Tryz.prog 169:=bd Tryz.func169
def GZ (p0 p1 p2:Value) (K:Value→World→Prop):World→Prop :=
 xC 169 [.const p0,.const p1,.const p2] [155,3,3] 25 fun t12 =>
 xE t12 0 3 fun t13 =>
 xE t12 1 3 fun t14 =>
 OpX Tryz.prog (.nilCheck (.const p0)) 0 fun t15 =>
 xF 236 t15 5 fun t16 =>
 xF 231 t16 0 fun t17 =>
 xS 3 t17 t13 <|
 OpX Tryz.prog (.nilCheck (.const p0)) 0 fun t18 =>
 xF 236 t18 5 fun t19 =>
 xF 231 t19 1 fun t20 =>
 xS 3 t20 t14 <|
 K (.tuple #[])
theorem N1 (p0 p1 p2:Value):Lk 170 #[p0,p1,p2] (GZ p0 p1 p2):=lk [p0,p1,p2] [] Tryz.func170
theorem Dr:Ad Tryz.prog 170:=bd Tryz.func170
def Ju (p0:Value) (K:Value→World→Prop):World→Prop :=
 Aj <|
 xP (.nilCheck (.const p0)) 0 fun t6 =>
 qF 236 t6 0 fun t7 =>
 qL 3 t7 fun t8 =>
 xP (.nilCheck (.const p0)) 0 fun t10 =>
 qF 236 t10 1 fun t11 =>
 qL 3 t11 fun t12 =>
 xP (.nilCheck (.const p0)) 0 fun t14 =>
 qF 236 t14 1 fun t15 =>
 qL 3 t15 fun t16 =>
 xP (.nilCheck (.const p0)) 0 fun t18 =>
 qF 236 t18 12 fun t19 =>
 qL 203 t19 fun t20 =>
 OpX Tryz.prog (.build 236 #[(0,.const t8),(1,.const t12),(7,.const t16),(9,.const (.bool true)),(11,.const (.bool true)),(12,.const t20)]) 236 fun t21 =>
 xP (.nilCheck (.const p0)) 0 fun t22 =>
 xS 236 t22 t21 <|
 Loop1 (.int .i64 0) fun t23 next1 =>
 xO .lss 3 t23 (.int .i64 2) fun t24 =>
 xW t24
 (Aj <|
 xP (.nilCheck (.const p0)) 0 fun t29 =>
 qF 236 t29 0 fun t30 =>
 qL 3 t30 fun t31 =>
 xP (.nilCheck (.const p0)) 0 fun t33 =>
 qF 236 t33 1 fun t34 =>
 qL 3 t34 fun t35 =>
 xP (.nilCheck (.const p0)) 0 fun t37 =>
 qF 236 t37 2 fun t38 =>
 xC 167 [.const t31,.const t35] [3,3] 59 fun t36 =>
 xP (.indexAddr 232 (.const t38) (.const t23)) 0 fun t39 =>
 xS 59 t39 t36 <|
 xO .add 3 t23 (.int .i64 1) fun t40 =>
 next1 t40) <|
 Loop1 (.int .i64 8) fun t3 next2 =>
 xO .lss 3 t3 (.int .i64 200) fun t42 =>
 xW t42
 (OpX Tryz.prog (.nilCheck (.const p0)) 0 fun t47 =>
 xF 236 t47 8 fun t48 =>
 xI 234 t48 t3 fun t49 =>
 xS 4 t49 (.bool true) <|
 xO .add 3 t3 (.int .i64 8) fun t44 =>
 next2 t44) <|
 K (.tuple #[])
theorem ZI (p0:Value):Lk 171 #[p0] (Ju p0):=lk [p0] [(6,[23]),(22,[3])] Tryz.func171
theorem OA:Ad Tryz.prog 171:=bd Tryz.func171
def Le (p0:Value) (K:Value→World→Prop):World→Prop :=
 Aj <|
 xP (.nilCheck (.const p0)) 0 fun t4 =>
 qF 236 t4 5 fun t5 =>
 qF 231 t5 1 fun t6 =>
 qL 3 t6 fun t7 =>
 xP (.nilCheck (.const p0)) 0 fun t9 =>
 qF 236 t9 7 fun t10 =>
 qL 3 t10 fun t11 =>
 qP .sub 3 t11 (.int .i64 1) fun t12 =>
 qR .eql 3 t7 t12 fun t13 =>
 xW t13
 (xC 208 [.const p0,.const (.int .i64 1)] [155,3] 0 fun _ =>
 K (.tuple #[])) <|
 Aj <|
 xP (.nilCheck (.const p0)) 0 fun t18 =>
 qF 236 t18 5 fun t19 =>
 qF 231 t19 1 fun t20 =>
 qL 3 t20 fun t21 =>
 xP (.nilCheck (.const p0)) 0 fun t23 =>
 qF 236 t23 1 fun t24 =>
 qL 3 t24 fun t25 =>
 qP .sub 3 t25 (.int .i64 1) fun t26 =>
 qP .lss 3 t21 t26 fun t27 =>
 xW t27
 (OpX Tryz.prog (.nilCheck (.const p0)) 0 fun t29 =>
 xF 236 t29 5 fun t30 =>
 xF 231 t30 1 fun t31 =>
 xL 3 t31 fun t32 =>
 xO .add 3 t32 (.int .i64 1) fun t33 =>
 OpX Tryz.prog (.nilCheck (.const p0)) 0 fun t34 =>
 xF 236 t34 5 fun t35 =>
 xF 231 t35 1 fun t36 =>
 xS 3 t36 t33 <|
 K (.tuple #[])) <|
 K (.tuple #[])
theorem R4 (p0:Value):Lk 178 #[p0] (Le p0):=lk [p0] [] Tryz.func178
theorem Ga:Ad Tryz.prog 178:=bd Tryz.func178
def O1 (p0 p1:Value) (K:Value→World→Prop):World→Prop :=
 Aj <|
 xP (.nilCheck (.const p0)) 0 fun t8 =>
 qF 236 t8 5 fun t9 =>
 qF 231 t9 1 fun t10 =>
 qL 3 t10 fun t11 =>
 xP (.nilCheck (.const p0)) 0 fun t13 =>
 qF 236 t13 0 fun t14 =>
 qL 3 t14 fun t15 =>
 qP .mul 3 t11 t15 fun t16 =>
 Aj <|
 xP (.nilCheck (.const p0)) 0 fun t19 =>
 qF 236 t19 4 fun t20 =>
 qL 3 t20 fun t21 =>
 xP (.nilCheck (.const p0)) 0 fun t22 =>
 qF 236 t22 2 fun t23 =>
 xP (.indexAddr 232 (.const t23) (.const t21)) 0 fun t24 =>
 qF 59 t24 2 fun t25 =>
 qL 57 t25 fun t26 =>
 xP (.nilCheck (.const p0)) 0 fun t30 =>
 qF 236 t30 0 fun t31 =>
 qL 3 t31 fun t32 =>
 qP .add 3 t16 t32 fun t33 =>
 xP (.nilCheck (.const p0)) 0 fun t36 =>
 qF 236 t36 0 fun t37 =>
 qL 3 t37 fun t38 =>
 qP .add 3 t16 t38 fun t39 =>
 xP (.slice 57 (.const t26) (some (.const t16)) (some (.const t33)) (some (.const t39))) 57 fun t40 =>
 OpX Tryz.prog (.nilCheck (.const p0)) 0 fun t43 =>
 xF 236 t43 0 fun t44 =>
 xL 3 t44 fun t45 =>
 OpX Tryz.prog (.build 59 #[(0,.const t45),(1,.const (.int .i64 1)),(2,.const t40)]) 59 fun t47 =>
 OpX Tryz.prog (.call { callee:=.value (.const p1),args:=#[.const t47],argTypes:=#[59] }) 59 fun t48 =>
 xA 59 fun t6 =>
 xS 59 t6 t48 <|
 xF 59 t6 2 fun t50 =>
 xL 57 t50 fun t51 =>
 OpX Tryz.prog (.call { callee:=.builtin .copy,args:=#[.const t40,.const t51],argTypes:=#[57,57] }) 3 fun _ =>
 K (.tuple #[])
theorem SW (p0 p1:Value):Lk 179 #[p0,p1] (O1 p0 p1):=lk [p0,p1] [] Tryz.func179
theorem HZ:Ad Tryz.prog 179:=bd Tryz.func179
def KQ (p0 p1 p2:Value) (K:Value→World→Prop):World→Prop :=
 xB 59 p0 fun t3 =>
 xA 59 fun t4 =>
 Aj <|
 qL 59 t3 fun t5 =>
 qL 155 p1 fun t6 =>
 xP (.nilCheck (.const t6)) 0 fun t7 =>
 qF 236 t7 5 fun t8 =>
 qF 231 t8 0 fun t9 =>
 qL 3 t9 fun t10 =>
 qL 21 p2 fun t11 =>
 qL 155 p1 fun t12 =>
 xP (.nilCheck (.const t12)) 0 fun t13 =>
 qF 236 t13 5 fun t14 =>
 qF 231 t14 2 fun t15 =>
 qL 167 t15 fun t16 =>
 xC 182 [.const t11,.const t16] [21,167] 57 fun t17 =>
 xT (qZ 3 t9 t10) <|
 xT (qZ 155 p1 t6) <|
 xT (qZ 59 t3 t5) <|
 xC 181 [.const t5,.const t10,.const (.int .i64 0),.const t17] [59,3,3,57] 59 fun t18 =>
 xS 59 t4 t18 <|
 xD 59 t4 fun t4_1 =>
 K t4_1
theorem US (p0 p1 p2:Value):Lk 180 #[p0,p1,p2] (KQ p0 p1 p2):=lk [p0,p1,p2] [] Tryz.func180
theorem Zu:Ad Tryz.prog 180:=bd Tryz.func180
def JF (p0:Value) (K:Value→World→Prop):World→Prop :=
 Aj <|
 xP (.nilCheck (.const p0)) 0 fun t4 =>
 qF 236 t4 4 fun t5 =>
 qL 3 t5 fun t6 =>
 xP (.nilCheck (.const p0)) 0 fun t8 =>
 qF 236 t8 5 fun t9 =>
 qL 231 t9 fun t10 =>
 xP (.nilCheck (.const p0)) 0 fun t11 =>
 qF 236 t11 3 fun t12 =>
 xP (.indexAddr 233 (.const t12) (.const t6)) 0 fun t13 =>
 xS 231 t13 t10 <|
 K (.tuple #[])
theorem XV (p0:Value):Lk 183 #[p0] (JF p0):=lk [p0] [] Tryz.func183
theorem IB:Ad Tryz.prog 183:=bd Tryz.func183
def Ns (p0:Value) (K:Value→World→Prop):World→Prop :=
 Aj <|
 xP (.nilCheck (.const p0)) 0 fun t4 =>
 qF 236 t4 5 fun t5 =>
 qF 231 t5 1 fun t6 =>
 qL 3 t6 fun t7 =>
 xP (.nilCheck (.const p0)) 0 fun t9 =>
 qF 236 t9 6 fun t10 =>
 qL 3 t10 fun t11 =>
 qR .eql 3 t7 t11 fun t12 =>
 xW t12
 (OpX Tryz.prog (.nilCheck (.const p0)) 0 fun t15 =>
 xF 236 t15 6 fun t16 =>
 xL 3 t16 fun t17 =>
 xC 212 [.const p0,.const t17,.const (.int .i64 (-1))] [155,3,3] 0 fun _ =>
 K (.tuple #[])) <|
 OpX Tryz.prog (.nilCheck (.const p0)) 0 fun t21 =>
 xF 236 t21 5 fun t22 =>
 xF 231 t22 1 fun t23 =>
 xL 3 t23 fun t24 =>
 xO .gtr 3 t24 (.int .i64 0) fun t25 =>
 xW t25
 (OpX Tryz.prog (.nilCheck (.const p0)) 0 fun t27 =>
 xF 236 t27 5 fun t28 =>
 xF 231 t28 1 fun t29 =>
 xL 3 t29 fun t30 =>
 xO .sub 3 t30 (.int .i64 1) fun t31 =>
 OpX Tryz.prog (.nilCheck (.const p0)) 0 fun t32 =>
 xF 236 t32 5 fun t33 =>
 xF 231 t33 1 fun t34 =>
 xS 3 t34 t31 <|
 K (.tuple #[])) <|
 K (.tuple #[])
theorem RJ (p0:Value):Lk 184 #[p0] (Ns p0):=lk [p0] [] Tryz.func184
theorem Q0:Ad Tryz.prog 184:=bd Tryz.func184
def Nk (p0:Value) (K:Value→World→Prop):World→Prop :=
 Aj <|
 xP (.nilCheck (.const p0)) 0 fun t5 =>
 qF 236 t5 4 fun t6 =>
 qL 3 t6 fun t7 =>
 xP (.nilCheck (.const p0)) 0 fun t8 =>
 qF 236 t8 3 fun t9 =>
 xP (.indexAddr 233 (.const t9) (.const t7)) 0 fun t10 =>
 qL 231 t10 fun t11 =>
 xP (.nilCheck (.const p0)) 0 fun t12 =>
 qF 236 t12 5 fun t13 =>
 xS 231 t13 t11 <|
 OpX Tryz.prog (.nilCheck (.const p0)) 0 fun t15 =>
 xF 236 t15 10 fun t16 =>
 xS 4 t16 (.bool false) <|
 K (.tuple #[])
theorem Zm (p0:Value):Lk 185 #[p0] (Nk p0):=lk [p0] [] Tryz.func185
theorem G9:Ad Tryz.prog 185:=bd Tryz.func185
def OH (p0 p1 p2:Value) (K:Value→World→Prop):World→Prop :=
 xO .eql 3 p1 (.int .i64 7) fun t8 =>
 xW t8
 (OpX Tryz.prog (.nilCheck (.const p0)) 0 fun t11 =>
 xF 236 t11 9 fun t12 =>
 xS 4 t12 p2 <|
 Join0 (fun k1 =>
 OpX Tryz.prog (.nilCheck (.const p0)) 0 fun t15 =>
 xF 236 t15 10 fun t16 =>
 xL 4 t16 fun t17 =>
 xW t17
 (OpX Tryz.prog (.nilCheck (.const p0)) 0 fun t21 =>
 xF 236 t21 10 fun t22 =>
 xS 4 t22 p2 <|
 k1) <|
 OpX Tryz.prog (.nilCheck (.const p0)) 0 fun t21_1 =>
 xF 236 t21_1 10 fun t22_1 =>
 xS 4 t22_1 (.bool false) <|
 k1) <|
 K (.tuple #[])) <|
 xO .eql 3 p1 (.int .i64 25) fun t24 =>
 xW t24
 (OpX Tryz.prog (.nilCheck (.const p0)) 0 fun t27 =>
 xF 236 t27 11 fun t28 =>
 xS 4 t28 p2 <|
 K (.tuple #[])) <|
 Join1 (fun k2 =>
 xO .eql 3 p1 (.int .i64 47) fun t30 =>
 xW t30
 (k2 (.bool true)) <|
 xO .eql 3 p1 (.int .i64 1047) fun t31 =>
 xW t31
 (k2 (.bool true)) <|
 xO .eql 3 p1 (.int .i64 1049) fun t32 =>
 k2 t32) fun t29 =>
 xW t29
 (Join1 (fun k3 =>
 xW p2
 (OpX Tryz.prog (.nilCheck (.const p0)) 0 fun t37 =>
 xF 236 t37 4 fun t38 =>
 xL 3 t38 fun t39 =>
 xO .eql 3 t39 (.int .i64 0) fun t40 =>
 k3 t40) <|
 k3 (.bool false)) fun t33 =>
 xW t33
 (xC 183 [.const p0] [155] 0 fun _ =>
 OpX Tryz.prog (.nilCheck (.const p0)) 0 fun t45 =>
 xF 236 t45 4 fun t46 =>
 xS 3 t46 (.int .i64 1) <|
 Aj <|
 xP (.nilCheck (.const p0)) 0 fun t49 =>
 qF 236 t49 0 fun t50 =>
 qL 3 t50 fun t51 =>
 xP (.nilCheck (.const p0)) 0 fun t53 =>
 qF 236 t53 1 fun t54 =>
 qL 3 t54 fun t55 =>
 xP (.nilCheck (.const p0)) 0 fun t57 =>
 qF 236 t57 2 fun t58 =>
 xC 167 [.const t51,.const t55] [3,3] 59 fun t56 =>
 xP (.indexAddr 232 (.const t58) (.const (.int .i64 1))) 0 fun t59 =>
 xS 59 t59 t56 <|
 OpX Tryz.prog (.nilCheck (.const p0)) 0 fun t61 =>
 xF 236 t61 10 fun t62 =>
 xS 4 t62 (.bool false) <|
 K (.tuple #[])) <|
 Join1 (fun k4 =>
 xN 4 p2 fun t65 =>
 xW t65
 (OpX Tryz.prog (.nilCheck (.const p0)) 0 fun t68 =>
 xF 236 t68 4 fun t69 =>
 xL 3 t69 fun t70 =>
 xO .eql 3 t70 (.int .i64 1) fun t71 =>
 k4 t71) <|
 k4 (.bool false)) fun t63 =>
 xW t63
 (OpX Tryz.prog (.nilCheck (.const p0)) 0 fun t74 =>
 xF 236 t74 4 fun t75 =>
 xS 3 t75 (.int .i64 0) <|
 xC 185 [.const p0] [155] 0 fun _ =>
 K (.tuple #[])) <|
 K (.tuple #[])) <|
 K (.tuple #[])
theorem RR (p0 p1 p2:Value):Lk 186 #[p0,p1,p2] (OH p0 p1 p2):=lk [p0,p1,p2] [(8,[]),(13,[29]),(26,[33]),(36,[63])] Tryz.func186
theorem PT:Ad Tryz.prog 186:=bd Tryz.func186
def Jj (p0 p1:Value) (K:Value→World→Prop):World→Prop :=
 xB 247 p1 fun t3 =>
 Join0 (fun k1 =>
 xF 247 t3 1 fun t5 =>
 xL 21 t5 fun t6 =>
 xO .eql 21 t6 (.int .i32 109) fun t8 =>
 xW t8
 (Aj <|
 xP (.nilCheck (.const p0)) 0 fun t11 =>
 qF 236 t11 5 fun t12 =>
 qF 231 t12 2 fun t13 =>
 qL 167 t13 fun t14 =>
 qL 247 t3 fun t15 =>
 xC 213 [.const t14,.const t15] [167,247] 167 fun t16 =>
 xP (.nilCheck (.const p0)) 0 fun t17 =>
 qF 236 t17 5 fun t18 =>
 qF 231 t18 2 fun t19 =>
 xS 167 t19 t16 <|
 k1) <|
 xO .eql 21 t6 (.int .i32 103) fun t21 =>
 xW t21
 (xL 247 t3 fun t22 =>
 xC 214 [.const t22,.const (.int .i64 0),.const (.int .i64 0)] [247,3,3] 3 fun t23 =>
 xO .eql 3 t23 (.int .i64 0) fun t25 =>
 xW t25
 (Aj <|
 xP (.nilCheck (.const p0)) 0 fun t28 =>
 qF 236 t28 5 fun t29 =>
 qF 231 t29 0 fun t30 =>
 qL 3 t30 fun t31 =>
 xP (.nilCheck (.const p0)) 0 fun t32 =>
 qF 236 t32 8 fun t33 =>
 xP (.indexAddr 234 (.const t33) (.const t31)) 0 fun t34 =>
 xS 4 t34 (.bool false) <|
 k1) <|
 xO .eql 3 t23 (.int .i64 3) fun t36 =>
 xW t36
 (OpX Tryz.prog (.build 234 #[]) 234 fun t38 =>
 OpX Tryz.prog (.nilCheck (.const p0)) 0 fun t39 =>
 xF 236 t39 8 fun t40 =>
 xS 234 t40 t38 <|
 k1) <|
 k1) <|
 xO .eql 21 t6 (.int .i32 115) fun t42 =>
 xW t42
 (xC 183 [.const p0] [155] 0 fun _ =>
 k1) <|
 K (.bool false)) <|
 K (.bool true)
theorem QH (p0 p1:Value):Lk 187 #[p0,p1] (Jj p0 p1):=lk [p0,p1] [(2,[])] Tryz.func187
theorem RD:Ad Tryz.prog 187:=bd Tryz.func187
def NV (p0 p1:Value) (K:Value→World→Prop):World→Prop :=
 xB 247 p1 fun t3 =>
 xL 247 t3 fun t8 =>
 xC 214 [.const t8,.const (.int .i64 0),.const (.int .i64 1)] [247,3,3] 3 fun t9 =>
 OpX Tryz.prog (.call { callee:=.builtin .min,args:=#[.const t9,.const (.int .i64 9999)],argTypes:=#[3,3] }) 3 fun t10 =>
 xF 247 t3 1 fun t11 =>
 xL 21 t11 fun t12 =>
 Join0 (fun k1 =>
 Join0 (fun k2 =>
 Join0 (fun k3 =>
 xO .eql 21 t12 (.int .i32 70) fun t14 =>
 xW t14
 (OpX Tryz.prog (.nilCheck (.const p0)) 0 fun t36 =>
 xF 236 t36 5 fun t37 =>
 xF 231 t37 0 fun t38 =>
 xS 3 t38 (.int .i64 0) <|
 k3) <|
 xO .eql 21 t12 (.int .i32 65) fun t16 =>
 xW t16
 (k3) <|
 xO .eql 21 t12 (.int .i32 69) fun t18 =>
 xW t18
 (OpX Tryz.prog (.nilCheck (.const p0)) 0 fun t67 =>
 xF 236 t67 5 fun t68 =>
 xF 231 t68 0 fun t69 =>
 xS 3 t69 (.int .i64 0) <|
 k2) <|
 xO .eql 21 t12 (.int .i32 66) fun t20 =>
 xW t20
 (k2) <|
 xO .eql 21 t12 (.int .i32 67) fun t22 =>
 xW t22
 (Aj <|
 xP (.nilCheck (.const p0)) 0 fun t106 =>
 qF 236 t106 5 fun t107 =>
 qF 231 t107 0 fun t108 =>
 qL 3 t108 fun t109 =>
 qP .add 3 t109 t10 fun t111 =>
 xP (.nilCheck (.const p0)) 0 fun t113 =>
 qF 236 t113 5 fun t114 =>
 qF 231 t114 1 fun t115 =>
 qL 3 t115 fun t116 =>
 xC 170 [.const p0,.const t111,.const t116] [155,3,3] 0 fun _ =>
 k1) <|
 xO .eql 21 t12 (.int .i32 68) fun t24 =>
 xW t24
 (Aj <|
 xP (.nilCheck (.const p0)) 0 fun t120 =>
 qF 236 t120 5 fun t121 =>
 qF 231 t121 0 fun t122 =>
 qL 3 t122 fun t123 =>
 qP .sub 3 t123 t10 fun t125 =>
 xP (.nilCheck (.const p0)) 0 fun t127 =>
 qF 236 t127 5 fun t128 =>
 qF 231 t128 1 fun t129 =>
 qL 3 t129 fun t130 =>
 xC 170 [.const p0,.const t125,.const t130] [155,3,3] 0 fun _ =>
 k1) <|
 Join1 (fun k4 =>
 xO .eql 21 t12 (.int .i32 71) fun t26 =>
 xW t26
 (k4 (.bool true)) <|
 xO .eql 21 t12 (.int .i32 96) fun t27 =>
 k4 t27) fun t25 =>
 xW t25
 (xO .sub 3 t10 (.int .i64 1) fun t134 =>
 OpX Tryz.prog (.nilCheck (.const p0)) 0 fun t136 =>
 xF 236 t136 5 fun t137 =>
 xF 231 t137 1 fun t138 =>
 xL 3 t138 fun t139 =>
 xC 170 [.const p0,.const t134,.const t139] [155,3,3] 0 fun _ =>
 k1) <|
 xO .eql 21 t12 (.int .i32 100) fun t29 =>
 xW t29
 (OpX Tryz.prog (.nilCheck (.const p0)) 0 fun t143 =>
 xF 236 t143 5 fun t144 =>
 xF 231 t144 0 fun t145 =>
 xL 3 t145 fun t146 =>
 xO .sub 3 t10 (.int .i64 1) fun t148 =>
 xC 170 [.const p0,.const t146,.const t148] [155,3,3] 0 fun _ =>
 k1) <|
 Join1 (fun k5 =>
 xO .eql 21 t12 (.int .i32 72) fun t31 =>
 xW t31
 (k5 (.bool true)) <|
 xO .eql 21 t12 (.int .i32 102) fun t32 =>
 k5 t32) fun t30 =>
 xW t30
 (xL 247 t3 fun t151 =>
 xC 214 [.const t151,.const (.int .i64 1),.const (.int .i64 1)] [247,3,3] 3 fun t152 =>
 xO .sub 3 t152 (.int .i64 1) fun t153 =>
 xO .sub 3 t10 (.int .i64 1) fun t155 =>
 xC 170 [.const p0,.const t153,.const t155] [155,3,3] 0 fun _ =>
 k1) <|
 xO .eql 21 t12 (.int .i32 117) fun t34 =>
 xW t34
 (xC 185 [.const p0] [155] 0 fun _ =>
 k1) <|
 K (.bool false)) <|
 Join1 (fun k6 =>
 Aj <|
 xP (.nilCheck (.const p0)) 0 fun t40 =>
 qF 236 t40 5 fun t41 =>
 qF 231 t41 1 fun t42 =>
 qL 3 t42 fun t43 =>
 xP (.nilCheck (.const p0)) 0 fun t45 =>
 qF 236 t45 6 fun t46 =>
 qL 3 t46 fun t47 =>
 qP .geq 3 t43 t47 fun t48 =>
 xW t48
 (OpX Tryz.prog (.nilCheck (.const p0)) 0 fun t50 =>
 xF 236 t50 6 fun t51 =>
 xL 3 t51 fun t52 =>
 k6 t52) <|
 k6 (.int .i64 0)) fun t6 =>
 OpX Tryz.prog (.nilCheck (.const p0)) 0 fun t55 =>
 xF 236 t55 5 fun t56 =>
 xF 231 t56 1 fun t57 =>
 xL 3 t57 fun t58 =>
 xO .sub 3 t58 t10 fun t60 =>
 OpX Tryz.prog (.call { callee:=.builtin .max,args:=#[.const t60,.const t6],argTypes:=#[3,3] }) 3 fun t62 =>
 OpX Tryz.prog (.nilCheck (.const p0)) 0 fun t63 =>
 xF 236 t63 5 fun t64 =>
 xF 231 t64 1 fun t65 =>
 xS 3 t65 t62 <|
 k1) <|
 OpX Tryz.prog (.nilCheck (.const p0)) 0 fun t71 =>
 xF 236 t71 1 fun t72 =>
 xL 3 t72 fun t73 =>
 xO .sub 3 t73 (.int .i64 1) fun t74 =>
 Join1 (fun k7 =>
 Aj <|
 xP (.nilCheck (.const p0)) 0 fun t76 =>
 qF 236 t76 5 fun t77 =>
 qF 231 t77 1 fun t78 =>
 qL 3 t78 fun t79 =>
 xP (.nilCheck (.const p0)) 0 fun t81 =>
 qF 236 t81 7 fun t82 =>
 qL 3 t82 fun t83 =>
 qP .sub 3 t83 (.int .i64 1) fun t84 =>
 qP .leq 3 t79 t84 fun t85 =>
 xW t85
 (OpX Tryz.prog (.nilCheck (.const p0)) 0 fun t87 =>
 xF 236 t87 7 fun t88 =>
 xL 3 t88 fun t89 =>
 xO .sub 3 t89 (.int .i64 1) fun t90 =>
 k7 t90) <|
 k7 t74) fun t7 =>
 OpX Tryz.prog (.nilCheck (.const p0)) 0 fun t93 =>
 xF 236 t93 5 fun t94 =>
 xF 231 t94 1 fun t95 =>
 xL 3 t95 fun t96 =>
 xO .add 3 t96 t10 fun t98 =>
 OpX Tryz.prog (.call { callee:=.builtin .min,args:=#[.const t98,.const t7],argTypes:=#[3,3] }) 3 fun t100 =>
 OpX Tryz.prog (.nilCheck (.const p0)) 0 fun t101 =>
 xF 236 t101 5 fun t102 =>
 xF 231 t102 1 fun t103 =>
 xS 3 t103 t100 <|
 k1) <|
 K (.bool true)
theorem Yo (p0 p1:Value):Lk 188 #[p0,p1] (NV p0 p1):=lk [p0,p1] [(7,[]),(23,[]),(27,[]),(68,[25]),(84,[30]),(103,[6]),(115,[7])] Tryz.func188
theorem QL:Ad Tryz.prog 188:=bd Tryz.func188
def NR (p0 p1:Value) (K:Value→World→Prop):World→Prop :=
 xB 155 p0 fun t2 =>
 xB 247 p1 fun t3 =>
 xL 247 t3 fun t8 =>
 xC 214 [.const t8,.const (.int .i64 0),.const (.int .i64 1)] [247,3,3] 3 fun t9 =>
 OpX Tryz.prog (.call { callee:=.builtin .min,args:=#[.const t9,.const (.int .i64 9999)],argTypes:=#[3,3] }) 3 fun t10 =>
 xA 3 fun t5 =>
 xS 3 t5 t10 <|
 Aj <|
 qL 155 t2 fun t11 =>
 xP (.nilCheck (.const t11)) 0 fun t12 =>
 qF 236 t12 5 fun t13 =>
 qF 231 t13 0 fun t14 =>
 qL 3 t14 fun t15 =>
 qL 155 t2 fun t16 =>
 xP (.nilCheck (.const t16)) 0 fun t17 =>
 qF 236 t17 5 fun t18 =>
 qF 231 t18 1 fun t19 =>
 qL 3 t19 fun t20 =>
 xA 3 fun t6 =>
 xT (qZ 3 t19 t20) <|
 xT (qZ 155 t2 t16) <|
 xT (qZ 3 t14 t15) <|
 xT (qZ 155 t2 t11) <|
 xS 3 t6 t15 <|
 xT (qZ 3 t19 t20) <|
 xT (qZ 155 t2 t16) <|
 xF 247 t3 1 fun t21 =>
 xL 21 t21 fun t22 =>
 Join0 (fun k1 =>
 Join0 (fun k2 =>
 Join0 (fun k3 =>
 Join0 (fun k4 =>
 xO .eql 21 t22 (.int .i32 74) fun t24 =>
 xW t24
 (xL 247 t3 fun t43 =>
 xC 214 [.const t43,.const (.int .i64 0),.const (.int .i64 0)] [247,3,3] 3 fun t44 =>
 xO .eql 3 t44 (.int .i64 0) fun t46 =>
 xW t46
 (Aj <|
 qL 155 t2 fun t47 =>
 qP .add 3 t20 (.int .i64 1) fun t49 =>
 qL 155 t2 fun t50 =>
 xP (.nilCheck (.const t50)) 0 fun t51 =>
 qF 236 t51 1 fun t52 =>
 qL 3 t52 fun t53 =>
 xC 215 [.const t47,.const t49,.const t53] [155,3,3] 0 fun _ =>
 k4) <|
 xO .eql 3 t44 (.int .i64 1) fun t56 =>
 xW t56
 (xL 155 t2 fun t57 =>
 xC 215 [.const t57,.const (.int .i64 0),.const t20] [155,3,3] 0 fun _ =>
 k4) <|
 xO .eql 3 t44 (.int .i64 2) fun t61 =>
 xW t61
 (Aj <|
 qL 155 t2 fun t62 =>
 qL 155 t2 fun t63 =>
 xP (.nilCheck (.const t63)) 0 fun t64 =>
 qF 236 t64 1 fun t65 =>
 qL 3 t65 fun t66 =>
 xC 215 [.const t62,.const (.int .i64 0),.const t66] [155,3,3] 0 fun _ =>
 k4) <|
 k4) <|
 xO .eql 21 t22 (.int .i32 75) fun t26 =>
 xW t26
 (k4) <|
 xO .eql 21 t22 (.int .i32 77) fun t28 =>
 xW t28
 (xL 3 t5 fun t93 =>
 OpX Tryz.prog (.unOp .neg 3 (.const t93)) 3 fun t94 =>
 xS 3 t5 t94 <|
 k3) <|
 xO .eql 21 t22 (.int .i32 76) fun t30 =>
 xW t30
 (k3) <|
 xO .eql 21 t22 (.int .i32 80) fun t32 =>
 xW t32
 (xL 3 t5 fun t118 =>
 OpX Tryz.prog (.unOp .neg 3 (.const t118)) 3 fun t119 =>
 xS 3 t5 t119 <|
 k2) <|
 xO .eql 21 t22 (.int .i32 64) fun t34 =>
 xW t34
 (k2) <|
 xO .eql 21 t22 (.int .i32 88) fun t36 =>
 xW t36
 (xL 155 t2 fun t123 =>
 xL 3 t6 fun t124 =>
 xL 3 t5 fun t125 =>
 xC 216 [.const t123,.const t124,.const t125] [155,3,3] 0 fun _ =>
 k1) <|
 xO .eql 21 t22 (.int .i32 83) fun t38 =>
 xW t38
 (xL 155 t2 fun t127 =>
 xL 3 t5 fun t128 =>
 xC 208 [.const t127,.const t128] [155,3] 0 fun _ =>
 k1) <|
 xO .eql 21 t22 (.int .i32 84) fun t40 =>
 xW t40
 (Aj <|
 qL 155 t2 fun t130 =>
 qL 155 t2 fun t131 =>
 xP (.nilCheck (.const t131)) 0 fun t132 =>
 qF 236 t132 6 fun t133 =>
 qL 3 t133 fun t134 =>
 qL 3 t5 fun t135 =>
 xP (.unOp .neg 3 (.const t135)) 3 fun t136 =>
 xC 212 [.const t130,.const t134,.const t136] [155,3,3] 0 fun _ =>
 k1) <|
 xO .eql 21 t22 (.int .i32 114) fun t42 =>
 xW t42
 (Aj <|
 qL 155 t2 fun t138 =>
 qL 3 t5 fun t139 =>
 qP .sub 3 t139 (.int .i64 1) fun t140 =>
 qL 247 t3 fun t141 =>
 xC 214 [.const t141,.const (.int .i64 1),.const (.int .i64 0)] [247,3,3] 3 fun t142 =>
 xT (qZ 3 t5 t139) <|
 xT (qZ 155 t2 t138) <|
 xC 220 [.const t138,.const t140,.const t142] [155,3,3] 0 fun _ =>
 k1) <|
 K (.bool false)) <|
 xL 247 t3 fun t68 =>
 xC 214 [.const t68,.const (.int .i64 0),.const (.int .i64 0)] [247,3,3] 3 fun t69 =>
 xO .eql 3 t69 (.int .i64 0) fun t71 =>
 xW t71
 (Aj <|
 qL 155 t2 fun t72 =>
 qL 3 t6 fun t73 =>
 qL 155 t2 fun t74 =>
 xP (.nilCheck (.const t74)) 0 fun t75 =>
 qF 236 t75 0 fun t76 =>
 qL 3 t76 fun t77 =>
 xC 216 [.const t72,.const t73,.const t77] [155,3,3] 0 fun _ =>
 k1) <|
 xO .eql 3 t69 (.int .i64 1) fun t80 =>
 xW t80
 (xL 155 t2 fun t81 =>
 xL 3 t6 fun t82 =>
 xO .add 3 t82 (.int .i64 1) fun t83 =>
 xC 216 [.const t81,.const (.int .i64 0),.const t83] [155,3,3] 0 fun _ =>
 k1) <|
 xO .eql 3 t69 (.int .i64 2) fun t86 =>
 xW t86
 (Aj <|
 qL 155 t2 fun t87 =>
 qL 155 t2 fun t88 =>
 xP (.nilCheck (.const t88)) 0 fun t89 =>
 qF 236 t89 0 fun t90 =>
 qL 3 t90 fun t91 =>
 xC 216 [.const t87,.const (.int .i64 0),.const t91] [155,3,3] 0 fun _ =>
 k1) <|
 k1) <|
 Join1 (fun k5 =>
 xL 155 t2 fun t96 =>
 OpX Tryz.prog (.nilCheck (.const t96)) 0 fun t97 =>
 xF 236 t97 6 fun t98 =>
 xL 3 t98 fun t99 =>
 xO .geq 3 t20 t99 fun t100 =>
 xW t100
 (xL 155 t2 fun t103 =>
 OpX Tryz.prog (.nilCheck (.const t103)) 0 fun t104 =>
 xF 236 t104 7 fun t105 =>
 xL 3 t105 fun t106 =>
 xO .lss 3 t20 t106 fun t107 =>
 k5 t107) <|
 k5 (.bool false)) fun t108 =>
 xW t108
 (xL 155 t2 fun t109 =>
 xL 3 t5 fun t111 =>
 OpX Tryz.prog (.unOp .neg 3 (.const t111)) 3 fun t112 =>
 xC 212 [.const t109,.const t20,.const t112] [155,3,3] 0 fun _ =>
 xL 155 t2 fun t114 =>
 OpX Tryz.prog (.nilCheck (.const t114)) 0 fun t115 =>
 xF 236 t115 5 fun t116 =>
 xF 231 t116 0 fun t117 =>
 xS 3 t117 (.int .i64 0) <|
 k1) <|
 k1) <|
 xL 155 t2 fun t120 =>
 OpX Tryz.prog (.makeFunc (.func 217) #[] #[.const t6,.const t5,.const t2]) 291 fun t121 =>
 xC 179 [.const t120,.const t121] [155,291] 0 fun _ =>
 k1) <|
 K (.bool true)
theorem UE (p0 p1:Value):Lk 189 #[p0,p1] (NR p0 p1):=lk [p0,p1] [(9,[]),(21,[]),(25,[]),(29,[]),(130,[108])] Tryz.func189
theorem S7:Ad Tryz.prog 189:=bd Tryz.func189
def Lr (p0 p1:Value) (K:Value→World→Prop):World→Prop :=
 Join0 (fun k1 =>
 Join1 (fun k2 =>
 OpX Tryz.prog (.nilCheck (.const p0)) 0 fun t6 =>
 xF 236 t6 6 fun t7 =>
 xL 3 t7 fun t8 =>
 xO .eql 3 t8 (.int .i64 0) fun t9 =>
 xW t9
 (OpX Tryz.prog (.nilCheck (.const p0)) 0 fun t12 =>
 xF 236 t12 4 fun t13 =>
 xL 3 t13 fun t14 =>
 xO .eql 3 t14 (.int .i64 0) fun t15 =>
 k2 t15) <|
 k2 (.bool false)) fun t16 =>
 xW t16
 (OpX Tryz.prog (.nilCheck (.const p0)) 0 fun t19 =>
 xF 236 t19 7 fun t20 =>
 xL 3 t20 fun t21 =>
 OpX Tryz.prog (.call { callee:=.builtin .min,args:=#[.const p1,.const t21],argTypes:=#[3,3] }) 3 fun t22 =>
 Loop1 (.int .i64 0) fun t23 next3 =>
 xO .lss 3 t23 t22 fun t24 =>
 xW t24
 (Aj <|
 xP (.nilCheck (.const p0)) 0 fun t28 =>
 qF 236 t28 12 fun t29 =>
 qL 203 t29 fun t30 =>
 xP (.nilCheck (.const p0)) 0 fun t32 =>
 qF 236 t32 2 fun t33 =>
 xP (.indexAddr 232 (.const t33) (.const (.int .i64 0))) 0 fun t34 =>
 qL 59 t34 fun t35 =>
 xC 116 [.const t35,.const t23] [59,3] 57 fun t37 =>
 xT (qZ 203 t29 t30) <|
 OpX Tryz.prog (.buildSlice 203 1 #[(0,.const t37)]) 203 fun t38 =>
 xT (qZ 203 t29 t30) <|
 OpX Tryz.prog (.call { callee:=.builtin .append,args:=#[.const t30,.const t38],argTypes:=#[203,203] }) 203 fun t39 =>
 xP (.nilCheck (.const p0)) 0 fun t40 =>
 qF 236 t40 12 fun t41 =>
 xS 203 t41 t39 <|
 xO .add 3 t23 (.int .i64 1) fun t42 =>
 next3 t42) <|
 Aj <|
 xP (.nilCheck (.const p0)) 0 fun t45 =>
 qF 236 t45 12 fun t46 =>
 qL 203 t46 fun t47 =>
 xP (.nilCheck (.const p0)) 0 fun t49 =>
 qF 236 t49 12 fun t50 =>
 qL 203 t50 fun t51 =>
 xR (.call { callee:=.builtin .len,args:=#[.const t51],argTypes:=#[203] }) 3 fun t52 =>
 qP .sub 3 t52 (.int .i64 500) fun t53 =>
 xP (.call { callee:=.builtin .max,args:=#[.const t53,.const (.int .i64 0)],argTypes:=#[3,3] }) 3 fun t54 =>
 xC 224 [.const t47,.const (.int .i64 0),.const t54] [203,3,3] 203 fun t55 =>
 xP (.nilCheck (.const p0)) 0 fun t56 =>
 qF 236 t56 12 fun t57 =>
 xS 203 t57 t55 <|
 k1) <|
 k1) <|
 OpX Tryz.prog (.nilCheck (.const p0)) 0 fun t60 =>
 xF 236 t60 6 fun t61 =>
 xL 3 t61 fun t62 =>
 xC 212 [.const p0,.const t62,.const p1] [155,3,3] 0 fun _ =>
 K (.tuple #[])
theorem WI (p0 p1:Value):Lk 208 #[p0,p1] (Lr p0 p1):=lk [p0,p1] [(0,[]),(2,[16]),(8,[23])] Tryz.func208
theorem Mm:Ad Tryz.prog 208:=bd Tryz.func208
def OM (p0 p1 p2:Value) (K:Value→World→Prop):World→Prop :=
 Aj <|
 xP (.nilCheck (.const p0)) 0 fun t9 =>
 qF 236 t9 4 fun t10 =>
 qL 3 t10 fun t11 =>
 xP (.nilCheck (.const p0)) 0 fun t12 =>
 qF 236 t12 2 fun t13 =>
 xP (.indexAddr 232 (.const t13) (.const t11)) 0 fun t14 =>
 Aj <|
 xP (.nilCheck (.const t14)) 0 fun t17 =>
 qL 59 t17 fun t18 =>
 xP (.nilCheck (.const p0)) 0 fun t21 =>
 qF 236 t21 7 fun t22 =>
 qL 3 t22 fun t23 =>
 xC 219 [.const p0] [155] 167 fun t26 =>
 xT (qZ 3 t22 t23) <|
 xT (qZ 59 t17 t18) <|
 xC 225 [.const t18,.const p1,.const t23,.const p2,.const t26] [59,3,3,3,167] 59 fun t27 =>
 xP (.nilCheck (.const t14)) 0 fun t28 =>
 xS 59 t28 t27 <|
 K (.tuple #[])
theorem Pw (p0 p1 p2:Value):Lk 212 #[p0,p1,p2] (OM p0 p1 p2):=lk [p0,p1,p2] [] Tryz.func212
theorem FA:Ad Tryz.prog 212:=bd Tryz.func212
def Jx (p0 p1 p2:Value) (K:Value→World→Prop):World→Prop :=
 Aj <|
 xP (.nilCheck (.const p0)) 0 fun t9 =>
 qF 236 t9 4 fun t10 =>
 qL 3 t10 fun t11 =>
 xP (.nilCheck (.const p0)) 0 fun t12 =>
 qF 236 t12 2 fun t13 =>
 xP (.indexAddr 232 (.const t13) (.const t11)) 0 fun t14 =>
 Aj <|
 Join0 (fun k1 =>
 xP (.nilCheck (.const t14)) 0 fun t17 =>
 qL 59 t17 fun t18 =>
 xP (.nilCheck (.const p0)) 0 fun t21 =>
 qF 236 t21 0 fun t22 =>
 qL 3 t22 fun t23 =>
 xT (OpX Tryz.prog (.build 49 #[(1,.const p1),(2,.const t23),(3,.const p2)]) 49 fun t25 =>
 xT (qZ 59 t17 t18) <|
 xC 219 [.const p0] [155] 167 fun t27 =>
 xT (qZ 59 t17 t18) <|
 xC 229 [.const t18,.const t25,.const t27] [59,49,167] 59 fun t28 =>
 xP (.nilCheck (.const t14)) 0 fun t29 =>
 xS 59 t29 t28 <|
 k1) <|
 xC 219 [.const p0] [155] 167 fun t27_1 =>
 xT (qZ 3 t22 t23) <|
 xT (qZ 59 t17 t18) <|
 OpX Tryz.prog (.build 49 #[(1,.const p1),(2,.const t23),(3,.const p2)]) 49 fun t25_1 =>
 xT (qZ 59 t17 t18) <|
 xC 229 [.const t18,.const t25_1,.const t27_1] [59,49,167] 59 fun t28_1 =>
 xP (.nilCheck (.const t14)) 0 fun t29_1 =>
 xS 59 t29_1 t28_1 <|
 k1) <|
 K (.tuple #[])
theorem QJ (p0 p1 p2:Value):Lk 215 #[p0,p1,p2] (Jx p0 p1 p2):=lk [p0,p1,p2] [(2,[])] Tryz.func215
theorem Hp:Ad Tryz.prog 215:=bd Tryz.func215
def JR (p0 p1 p2:Value) (K:Value→World→Prop):World→Prop :=
 xB 155 p0 fun t3 =>
 xB 3 p1 fun t4 =>
 xB 3 p2 fun t5 =>
 xL 155 t3 fun t6 =>
 OpX Tryz.prog (.makeFunc (.func 230) #[] #[.const t4,.const t5,.const t3]) 291 fun t7 =>
 xC 179 [.const t6,.const t7] [155,291] 0 fun _ =>
 K (.tuple #[])
theorem Ud (p0 p1 p2:Value):Lk 216 #[p0,p1,p2] (JR p0 p1 p2):=lk [p0,p1,p2] [] Tryz.func216
theorem GN:Ad Tryz.prog 216:=bd Tryz.func216
def Jl (p0 p1 p2 p3:Value) (K:Value→World→Prop):World→Prop :=
 xB 59 p0 fun t4 =>
 xA 59 fun t5 =>
 Aj <|
 qL 59 t4 fun t6 =>
 qL 3 p1 fun t7 =>
 qL 3 p2 fun t8 =>
 qL 155 p3 fun t9 =>
 xC 219 [.const t9] [155] 167 fun t10 =>
 xT (qZ 3 p2 t8) <|
 xT (qZ 3 p1 t7) <|
 xT (qZ 59 t4 t6) <|
 xC 218 [.const t6,.const t7,.const (.int .i64 0),.const t8,.const t10] [59,3,3,3,167] 59 fun t11 =>
 xS 59 t5 t11 <|
 xD 59 t5 fun t5_1 =>
 K t5_1
theorem YE (p0 p1 p2 p3:Value):Lk 217 #[p0,p1,p2,p3] (Jl p0 p1 p2 p3):=lk [p0,p1,p2,p3] [] Tryz.func217
theorem Y3:Ad Tryz.prog 217:=bd Tryz.func217
def OJ (p0:Value) (K:Value→World→Prop):World→Prop :=
 xA 167 fun t2 =>
 xC 162 [] [] 167 fun t4 =>
 xA 167 fun t3 =>
 xS 167 t3 t4 <|
 OpX Tryz.prog (.nilCheck (.const p0)) 0 fun t6 =>
 xF 236 t6 5 fun t7 =>
 xF 231 t7 2 fun t8 =>
 xF 167 t8 2 fun t9 =>
 xL 5 t9 fun t10 =>
 xF 167 t3 2 fun t11 =>
 xS 5 t11 t10 <|
 xL 167 t3 fun t12 =>
 xS 167 t2 t12 <|
 xD 167 t2 fun t2_1 =>
 K t2_1
theorem SN (p0:Value):Lk 219 #[p0] (OJ p0):=lk [p0] [] Tryz.func219
theorem Fw:Ad Tryz.prog 219:=bd Tryz.func219
def Jh (p0 p1 p2:Value) (K:Value→World→Prop):World→Prop :=
 Join1 (fun k1 =>
 Join1 (fun k2 =>
 xO .eql 3 p2 (.int .i64 0) fun t7 =>
 xW t7
 (k2 (.bool true)) <|
 OpX Tryz.prog (.nilCheck (.const p0)) 0 fun t11 =>
 xF 236 t11 1 fun t12 =>
 xL 3 t12 fun t13 =>
 xO .gtr 3 p2 t13 fun t14 =>
 k2 t14) fun t15 =>
 xW t15
 (OpX Tryz.prog (.nilCheck (.const p0)) 0 fun t17 =>
 xF 236 t17 1 fun t18 =>
 xL 3 t18 fun t19 =>
 k1 t19) <|
 k1 p2) fun t2 =>
 xO .sub 3 t2 (.int .i64 1) fun t22 =>
 xO .lss 3 p1 t22 fun t23 =>
 xW t23
 (OpX Tryz.prog (.nilCheck (.const p0)) 0 fun t28 =>
 xF 236 t28 6 fun t29 =>
 xS 3 t29 p1 <|
 OpX Tryz.prog (.nilCheck (.const p0)) 0 fun t30 =>
 xF 236 t30 7 fun t31 =>
 xS 3 t31 t2 <|
 xC 170 [.const p0,.const (.int .i64 0),.const (.int .i64 0)] [155,3,3] 0 fun _ =>
 K (.tuple #[])) <|
 K (.tuple #[])
theorem VY (p0 p1 p2:Value):Lk 220 #[p0,p1,p2] (Jh p0 p1 p2):=lk [p0,p1,p2] [(0,[2]),(2,[15])] Tryz.func220
theorem Un:Ad Tryz.prog 220:=bd Tryz.func220
def JD (p0 p1 p2 p3:Value) (K:Value→World→Prop):World→Prop :=
 xB 59 p0 fun t4 =>
 xA 59 fun t5 =>
 Aj <|
 Join0 (fun k1 =>
 qL 59 t4 fun t6 =>
 qL 3 p1 fun t7 =>
 qL 3 p2 fun t8 =>
 qL 155 p3 fun t10 =>
 xT (OpX Tryz.prog (.build 49 #[(0,.const t7),(2,.const t8),(3,.const (.int .i64 1))]) 49 fun t9 =>
 xT (qZ 155 p3 t10) <|
 xT (qZ 59 t4 t6) <|
 xC 219 [.const t10] [155] 167 fun t11 =>
 xT (qZ 59 t4 t6) <|
 xC 229 [.const t6,.const t9,.const t11] [59,49,167] 59 fun t12 =>
 xS 59 t5 t12 <|
 k1) <|
 xC 219 [.const t10] [155] 167 fun t11_1 =>
 xT (qZ 3 p2 t8) <|
 xT (qZ 3 p1 t7) <|
 xT (qZ 59 t4 t6) <|
 OpX Tryz.prog (.build 49 #[(0,.const t7),(2,.const t8),(3,.const (.int .i64 1))]) 49 fun t9_1 =>
 xT (qZ 59 t4 t6) <|
 xC 229 [.const t6,.const t9_1,.const t11_1] [59,49,167] 59 fun t12_1 =>
 xS 59 t5 t12_1 <|
 k1) <|
 xD 59 t5 fun t5_1 =>
 K t5_1
theorem Uu (p0 p1 p2 p3:Value):Lk 230 #[p0,p1,p2,p3] (JD p0 p1 p2 p3):=lk [p0,p1,p2,p3] [(3,[])] Tryz.func230
theorem X1:Ad Tryz.prog 230:=bd Tryz.func230
def Kk (p0 p1:Value) (K:Value→World→Prop):World→Prop :=
 xB 167 p0 fun t2 =>
 xB 247 p1 fun t3 =>
 xA 167 fun t4 =>
 Join1 (fun k1 =>
 xF 247 t3 0 fun t10 =>
 xL 3 t10 fun t11 =>
 xO .neq 3 t11 (.int .i64 4) fun t12 =>
 xW t12
 (k1 (.bool true)) <|
 xF 247 t3 1 fun t14 =>
 xL 21 t14 fun t15 =>
 xO .neq 21 t15 (.int .i32 109) fun t16 =>
 xW t16
 (k1 (.bool true)) <|
 xF 247 t3 2 fun t19 =>
 xL 5 t19 fun t20 =>
 xO .neq 5 t20 (.int .u8 0) fun t21 =>
 xW t21
 (k1 (.bool true)) <|
 xF 247 t3 3 fun t24 =>
 xL 5 t24 fun t25 =>
 xO .neq 5 t25 (.int .u8 0) fun t26 =>
 k1 t26) fun t27 =>
 xW t27
 (xL 167 t2 fun t28 =>
 xS 167 t4 t28 <|
 xD 167 t4 fun t4_1 =>
 K t4_1) <|
 xF 247 t3 5 fun t29 =>
 xF 247 t3 4 fun t30 =>
 xL 3 t30 fun t31 =>
 OpX Tryz.prog (.call { callee:=.builtin .max,args:=#[.const t31,.const (.int .i64 0)],argTypes:=#[3,3] }) 3 fun t32 =>
 OpX Tryz.prog (.call { callee:=.builtin .min,args:=#[.const t32,.const (.int .i64 8)],argTypes:=#[3,3] }) 3 fun t33 =>
 OpX Tryz.prog (.slice 158 (.const t29) none (some (.const t33)) none) 40 fun t34 =>
 xA 40 fun t5 =>
 xS 40 t5 t34 <|
 Join0 (fun k2 =>
 xL 40 t5 fun t35 =>
 xU t35 40 fun t36 =>
 xO .eql 3 t36 (.int .i64 0) fun t37 =>
 xW t37
 (OpX Tryz.prog (.buildSlice 40 1 #[(0,.const (.int .i64 0))]) 40 fun t38 =>
 xS 40 t5 t38 <|
 k2) <|
 k2) <|
 OpX Tryz.prog (.makeFunc (.func 226) #[] #[.const t5]) 317 fun t39 =>
 Loop0 fun next3 =>
 xL 40 t5 fun t40 =>
 xU t40 40 fun t41 =>
 xO .gtr 3 t41 (.int .i64 0) fun t42 =>
 xW t42
 (OpX Tryz.prog (.call { callee:=.value (.const t39),args:=#[.const (.int .i64 1)],argTypes:=#[3] }) 40 fun t44 =>
 xI 40 t44 (.int .i64 0) fun t45 =>
 xL 3 t45 fun t46 =>
 Join1 (fun k4 =>
 xO .eql 3 t46 (.int .i64 38) fun t52 =>
 xW t52
 (k4 (.bool true)) <|
 xO .eql 3 t46 (.int .i64 48) fun t53 =>
 k4 t53) fun t51 =>
 xW t51
 (xC 227 [.const t39] [317] 318 fun t56 =>
 xE t56 0 5 fun t57 =>
 xE t56 1 4 fun t58 =>
 Join1 (fun k5 =>
 xW t58
 (xO .eql 3 t46 (.int .i64 38) fun t63 =>
 k5 t63) <|
 k5 (.bool false)) fun t59 =>
 xW t59
 (xF 167 t2 1 fun t66 =>
 xS 5 t66 t57 <|
 next3) <|
 xW t58
 (xF 167 t2 2 fun t70 =>
 xS 5 t70 t57 <|
 next3) <|
 next3) <|
 xL 167 t2 fun t48 =>
 xC 228 [.const t48,.const t46] [167,3] 167 fun t50 =>
 xS 167 t2 t50 <|
 next3) <|
 xL 167 t2 fun t71 =>
 xS 167 t4 t71 <|
 xD 167 t4 fun t4_2 =>
 K t4_2
theorem Xw (p0 p1:Value):Lk 213 #[p0,p1] (Kk p0 p1):=lk [p0,p1] [(4,[27]),(12,[]),(22,[]),(35,[51]),(46,[59])] Tryz.func213
theorem Vf:Ad Tryz.prog 213:=bd Tryz.func213
def Jq (p0 p1:Value) (K:Value→World→Prop):World→Prop :=
 xL 40 p1 fun t6 =>
 xU t6 40 fun t7 =>
 OpX Tryz.prog (.call { callee:=.builtin .min,args:=#[.const p0,.const t7],argTypes:=#[3,3] }) 3 fun t8 =>
 xL 40 p1 fun t9 =>
 OpX Tryz.prog (.slice 40 (.const t9) none (some (.const t8)) (some (.const t8))) 40 fun t12 =>
 xL 40 p1 fun t13 =>
 OpX Tryz.prog (.slice 40 (.const t13) (some (.const t8)) none none) 40 fun t15 =>
 xS 40 p1 t15 <|
 K t12
theorem Qb (p0 p1:Value):Lk 226 #[p0,p1] (Jq p0 p1):=lk [p0,p1] [] Tryz.func226
theorem EH:Ad Tryz.prog 226:=bd Tryz.func226
def KF (p0:Value) (K:Value→World→Prop):World→Prop :=
 OpX Tryz.prog (.call { callee:=.value (.const p0),args:=#[.const (.int .i64 1)],argTypes:=#[3] }) 40 fun t9 =>
 Join0 (fun k1 =>
 Join1 (fun k2 =>
 xU t9 40 fun t11 =>
 xO .eql 3 t11 (.int .i64 1) fun t12 =>
 xW t12
 (xI 40 t9 (.int .i64 0) fun t15 =>
 xL 3 t15 fun t16 =>
 xO .eql 3 t16 (.int .i64 5) fun t17 =>
 k2 t17) <|
 k2 (.bool false)) fun t18 =>
 xW t18
 (OpX Tryz.prog (.call { callee:=.value (.const p0),args:=#[.const (.int .i64 1)],argTypes:=#[3] }) 40 fun t20 =>
 xU t20 40 fun t22 =>
 xO .eql 3 t22 (.int .i64 1) fun t23 =>
 xW t23
 (xI 40 t20 (.int .i64 0) fun t25 =>
 xL 3 t25 fun t26 =>
 Join1 (fun k3 =>
 xO .lss 3 t26 (.int .i64 0) fun t28 =>
 xW t28
 (k3 (.bool true)) <|
 xO .gtr 3 t26 (.int .i64 255) fun t31 =>
 k3 t31) fun t32 =>
 xW t32
 (K (.tuple #[(.int .u8 0),(.bool false)])) <|
 xC 235 [.const t26] [3] 5 fun t34 =>
 K (.tuple #[t34,(.bool true)])) <|
 k1) <|
 k1) <|
 Join0 (fun k4 =>
 Join1 (fun k5 =>
 xU t9 40 fun t36 =>
 xO .eql 3 t36 (.int .i64 1) fun t37 =>
 xW t37
 (xI 40 t9 (.int .i64 0) fun t40 =>
 xL 3 t40 fun t41 =>
 xO .eql 3 t41 (.int .i64 2) fun t42 =>
 k5 t42) <|
 k5 (.bool false)) fun t43 =>
 xW t43
 (OpX Tryz.prog (.call { callee:=.value (.const p0),args:=#[.const (.int .i64 3)],argTypes:=#[3] }) 40 fun t45 =>
 xU t45 40 fun t47 =>
 xO .eql 3 t47 (.int .i64 3) fun t48 =>
 xW t48
 (Aj <|
 xP (.indexAddr 40 (.const t45) (.const (.int .i64 0))) 0 fun t50 =>
 qL 3 t50 fun t51 =>
 xP (.indexAddr 40 (.const t45) (.const (.int .i64 1))) 0 fun t53 =>
 qL 3 t53 fun t54 =>
 xP (.indexAddr 40 (.const t45) (.const (.int .i64 2))) 0 fun t56 =>
 qL 3 t56 fun t57 =>
 xC 236 [.const t51,.const t54,.const t57] [3,3,3] 5 fun t58 =>
 K (.tuple #[t58,(.bool true)])) <|
 k4) <|
 k4) <|
 OpX Tryz.prog (.call { callee:=.value (.const p0),args:=#[.const (.int .i64 8)],argTypes:=#[3] }) 40 fun _ =>
 K (.tuple #[(.int .u8 0),(.bool false)])
theorem ZG (p0:Value):Lk 227 #[p0] (KF p0):=lk [p0] [(4,[]),(6,[18]),(17,[32]),(28,[]),(30,[43])] Tryz.func227
theorem Pn:Ad Tryz.prog 227:=bd Tryz.func227
def Kp (p0 p1:Value) (K:Value→World→Prop):World→Prop :=
 xB 167 p0 fun t2 =>
 xA 167 fun t4 =>
 xC 237 [] [] 327 fun t6 =>
 xA 327 fun t5 =>
 xS 327 t5 t6 <|
 Join0 (fun k1 =>
 xO .eql 3 p1 (.int .i64 0) fun t9 =>
 xW t9
 (xF 167 t2 1 fun t10 =>
 xS 5 t10 (.int .u8 0) <|
 xF 167 t2 2 fun t11 =>
 xS 5 t11 (.int .u8 0) <|
 xF 167 t2 3 fun t12 =>
 xS 5 t12 (.int .u8 0) <|
 k1) <|
 Join1 (fun k2 =>
 xO .gtr 3 p1 (.int .i64 0) fun t15 =>
 xW t15
 (xO .lss 3 p1 (.int .i64 8) fun t18 =>
 k2 t18) <|
 k2 (.bool false)) fun t13 =>
 xW t13
 (Aj <|
 qF 167 t2 3 fun t20 =>
 qL 5 t20 fun t21 =>
 xP (.indexAddr 327 (.const t5) (.const p1)) 0 fun t23 =>
 qL 5 t23 fun t24 =>
 qP .or 5 t21 t24 fun t25 =>
 qF 167 t2 3 fun t26 =>
 xS 5 t26 t25 <|
 k1) <|
 xO .eql 3 p1 (.int .i64 22) fun t29 =>
 xW t29
 (xF 167 t2 3 fun t30 =>
 xL 5 t30 fun t31 =>
 xO .andNot 5 t31 (.int .u8 3) fun t32 =>
 xF 167 t2 3 fun t33 =>
 xS 5 t33 t32 <|
 k1) <|
 Join1 (fun k3 =>
 xO .geq 3 p1 (.int .i64 23) fun t36 =>
 xW t36
 (xO .leq 3 p1 (.int .i64 27) fun t39 =>
 k3 t39) <|
 k3 (.bool false)) fun t34 =>
 xW t34
 (Aj <|
 qF 167 t2 3 fun t41 =>
 qL 5 t41 fun t42 =>
 qP .sub 3 p1 (.int .i64 20) fun t44 =>
 xP (.indexAddr 327 (.const t5) (.const t44)) 0 fun t45 =>
 qL 5 t45 fun t46 =>
 qP .andNot 5 t42 t46 fun t47 =>
 qF 167 t2 3 fun t48 =>
 xS 5 t48 t47 <|
 k1) <|
 Join1 (fun k4 =>
 xO .geq 3 p1 (.int .i64 30) fun t51 =>
 xW t51
 (xO .leq 3 p1 (.int .i64 37) fun t54 =>
 k4 t54) <|
 k4 (.bool false)) fun t49 =>
 xW t49
 (xO .sub 3 p1 (.int .i64 30) fun t57 =>
 xC 235 [.const t57] [3] 5 fun t58 =>
 xF 167 t2 1 fun t59 =>
 xS 5 t59 t58 <|
 k1) <|
 xO .eql 3 p1 (.int .i64 39) fun t62 =>
 xW t62
 (xF 167 t2 1 fun t63 =>
 xS 5 t63 (.int .u8 0) <|
 k1) <|
 Join1 (fun k5 =>
 xO .geq 3 p1 (.int .i64 40) fun t66 =>
 xW t66
 (xO .leq 3 p1 (.int .i64 47) fun t69 =>
 k5 t69) <|
 k5 (.bool false)) fun t64 =>
 xW t64
 (xO .sub 3 p1 (.int .i64 40) fun t72 =>
 xC 235 [.const t72] [3] 5 fun t73 =>
 xF 167 t2 2 fun t74 =>
 xS 5 t74 t73 <|
 k1) <|
 xO .eql 3 p1 (.int .i64 49) fun t77 =>
 xW t77
 (xF 167 t2 2 fun t78 =>
 xS 5 t78 (.int .u8 0) <|
 k1) <|
 Join1 (fun k6 =>
 xO .geq 3 p1 (.int .i64 90) fun t81 =>
 xW t81
 (xO .leq 3 p1 (.int .i64 97) fun t84 =>
 k6 t84) <|
 k6 (.bool false)) fun t79 =>
 xW t79
 (xO .sub 3 p1 (.int .i64 82) fun t87 =>
 xC 235 [.const t87] [3] 5 fun t88 =>
 xF 167 t2 1 fun t89 =>
 xS 5 t89 t88 <|
 k1) <|
 Join1 (fun k7 =>
 xO .geq 3 p1 (.int .i64 100) fun t92 =>
 xW t92
 (xO .leq 3 p1 (.int .i64 107) fun t95 =>
 k7 t95) <|
 k7 (.bool false)) fun t90 =>
 xW t90
 (xO .sub 3 p1 (.int .i64 92) fun t98 =>
 xC 235 [.const t98] [3] 5 fun t99 =>
 xF 167 t2 2 fun t100 =>
 xS 5 t100 t99 <|
 k1) <|
 k1) <|
 xL 167 t2 fun t101 =>
 xS 167 t4 t101 <|
 xD 167 t4 fun t4_1 =>
 K t4_1
theorem YB (p0 p1:Value):Lk 228 #[p0,p1] (Kp p0 p1):=lk [p0,p1] [(4,[]),(11,[13]),(19,[34]),(23,[49]),(31,[64]),(39,[79]),(43,[90])] Tryz.func228
theorem UP:Ad Tryz.prog 228:=bd Tryz.func228
def OC (p0:Value) (K:Value→World→Prop):World→Prop :=
 OpX Tryz.prog (.call { callee:=.builtin .max,args:=#[.const p0,.const (.int .i64 1)],argTypes:=#[3,3] }) 3 fun t4 =>
 OpX Tryz.prog (.convert 3 5 (.const t4)) 5 fun t5 =>
 K t5
theorem QA (p0:Value):Lk 235 #[p0] (OC p0):=lk [p0] [] Tryz.func235
theorem EL:Ad Tryz.prog 235:=bd Tryz.func235
def Kr (p0 p1 p2:Value) (K:Value→World→Prop):World→Prop :=
 OpX Tryz.prog (.call { callee:=.value (.const (.func (.func 241) #[] #[])),args:=#[.const p0],argTypes:=#[3] }) 3 fun t10 =>
 xO .mul 3 (.int .i64 36) t10 fun t11 =>
 xO .add 3 (.int .i64 16) t11 fun t12 =>
 OpX Tryz.prog (.call { callee:=.value (.const (.func (.func 241) #[] #[])),args:=#[.const p1],argTypes:=#[3] }) 3 fun t15 =>
 xO .mul 3 (.int .i64 6) t15 fun t16 =>
 xO .add 3 t12 t16 fun t17 =>
 OpX Tryz.prog (.call { callee:=.value (.const (.func (.func 241) #[] #[])),args:=#[.const p2],argTypes:=#[3] }) 3 fun t20 =>
 xO .add 3 t17 t20 fun t21 =>
 OpX Tryz.prog (.convert 3 5 (.const t21)) 5 fun t22 =>
 K t22
theorem Vc (p0 p1 p2:Value):Lk 236 #[p0,p1,p2] (Kr p0 p1 p2):=lk [p0,p1,p2] [] Tryz.func236
theorem Uw:Ad Tryz.prog 236:=bd Tryz.func236
def Lt (K:Value→World→Prop):World→Prop :=
 xA 327 fun t0 =>
 OpX Tryz.prog (.build 327 #[(0,.const (.int .u8 0)),(1,.const (.int .u8 1)),(2,.const (.int .u8 2)),(3,.const (.int .u8 4)),(4,.const (.int .u8 8)),(5,.const (.int .u8 16)),(6,.const (.int .u8 0)),(7,.const (.int .u8 32))]) 327 fun t1 =>
 xS 327 t0 t1 <|
 xD 327 t0 fun t0_1 =>
 K t0_1
theorem Uh:Lk 237 #[] (Lt):=lk [] [] Tryz.func237
theorem SA:Ad Tryz.prog 237:=bd Tryz.func237
def KC (p0:Value) (K:Value→World→Prop):World→Prop :=
 OpX Tryz.prog (.call { callee:=.builtin .max,args:=#[.const p0,.const (.int .i64 0)],argTypes:=#[3,3] }) 3 fun t4 =>
 OpX Tryz.prog (.call { callee:=.builtin .min,args:=#[.const t4,.const (.int .i64 255)],argTypes:=#[3,3] }) 3 fun t5 =>
 xO .quo 3 t5 (.int .i64 43) fun t6 =>
 K t6
theorem UH (p0:Value):Lk 241 #[p0] (KC p0):=lk [p0] [] Tryz.func241
theorem IC:Ad Tryz.prog 241:=bd Tryz.func241
def MU (p0 p1 p2:Value) (K:Value→World→Prop):World→Prop :=
 xB 247 p0 fun t3 =>
 Join1 (fun k1 =>
 xO .lss 3 p1 (.int .i64 0) fun t8 =>
 xW t8
 (k1 (.bool true)) <|
 xO .geq 3 p1 (.int .i64 8) fun t11 =>
 xW t11
 (k1 (.bool true)) <|
 xF 247 t3 4 fun t15 =>
 xL 3 t15 fun t16 =>
 xO .geq 3 p1 t16 fun t17 =>
 k1 t17) fun t18 =>
 xW t18
 (K p2) <|
 xF 247 t3 5 fun t21 =>
 xI 158 t21 p1 fun t22 =>
 xL 3 t22 fun t23 =>
 OpX Tryz.prog (.call { callee:=.builtin .max,args:=#[.const t23,.const p2],argTypes:=#[3,3] }) 3 fun t25 =>
 K t25
theorem Zr (p0 p1 p2:Value):Lk 214 #[p0,p1,p2] (MU p0 p1 p2):=lk [p0,p1,p2] [(4,[18])] Tryz.func214
theorem Dt:Ad Tryz.prog 214:=bd Tryz.func214
def O4 (p0 p1 p2:Value) (K:Value→World→Prop):World→Prop :=
 xU p0 203 fun t12 =>
 OpX Tryz.prog (.slice 203 (.const p0) (some (.const p1)) (some (.const p2)) (some (.const t12))) 203 fun _ =>
 xO .eql 3 p1 p2 fun t16 =>
 xW t16
 (K p0) <|
 xU p0 203 fun t19 =>
 Aj <|
 xP (.slice 203 (.const p0) none (some (.const p1)) none) 203 fun t22 =>
 xP (.slice 203 (.const p0) (some (.const p2)) none none) 203 fun t25 =>
 OpX Tryz.prog (.call { callee:=.builtin .append,args:=#[.const t22,.const t25],argTypes:=#[203,203] }) 203 fun t26 =>
 xU t26 203 fun t29 =>
 OpX Tryz.prog (.slice 203 (.const t26) (some (.const t29)) (some (.const t19)) none) 203 fun t31 =>
 OpX Tryz.prog (.call { callee:=.builtin .clear,args:=#[.const t31],argTypes:=#[203] }) 0 fun _ =>
 K t26
theorem XU (p0 p1 p2:Value):Lk 224 #[p0,p1,p2] (O4 p0 p1 p2):=lk [p0,p1,p2] [] Tryz.func224
theorem Xc:Ad Tryz.prog 224:=bd Tryz.func224
end Go.Proofs.YtelplojmbjnplaaGreatDoor
namespace Lyc
open Go
theorem WE (c:Cel):c.tailOf.wide=false:=by
 have h:∀a:BitVec 8,((a &&& ~~~64#8) ||| 128#8) &&& 64#8=0#8:=by decide
 simp only[Cel.wide,Cel.tailOf,h];rfl
theorem O9 {c:Cel} (h:c.plain=true):c.wide=false:=by
 have h1:∀a:BitVec 8,a &&& 192#8=0#8→a &&& 64#8=0#8:=by decide
 simp only[Cel.plain,decide_eq_true_eq] at h
 simp [Cel.wide,h1 _ h]
theorem Up {c d:Cel} (h:BH c d=true):c.wide=true∧c.check=true∧d=c.tailOf:=by
 simpa [BH,and_assoc] using h
theorem Nl {c d:Cel} (h:c.wide=false):BH c d=false:=by simp [BH,h]
theorem Ka (c d:Cel) (l:List Cel):Bl (c::d::l) 0=BH c d:=rfl
def Dj (l:List Cel):Nat→Bool
 | 0=>Bl l 0
 | i+1=>Bl l (i+1) || Bl l i
theorem Nd {c:Cel} {l:List Cel} (h:Bl (c::l) 0=false) (i:Nat):Dj (c::l) (i+1)=Dj l i:=by
 cases i with
 | zero=>show(Bl l 0 || Bl (c::l) 0)=Bl l 0;rw[h];simp
 | succ i=>rfl
theorem RU {c d:Cel} {l:List Cel} (h:BH c d=true):Bl (d::l) 0=false:=by
 cases l with
 | nil=>rfl
 | cons e l=>rw[Ka];exact Nl (by rw[(Up h).2.2];exact WE c)
theorem Zd {c d:Cel} {l:List Cel} (h:BH c d=true) (i:Nat):Dj (c::d::l) (i+2)=Dj l i:=by
 rw[←Nd (RU h) i]
 rfl
theorem HL:∀(l:List Cel) (_:∀i c,l[i]?=some c→Dj l i=true∨c.single=true),right l=true
 | [],_=>rfl
 | [d],h=>by
  rcases h 0 d rfl with h|h
  ·exact absurd h (by simp [Dj,Bl])
  ·exact h
 | c::d::l,h=>by
  unfold right
  by_cases hp:BH c d=true
  ·rw[if_pos hp]
   exact HL l fun i x hx=>by have:=h (i+2) x hx;rwa [Zd hp] at this
  ·rw[if_neg hp,Bool.and_eq_true]
   have hp':Bl (c::d::l) 0=false:=by rw[Ka];simpa using hp
   refine⟨?_,HL (d::l) fun i x hx=>by have:=h (i+1) x hx;rwa [Nd hp'] at this⟩
   rcases h 0 c rfl with h|h
   ·exact absurd h (by simp [Dj,hp'])
   ·exact h
theorem EI (c:Cel):c.fix.single=true:=by
 unfold Cel.fix
 split
 ·assumption
 ·have:Ba 32=1:=by decide
  simp [Cel.single,Cel.plain,Cel.check,Cel.tail,Cel.wide,this]
theorem Yz {c:Cel} (h:c.single=true):c.plain=true:=by unfold Cel.single at h;rw[Bool.and_eq_true] at h;exact h.1
theorem Iu:∀l:List Cel,right (AN l)=true
 | []=>rfl
 | [c]=>EI c
 | c::d::l=>by
  unfold AN
  by_cases hp:BH c d=true
  ·rw[if_pos hp];unfold right;rw[if_pos hp];exact Iu l
  ·rw[if_neg hp]
   have ih:=Iu (d::l)
   generalize AN (d::l)=m at ih
   cases m with
   | nil=>exact EI c
   | cons e m =>
    unfold right
    rw[Nl (O9 (Yz (EI c)))]
    simp [EI,ih]
theorem TX {l:List Cel} (h:∀c∈l,c.single=true):right l=true :=
 HL l fun _ _ hi=>.inr (h _ (List.mem_of_getElem? hi))
theorem RL {c:Cel} (h:c.usual=true):c.single=true:=by simpa [Cel.usual,Cel.single,Bool.and_comm] using h
theorem Gr.chg_right {g:Gr} (hg:g.ok) (hr:g.right=true) {top fin:Int} {f:Nat→List Cel} (hf:∀y,y<g.h→top≤(y:Int)→(y:Int)<fin→(f y).length=g.w):(g.chg top fin f).right=true :=
 (g.chg top fin f).right_of fun y hy=>by
  rw[Gr.chg_row hg hf hy]
  split
  ·exact Iu _
  ·exact Gr.right.at hr hy
theorem Gr.plain_row {w h:Nat} {c:Cel} {y:Nat} (hy:y<h):(Gr.plain w h c).row y=List.replicate w c:=by
 have h1:=Nat.mul_le_mul_right w (show y+1≤h by omega)
 rw[Nat.add_mul,Nat.mul_comm h w] at h1
 simp [Gr.row,Gr.plain]
 omega
theorem Gr.plain_right {w h:Nat} {c:Cel} (hc:c.single=true):(Gr.plain w h c).right=true :=
 Gr.right_of fun y hy=>by rw[Gr.plain_row (w:=w) (h:=h) (c:=c) hy];exact TX fun x hx=>by rw[List.eq_of_mem_replicate hx];exact hc
theorem SO:Cel.blank.single=true:=by have:=EI ⟨32,0,0,1⟩;decide
def Cel.fits (c:Cel):Prop:=-2147483648≤c.r∧c.r≤2147483647
def bf (l:List Cel):Nat→Bool
 | 0=>false
 | i+1=>Bl l i
def lay (cs:List Cel) (p:Nat) (l:List Cel) (k:Nat):List Cel:=cs.take p++l.take k++cs.drop (p+k)
theorem Zz {g:Gr} (hg:g.ok) {T E N:Int} {c:Cel}:(g.scroll T E N c).ok :=
 Gr.chg_ok hg fun y _ _ _=>hg.scrollF_len (by omega) (by omega) y
theorem V7 {g:Gr} (hg:g.ok) (hr:g.right=true) {T E N:Int} {c:Cel}:(g.scroll T E N c).right=true :=
 Gr.chg_right hg hr fun y _ _ _=>hg.scrollF_len (by omega) (by omega) y
theorem Gr.of_rows {g:Gr} (hg:g.ok) {R:Nat→List Cel} (h:∀y,y<g.h→R y=g.row y):Gr.of g.w g.h R=g:=by
 unfold Gr.of
 rw[Eb h,hg.rows]
theorem JE {g:Gr} {w h:Nat} {c:Cel}:∀y,y<(Gr.plain w h c).h→(0:Int)≤(y:Int)→(y:Int)<min (h:Int) g.h→(AL w fun x=>if x<g.w then g.at x y else(Gr.plain w h c).at x y).length=(Gr.plain w h c).w:=fun _ _ _ _=>Bi _ _
theorem YM {g:Gr} {w h:Nat} {c:Cel} (w0:0<w) (w1:w≤200) (h0:0<h) (h1:h≤60):(g.resize w h c).ok:=Gr.chg_ok (Gr.plain_ok w0 w1 h0 h1 c) JE
theorem RC {g:Gr} {w h:Nat} {c:Cel} (hu:c.usual=true) (w0:0<w) (w1:w≤200) (h0:0<h) (h1:h≤60):(g.resize w h c).right=true:=Gr.chg_right (Gr.plain_ok w0 w1 h0 h1 c) (Gr.plain_right (RL hu)) JE
structure Gr.fit (g:Gr) (w h:Nat):Prop where
 ok:g.ok
 r:g.right=true
 w:g.w=w
 h:g.h=h
theorem Gr.put_ok {g:Gr} (hg:g.ok) {X Y:Int} {l:List Cel}:(g.put X Y l).ok:=Gr.chg_ok hg fun _ _ _ _=>Bi _ _
theorem Gr.put_right {g:Gr} (hg:g.ok) (hr:g.right=true) {X Y:Int} {l:List Cel}:(g.put X Y l).right=true:=Gr.chg_right hg hr fun _ _ _ _=>Bi _ _
theorem Gr.fit.put {g:Gr} {w h:Nat} (hg:g.fit w h) {X Y:Int} {l:List Cel}:(g.put X Y l).fit w h:=⟨Gr.put_ok hg.ok,Gr.put_right hg.ok hg.r,hg.w,hg.h⟩
theorem Gr.fit.fill {g:Gr} {w h:Nat} (hg:g.fit w h) {X Y W H:Int} {c:Cel}:(g.fill X Y W H c).fit w h:=⟨Gr.chg_ok hg.ok fun _ _ _ _=>Bi _ _,Gr.chg_right hg.ok hg.r fun _ _ _ _=>Bi _ _,hg.w,hg.h⟩
theorem Gr.fit.scroll {g:Gr} {w h:Nat} (hg:g.fit w h) {T E N:Int} {c:Cel}:(g.scroll T E N c).fit w h:=⟨Zz hg.ok,V7 hg.ok hg.r,hg.w,hg.h⟩
theorem Gr.fit.shift {g:Gr} {w h:Nat} (hg:g.fit w h) {X Y N:Int} {c:Cel}:(g.shift X Y N c).fit w h:=⟨Gr.chg_ok hg.ok fun _ _ _ _=>Bi _ _,Gr.chg_right hg.ok hg.r fun _ _ _ _=>Bi _ _,hg.w,hg.h⟩
theorem Gr.fit_plain {w h:Nat} (w0:0<w) (w1:w≤200) (h0:0<h) (h1:h≤60):(Gr.plain w h Cel.blank).fit w h:=⟨Gr.plain_ok w0 w1 h0 h1 _,Gr.plain_right SO,rfl,rfl⟩
theorem Gr.fit_resize {g:Gr} {w h:Nat} (w0:0<w) (w1:w≤200) (h0:0<h) (h1:h≤60):(g.resize w h Cel.blank).fit w h:=⟨YM w0 w1 h0 h1,RC (by decide) w0 w1 h0 h1,rfl,rfl⟩
theorem Gr.row_one {g:Gr} (hg:g.ok) (h:g.h=1):g.row 0=g.cs:=by
 have:=hg.len
 rw[h,Nat.mul_one] at this
 simp [Gr.row,←this]
def G8 (w:Nat) (f:Gr→Gr):Prop:=∀g:Gr,g.fit w 1→(f g).fit w 1
theorem Gr.fit.row1 {g:Gr} {w h:Nat} (hg:g.fit w h) {y:Nat} (hy:y<h):(⟨w,1,g.row y⟩:Gr).fit w 1:=by
 have hl:=hg.ok.row_len (y:=y) (by rw[hg.h];exact hy)
 have h0:=hg.ok.w0
 have h1:=hg.ok.w1
 have hw:=hg.w
 have hok:(⟨w,1,g.row y⟩:Gr).ok:=⟨by show 0<w;omega,by show w≤200;omega,Nat.one_pos,by show 1≤60;omega,by show(g.row y).length=w*1;omega⟩
 refine⟨hok,Gr.right_of fun y' hy'=>?_,rfl,rfl⟩
 have:y'=0:=by have:y'<1:=hy';omega
 subst this
 rw[Gr.row_one hok rfl]
 exact Gr.right.at hg.r (by rw[hg.h];exact hy)
theorem Gr.fit.cs1 {g:Gr} {w:Nat} (hg:g.fit w 1):g.cs.length=w∧Lyc.right g.cs=true:=by
 have h1:=hg.ok.len
 rw[hg.w,hg.h,Nat.mul_one] at h1
 refine⟨h1,?_⟩
 have:=Gr.right.at hg.r (y:=0) (by rw[hg.h];omega)
 rwa [Gr.row_one hg.ok hg.h] at this
theorem Gr.fit.line {g:Gr} {w h:Nat} (hg:g.fit w h) {f:Gr→Gr} (hf:G8 w f) {Y:Nat}:(Gr.of w h fun y=>if y=Y then(f ⟨w,1,g.row y⟩).cs else g.row y).fit w h:=by
 have hh:=hg.h
 have hw:=hg.w
 have hR:∀y,y<h→(if y=Y then(f ⟨w,1,g.row y⟩).cs else g.row y).length=w:=by
  intro y hy
  split
  ·exact(hf _ (hg.row1 hy)).cs1.1
  ·rw[hg.ok.row_len (by omega),hw]
 have w0:=hg.ok.w0
 have w1:=hg.ok.w1
 have h0:=hg.ok.h0
 have h1:=hg.ok.h1
 refine⟨Gr.of_ok (by omega) (by omega) (by omega) (by omega) hR,Gr.right_of fun y hy=>?_,rfl,rfl⟩
 have hy':y<h:=hy
 rw[Gr.of_row hR hy']
 split
 ·exact(hf _ (hg.row1 hy')).cs1.2
 ·exact Gr.right.at hg.r (by omega)
structure Scr.ok (S:Scr):Prop where
 w0:0<S.w
 w1:S.w≤200
 h0:0<S.h
 h1:S.h≤60
 g0:S.g0.fit S.w S.h
 g1:S.g1.fit S.w S.h
 nx:S.now.x<S.w
 ny:S.now.y<S.h
 s0x:S.s0.x<S.w
 s0y:S.s0.y<S.h
 s1x:S.s1.x<S.w
 s1y:S.s1.y<S.h
 tf:S.top<S.fin
 fh:S.fin≤S.h
 tl:S.tabs.length=200
 gl:S.gone.length≤500
 gr:∀r∈S.gone,right r=true∧r.length≤200
structure Nx (S T:Scr):Prop where
 ok:T.ok
 w:T.w=S.w
 h:T.h=S.h
 gw:(∀r∈S.gone,r.length=S.w)→∀r∈T.gone,r.length=T.w
theorem Nx.refl {S:Scr} (h:S.ok):Nx S S:=⟨h,rfl,rfl,fun g=>g⟩
theorem Nx.trans {S T U:Scr} (h:Nx S T) (k:Nx T U):Nx S U:=⟨k.ok,k.w.trans h.w,k.h.trans h.h,fun g=>k.gw (h.gw g)⟩
theorem HD:DS.length=200:=by unfold DS;rw[List.length_map,List.length_range]
theorem Scr.ok_new {w h:Nat} (w0:0<w) (w1:w≤200) (h0:0<h) (h1:h≤60):(Scr.new w h).ok :=
 ⟨w0,w1,h0,h1,Gr.fit_plain w0 w1 h0 h1,Gr.fit_plain w0 w1 h0 h1,w0,h0,w0,h0,w0,h0,h0,Nat.le_refl _,HD,by simp [Scr.new],by simp [Scr.new]⟩
section
variable {S:Scr} (h:S.ok)
include h
theorem Scr.ok.renew:Nx S S.renew :=
 ⟨⟨h.w0,h.w1,h.h0,h.h1,Gr.fit_plain h.w0 h.w1 h.h0 h.h1,Gr.fit_plain h.w0 h.w1 h.h0 h.h1,h.w0,h.h0,h.w0,h.h0,h.w0,h.h0,h.h0,Nat.le_refl _,HD,h.gl,h.gr⟩,rfl,rfl,fun g=>g⟩
theorem Scr.ok.cur:S.cur.fit S.w S.h:=by
 unfold Scr.cur
 cases S.alt
 ·exact h.g0
 ·exact h.g1
theorem Scr.ok.setCur {g:Gr} (hg:g.fit S.w S.h):Nx S (S.setCur g):=by
 unfold Scr.setCur
 cases S.alt
 ·exact⟨⟨h.w0,h.w1,h.h0,h.h1,hg,h.g1,h.nx,h.ny,h.s0x,h.s0y,h.s1x,h.s1y,h.tf,h.fh,h.tl,h.gl,h.gr⟩,rfl,rfl,fun g=>g⟩
 ·exact⟨⟨h.w0,h.w1,h.h0,h.h1,h.g0,hg,h.nx,h.ny,h.s0x,h.s0y,h.s1x,h.s1y,h.tf,h.fh,h.tl,h.gl,h.gr⟩,rfl,rfl,fun g=>g⟩
theorem Scr.ok.at {x y:Nat} (hx:x<S.w) (hy:y<S.h):Nx S (S.at x y) :=
 ⟨⟨h.w0,h.w1,h.h0,h.h1,h.g0,h.g1,hx,hy,h.s0x,h.s0y,h.s1x,h.s1y,h.tf,h.fh,h.tl,h.gl,h.gr⟩,rfl,rfl,fun g=>g⟩
theorem Scr.ok.calm:Nx S S.calm :=
 ⟨⟨h.w0,h.w1,h.h0,h.h1,h.g0,h.g1,h.nx,h.ny,h.s0x,h.s0y,h.s1x,h.s1y,h.tf,h.fh,h.tl,h.gl,h.gr⟩,rfl,rfl,fun g=>g⟩
omit h in
theorem C7 {x:Int} {n:Nat} (hn:0<n):AH x n<n:=by unfold AH;omega
theorem Scr.ok.move {x y:Int}:Nx S (S.move x y):=h.at (C7 h.w0) (C7 h.h0)
theorem Scr.ok.save:Nx S S.save:=by
 unfold Scr.save
 cases S.alt
 ·exact⟨⟨h.w0,h.w1,h.h0,h.h1,h.g0,h.g1,h.nx,h.ny,h.nx,h.ny,h.s1x,h.s1y,h.tf,h.fh,h.tl,h.gl,h.gr⟩,rfl,rfl,fun g=>g⟩
 ·exact⟨⟨h.w0,h.w1,h.h0,h.h1,h.g0,h.g1,h.nx,h.ny,h.s0x,h.s0y,h.nx,h.ny,h.tf,h.fh,h.tl,h.gl,h.gr⟩,rfl,rfl,fun g=>g⟩
theorem Scr.ok.restore:Nx S S.restore:=by
 unfold Scr.restore
 cases S.alt
 ·exact⟨⟨h.w0,h.w1,h.h0,h.h1,h.g0,h.g1,h.s0x,h.s0y,h.s0x,h.s0y,h.s1x,h.s1y,h.tf,h.fh,h.tl,h.gl,h.gr⟩,rfl,rfl,fun g=>g⟩
 ·exact⟨⟨h.w0,h.w1,h.h0,h.h1,h.g0,h.g1,h.s1x,h.s1y,h.s0x,h.s0y,h.s1x,h.s1y,h.tf,h.fh,h.tl,h.gl,h.gr⟩,rfl,rfl,fun g=>g⟩
theorem Scr.ok.line {f:Gr→Gr} (hf:G8 S.w f):Nx S (S.line f):=h.setCur (h.cur.line hf)
theorem Scr.ok.erase {x n:Int}:Nx S (S.erase x n):=h.line fun _ hg=>hg.fill
theorem Scr.ok.clear {y n:Int}:Nx S (S.clear y n):=h.setCur h.cur.fill
theorem Scr.ok.scroll {t n:Int}:Nx S (S.scroll t n):=h.setCur h.cur.scroll
omit h in
theorem UM (l:List (List Cel)):(DJ l).length≤500:=by simp [DJ];omega
theorem Scr.ok.keep {n:Int}:Nx S (S.keep n):=by
 unfold Scr.keep
 split
 ·have e:=UM (S.gone++(List.range (min n S.fin).toNat).map S.g0.row)
  have e2:∀r∈DJ (S.gone++(List.range (min n S.fin).toNat).map S.g0.row),r∈S.gone++(List.range (min n S.fin).toNat).map S.g0.row:=fun r hr=>List.mem_of_mem_drop hr
  generalize DJ (S.gone++(List.range (min n S.fin).toNat).map S.g0.row)=L at e e2 ⊢
  refine⟨⟨h.w0,h.w1,h.h0,h.h1,h.g0,h.g1,h.nx,h.ny,h.s0x,h.s0y,h.s1x,h.s1y,h.tf,h.fh,h.tl,e,fun r hr=>?_⟩,rfl,rfl,fun g r hr=>?_⟩
  rotate_left
  ·rcases List.mem_append.1 (e2 r hr) with hr'|hr'
   ·exact g r hr'
   ·obtain⟨y,hy,rfl⟩:=List.mem_map.1 hr'
    have hy':=List.mem_range.1 hy
    have:=h.fh
    have hyh:y<S.g0.h:=by rw[h.g0.h];omega
    show _=S.w
    rw[h.g0.ok.row_len hyh,h.g0.w]
  have hr':=e2 r hr
  rcases List.mem_append.1 hr' with hr'|hr'
  ·exact h.gr r hr'
  ·obtain⟨y,hy,rfl⟩:=List.mem_map.1 hr'
   have hy':=List.mem_range.1 hy
   have:=h.fh
   have hyh:y<S.g0.h:=by rw[h.g0.h];omega
   exact⟨Gr.right.at h.g0.r hyh,by rw[h.g0.ok.row_len hyh];exact h.g0.ok.w1⟩
 ·exact .refl h
theorem Scr.ok.up {n:Int}:Nx S (S.up n):=h.keep.trans h.keep.ok.scroll
theorem Scr.ok.below:Nx S S.below:=by
 unfold Scr.below
 split
 ·exact h.up
 ·split
  ·exact h.at h.nx ‹_›
  ·exact .refl h
theorem Scr.ok.above:Nx S S.above:=by
 unfold Scr.above
 split
 ·exact h.scroll
 ·split
  ·exact h.at h.nx (by have:=h.ny;omega)
  ·exact .refl h
theorem Scr.ok.wrapped:Nx S S.wrapped:=by
 unfold Scr.wrapped
 split
 ·exact(h.at h.w0 h.ny).trans (h.at h.w0 h.ny).ok.below
 ·exact .refl h
omit h in
theorem D3 (g:Gr):(S.setCur g).now=S.now:=by unfold Scr.setCur;cases S.alt<;>rfl
omit h in
theorem Rh (n:Int):(S.keep n).now=S.now:=by unfold Scr.keep;split<;>rfl
omit h in
theorem PV (n:Int):(S.up n).now=S.now:=by unfold Scr.up Scr.scroll;rw[D3,Rh]
omit h in
theorem Sr:S.below.now.x=S.now.x:=by
 unfold Scr.below
 split
 ·rw[PV]
 ·split<;>rfl
theorem Scr.ok.roomFor {n:Nat} (h0:0<n) (hn:n≤S.w):Nx S (S.roomFor n)∧(S.roomFor n).now.x+n≤S.w:=by
 unfold Scr.roomFor
 split
 ·split
  ·refine⟨(h.at h.w0 h.ny).trans (h.at h.w0 h.ny).ok.below,?_⟩
   rw[Sr]
   show 0+n≤S.w
   omega
  ·exact⟨h.at (by omega) h.ny,by show S.w-n+n≤S.w;omega⟩
 ·exact⟨.refl h,by omega⟩
theorem Scr.ok.lay {r:Int} {n:Nat} (hn:S.now.x+n≤S.w):Nx S (S.lay r n):=by
 have h1:Nx S (S.line fun g=>g.put S.now.x 0 (Co r S.now.pen)):=h.line fun _ hg=>hg.put
 have hw:=h1.w
 have hh:=h1.h
 have w0:=h.w0
 have hy:=h.ny
 unfold Scr.lay
 dsimp only
 split
 ·have h2:=h1.ok.at (x:=S.w-1) (y:=S.now.y) (by omega) (by omega)
  exact h1.trans (h2.trans ⟨⟨h2.ok.w0,h2.ok.w1,h2.ok.h0,h2.ok.h1,h2.ok.g0,h2.ok.g1,h2.ok.nx,h2.ok.ny,h2.ok.s0x,h2.ok.s0y,h2.ok.s1x,h2.ok.s1y,h2.ok.tf,h2.ok.fh,h2.ok.tl,h2.ok.gl,h2.ok.gr⟩,rfl,rfl,fun g=>g⟩)
 ·have h2:=h1.ok.at (x:=S.now.x+n) (y:=S.now.y) (by omega) (by omega)
  exact h1.trans (h2.trans h2.ok.calm)
omit h in
theorem Ja (r:Int):Ba r=0∨Ba r=1∨Ba r=2:=by
 have h:∀l:List (Int × Int × Int),(∀s∈l,s.2.2=0∨s.2.2=1∨s.2.2=2)→(Cn l r=0∨Cn l r=1∨Cn l r=2):=by
  intro l
  induction l with
  | nil=>intro _;exact .inr (.inl rfl)
  | cons s l ih =>
   intro hl
   unfold Cn
   split
   ·exact hl s (by simp)
   ·exact ih fun x hx=>hl x (by simp [hx])
 unfold Ba
 split
 ·exact .inl rfl
 ·split
  ·exact .inr (.inl rfl)
  ·exact h BD (by decide)
theorem Scr.ok.print {r:Int}:Nx S (S.print r):=by
 unfold Scr.print
 split
 ·exact .refl h
 ·have hw:=Ja r
  have h1:=h.wrapped
  have hn:0<(Ba r).toNat∧(Ba r).toNat≤S.wrapped.w:=by rw[h1.w];omega
  have h2:=h1.ok.roomFor hn.1 hn.2
  exact h1.trans (h2.1.trans (h2.1.ok.lay (by rw[h2.1.w];exact h2.2)))
theorem Scr.ok.tab:Nx S S.tab:=h.at (by have:=h.w0;omega) h.ny
theorem Scr.ok.ctl {r:Int}:Nx S (S.ctl r):=by
 have w0:=h.w0
 have nx:=h.nx
 unfold Scr.ctl
 split
 ·exact(h.at (by omega) h.ny).trans (h.at (by omega) h.ny).ok.calm
 ·split
  ·exact h.tab.trans h.tab.ok.calm
  ·split
   ·exact h.below.trans h.below.ok.calm
   ·split
    ·exact(h.at w0 h.ny).trans (h.at w0 h.ny).ok.calm
    ·exact .refl h
theorem Scr.ok.setTabs {l:List Bool} (hl:l.length=200):Nx S { S with tabs:=l } :=
 ⟨⟨h.w0,h.w1,h.h0,h.h1,h.g0,h.g1,h.nx,h.ny,h.s0x,h.s0y,h.s1x,h.s1y,h.tf,h.fh,hl,h.gl,h.gr⟩,rfl,rfl,fun g=>g⟩
theorem Scr.ok.esc {r:Int}:Nx S (S.esc r):=by
 unfold Scr.esc
 split
 ·exact h.save
 ·split
  ·exact h.setTabs (by rw[List.length_set];exact h.tl)
  ·split
   ·have h1:=h.at (x:=0) (y:=S.now.y) h.w0 h.ny
    exact h1.trans (h1.ok.below.trans h1.ok.below.ok.calm)
   ·split
    ·exact h.below.trans h.below.ok.calm
    ·split
     ·exact h.above.trans h.above.ok.calm
     ·split
      ·exact h.restore.trans h.restore.ok.calm
      ·split
       ·exact h.renew.trans h.renew.ok.calm
       ·exact .refl h
theorem Scr.ok.mode {n:Int} {on:Bool}:Nx S (S.mode n on):=by
 unfold Scr.mode
 split
 ·exact⟨⟨h.w0,h.w1,h.h0,h.h1,h.g0,h.g1,h.nx,h.ny,h.s0x,h.s0y,h.s1x,h.s1y,h.tf,h.fh,h.tl,h.gl,h.gr⟩,rfl,rfl,fun g=>g⟩
 ·split
  ·exact⟨⟨h.w0,h.w1,h.h0,h.h1,h.g0,h.g1,h.nx,h.ny,h.s0x,h.s0y,h.s1x,h.s1y,h.tf,h.fh,h.tl,h.gl,h.gr⟩,rfl,rfl,fun g=>g⟩
  ·split
   ·split
    ·have k:=h.save.ok
     have hw:=h.save.w
     have hh:=h.save.h
     refine⟨⟨k.w0,k.w1,k.h0,k.h1,k.g0,?_,k.nx,k.ny,k.s0x,k.s0y,k.s1x,k.s1y,k.tf,k.fh,k.tl,k.gl,k.gr⟩,hw,hh,h.save.gw⟩
     show(Gr.plain S.w S.h Cel.blank).fit S.save.w S.save.h
     rw[hw,hh]
     exact Gr.fit_plain h.w0 h.w1 h.h0 h.h1
    ·split
     ·have k:Nx S { S with alt:=false }:=⟨⟨h.w0,h.w1,h.h0,h.h1,h.g0,h.g1,h.nx,h.ny,h.s0x,h.s0y,h.s1x,h.s1y,h.tf,h.fh,h.tl,h.gl,h.gr⟩,rfl,rfl,fun g=>g⟩
      exact k.trans k.ok.restore
     ·exact .refl h
   ·exact .refl h
theorem Scr.ok.modes {l:List Int} {on:Bool}:Nx S (S.modes l on):=by
 unfold Scr.modes
 induction l generalizing S with
 | nil=>exact .refl h
 | cons n l ih=>exact h.mode.trans (ih h.mode.ok)
omit h in
theorem Dy (a:Act') (i:Nat) (Bk:Int):Bk≤a.num i Bk:=by unfold Act'.num;split<;>omega
theorem Scr.ok.moved {a:Act'} {T:Scr} (ht:S.moved a=some T):Nx S T:=by
 have hn:=Dy a 0 1
 have hx:=h.nx
 have hy:=h.ny
 have w0:=h.w0
 have tf:=h.tf
 have fh:=h.fh
 have key:∀y:Nat,y<S.h→Nx S ((S.at 0 S.now.y).at (S.at 0 S.now.y).now.x y):=fun y hy'=>(h.at w0 hy).trans ((h.at w0 hy).ok.at w0 hy')
 have e1:(if S.top≤S.now.y then(S.top:Int) else 0)≤S.now.y:=by split<;>omega
 have e2:(if S.now.y+1≤S.fin then(S.fin:Int)-1 else(S.h:Int)-1)<S.h:=by split<;>omega
 unfold Scr.moved at ht
 dsimp only at ht
 split at ht
 ·cases ht;refine key _ ?_;simp only[Scr.at];omega
 ·split at ht
  ·cases ht;refine h.at hx ?_;omega
  ·split at ht
   ·cases ht;refine key _ ?_;simp only[Scr.at];omega
   ·split at ht
    ·cases ht;refine h.at hx ?_;omega
    ·split at ht
     ·cases ht;exact h.move
     ·split at ht
      ·cases ht;exact h.move
      ·split at ht
       ·cases ht;exact h.move
       ·split at ht
        ·cases ht;exact h.move
        ·split at ht
         ·cases ht;exact h.move
         ·split at ht
          ·cases ht;exact h.restore
          ·cases ht
theorem Scr.ok.region {t f:Int} (h0:0≤t) (h1:0≤f):Nx S (S.region t f):=by
 have e1:(if f=0∨(S.h:Int)<f then(S.h:Int) else f)≤S.h∧0≤(if f=0∨(S.h:Int)<f then(S.h:Int) else f):=by split<;>omega
 unfold Scr.region
 dsimp only
 generalize (if f=0∨(S.h:Int)<f then(S.h:Int) else f)=F at e1 ⊢
 split
 ·rename_i hlt
  have k:Nx S { S with top:=t.toNat,fin:=F.toNat }:=by
   refine⟨⟨h.w0,h.w1,h.h0,h.h1,h.g0,h.g1,h.nx,h.ny,h.s0x,h.s0y,h.s1x,h.s1y,?_,?_,h.tl,h.gl,h.gr⟩,rfl,rfl,fun g=>g⟩
   ·show t.toNat<F.toNat
    omega
   ·show F.toNat≤S.h
    omega
  exact k.trans k.ok.move
 ·exact .refl h
theorem Scr.ok.wipeRows {k:Int}:Nx S (S.wipeRows k):=by
 unfold Scr.wipeRows
 split
 ·exact h.clear
 ·split
  ·exact h.clear
  ·split
   ·exact h.clear
   ·exact .refl h
theorem Scr.ok.wipeLine {k:Int}:Nx S (S.wipeLine k):=by
 unfold Scr.wipeLine
 split
 ·exact h.erase
 ·split
  ·exact h.erase
  ·split
   ·exact h.erase
   ·exact .refl h
theorem Scr.ok.shiftRows {n:Int}:Nx S (S.shiftRows n):=by
 unfold Scr.shiftRows
 split
 ·have k:=h.scroll (t:=S.now.y) (n:=-n)
  exact k.trans (k.ok.at (by rw[k.w];exact h.w0) (by rw[k.h];exact h.ny))
 ·exact .refl h
theorem Scr.ok.changed {a:Act'} {T:Scr} (ht:S.changed a=some T):Nx S T:=by
 have hn:=Dy a 0 1
 have hm:=Dy a 1 0
 unfold Scr.changed at ht
 dsimp only at ht
 split at ht
 ·cases ht;exact h.wipeRows.trans h.wipeRows.ok.wipeLine
 ·split at ht
  ·cases ht;exact h.wipeLine
  ·split at ht
   ·cases ht;exact h.shiftRows
   ·split at ht
    ·cases ht;exact h.shiftRows
    ·split at ht
     ·cases ht;exact h.line fun _ hg=>hg.shift
     ·split at ht
      ·cases ht;exact h.line fun _ hg=>hg.shift
      ·split at ht
       ·cases ht;exact h.erase
       ·split at ht
        ·cases ht;exact h.up
        ·split at ht
         ·cases ht;exact h.scroll
         ·split at ht
          ·cases ht;exact h.region (by omega) hm
          ·cases ht
theorem Scr.ok.set {a:Act'} {T:Scr} (ht:S.set a=some T):Nx S T:=by
 unfold Scr.set at ht
 split at ht
 ·cases ht;exact⟨⟨h.w0,h.w1,h.h0,h.h1,h.g0,h.g1,h.nx,h.ny,h.s0x,h.s0y,h.s1x,h.s1y,h.tf,h.fh,h.tl,h.gl,h.gr⟩,rfl,rfl,fun g=>g⟩
 ·split at ht
  ·cases ht
   split
   ·exact h.setTabs (by rw[List.length_set];exact h.tl)
   ·split
    ·exact h.setTabs (by rw[List.length_replicate])
    ·exact .refl h
  ·split at ht
   ·cases ht;exact h.save
   ·cases ht
theorem Scr.ok.csi {a:Act'}:Nx S (S.csi a):=by
 unfold Scr.csi
 split
 ·exact h.modes
 ·split
  ·exact .refl h
  ·split
   ·exact h.set ‹_›
   ·split
    ·rename_i T hT
     exact(h.moved hT).trans (h.moved hT).ok.calm
    ·split
     ·rename_i T hT
      exact(h.changed hT).trans (h.changed hT).ok.calm
     ·exact .refl h
theorem Scr.ok.act {a:Act'}:Nx S (S.act a):=by
 unfold Scr.act
 split
 ·exact h.print
 ·split
  ·exact h.ctl
  ·split
   ·split
    ·exact h.esc
    ·exact .refl h
   ·split
    ·exact h.csi
    ·exact .refl h
theorem Scr.ok.acts {l:List Act'}:Nx S (S.acts l):=by
 unfold Scr.acts
 induction l generalizing S with
 | nil=>exact .refl h
 | cons n l ih=>exact h.act.trans (ih h.act.ok)
theorem Scr.ok.resize {w k:Nat} (w0:0<w) (w1:w≤200) (h0:0<k) (h1:k≤60):(S.resize w k).ok∧(S.resize w k).w=w∧(S.resize w k).h=k :=
 ⟨⟨w0,w1,h0,h1,Gr.fit_resize w0 w1 h0 h1,Gr.fit_resize w0 w1 h0 h1,C7 w0,C7 h0,C7 w0,C7 h0,C7 w0,C7 h0,h0,Nat.le_refl _,h.tl,h.gl,h.gr⟩,rfl,rfl⟩
end
end Lyc
